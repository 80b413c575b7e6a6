/-
  The walk of the reference's longest.
-/
import Derived.Test.YtmoahflgcojfcaaRefShort
import Derived.RegionTactic
namespace Go.Proofs.Ytmoahflgcojfcaa.RefLongest
open Go.RowKit Go.PlainAid StemPlain Base Vowels StemWalk StemWalk2 RefForm

/-- The pair that the reference holds best after k rules. -/
def bp (s : ByteArray) (L : PL) (k : Nat) : ByteArray × ByteArray :=
  match bst s L k with
  | none => (⟨#[]⟩, ⟨#[]⟩)
  | some j => (L[j]?).getD (⟨#[]⟩, ⟨#[]⟩)
theorem bp_none {s : ByteArray} {L : PL} {k : Nat} (h : bst s L k = none) : bp s L k = (⟨#[]⟩, ⟨#[]⟩) := by unfold bp; rw [h]
theorem bp_some {s : ByteArray} {L : PL} {k j : Nat} {q} (h : bst s L k = some j) (hq : L[j]? = some q) : bp s L k = q := by unfold bp; rw [h]; simp [hq]

def PostL (s : ByteArray) (L : PL) (w : World) (e : Ending) (w' : World) : Prop :=
  e = .returned (.tuple #[.string (s.extract 0 (s.size - (bp s L L.length).1.size)), .agg #[.string (bp s L L.length).1, .string (bp s L L.length).2], .bool (bst s L L.length).isSome]) ∧ Below w.heap.size w w'

set_option maxHeartbeats 4000000 in
theorem longest_ref (s : ByteArray) (L : PL) (A : Option Addr) (c B : Nat) (w : World) (hs : s.size ≤ 140737488355327) (hL : L.length ≤ 1000) (hLs : ∀ p ∈ L, p.1.size ≤ 1000) (hB : B ≤ w.heap.size) (hA : Slc w B A (pairCells L)) :
    Calls Try.prog 46 #[.string s, .slice A L.length c] w (PostL s L w) := by
  go_enter Try.func46, Try.ntmps46
  go_wp2
  go_loopw [8, 14] (fun f i wr => ∃ k : Nat, k ≤ L.length ∧ i = .int .i64 k ∧ f = .bool (bst s L k).isSome ∧ Below w.heap.size w wr ∧
      Blk wr w.heap.size 43 #[.string ⟨#[]⟩, .string ⟨#[]⟩] ∧ Blk wr (w.heap.size + 1) 43 #[.string (bp s L k).1, .string (bp s L k).2]) (fun _ i _ => L.length - (intOf i).toNat)
  case atStart => exact ⟨0, Nat.zero_le _, rfl, rfl, balloc (balloc (Below.refl _ _) _) _, (Blk.new _ _ _).alloc _, by rw [show bp s L 0 = (⟨#[]⟩, ⟨#[]⟩) from bp_none rfl]; have := Blk.new (w.alloc (.cells #[.string ⟨#[]⟩, .string ⟨#[]⟩] 43)) 43 #[.string ⟨#[]⟩, .string ⟨#[]⟩]; simpa using this⟩
  case round =>
    obtain ⟨k, hk, rfl, rfl, hbel, hB0, hB1⟩ := hrel
    by_cases hlt : k < L.length
    · obtain ⟨g, o, rfl, hg, hc⟩ := (hA.below hbel hB) (pairCells_ne (by omega))
      obtain ⟨p, hp⟩ : ∃ p, L[k]? = some p := ⟨_, List.getElem?_eq_getElem hlt⟩
      have hps := hLs p (List.mem_of_getElem? hp)
      have c0 : wr.cell? ⟨g, o + k * 2, none⟩ = some (.string p.1) := by have := hc (2 * k) _ (pairCells_at L k p hp).1; rwa [Nat.mul_comm] at this
      have c1 : wr.cell? ⟨g, o + k * 2 + 1, none⟩ = some (.string p.2) := by have := hc (2 * k + 1) _ (pairCells_at L k p hp).2; rwa [Nat.mul_comm, ← Nat.add_assoc] at this
      have hlt1 := hB1.lt
      have q0 := hB1.cell 0
      have q1 := hB1.cell 1
      have z0 := hB1.frozen 0
      have z1 := hB1.frozen 1
      simp only [List.getElem?_toArray, List.getElem?_cons_zero, List.getElem?_cons_succ] at q0 q1
      rcases hsx : sfx s p.1 with _ | _
      · have HN := Lib.hid (bst_no hp hsx)
        have HP : Hid (bp s L (k + 1) = bp s L k) := Lib.hid (by unfold bp; rw [HN.out])
        have HX := Lib.hid hsx
        clear hc hA hsx
        go_wp2_with (go_at_call 30; refine (ends_val HX.out _ (by omega) (by omega)).mono ?_; rintro e w' ⟨rfl, rfl⟩)
        go_roundw
        case rel => exact ⟨k + 1, by omega, by go_num, by rw [HN.out], balloc hbel _, hB0.alloc _, by rw [HP.out]; exact hB1.alloc _⟩
        case measure => simp [intOf]; omega
      · rcases hbs : bst s L k with _ | j
        · have HN := Lib.hid (bst_new hp hsx hbs)
          have HP : Hid (bp s L (k + 1) = p) := Lib.hid (bp_some HN.out hp)
          have HX := Lib.hid hsx
          rw [bp_none hbs] at q0 q1 hB1
          clear hc hA hsx hbs
          simp only [Option.isSome_none]
          go_wp2_with (go_at_call 30; refine (ends_val HX.out _ (by omega) (by omega)).mono ?_; rintro e w' ⟨rfl, rfl⟩)
          go_roundw
          case rel =>
            refine ⟨k + 1, by omega, by go_num, by rw [HN.out]; rfl, ?_, ?_, ?_⟩
            · exact balloc ((hbel.setCell (p := ⟨w.heap.size + 1, 0, none⟩) (show w.heap.size ≤ w.heap.size + 1 by omega) _).setCell (p := ⟨w.heap.size + 1, 1, none⟩) (show w.heap.size ≤ w.heap.size + 1 by omega) _) _
            · exact ((hB0.far (p := ⟨w.heap.size + 1, 0, none⟩) (show w.heap.size ≠ w.heap.size + 1 by omega) _).far (p := ⟨w.heap.size + 1, 1, none⟩) (show w.heap.size ≠ w.heap.size + 1 by omega) _).alloc _
            · rw [HP.out]
              exact ((hB1.set_ 0 _).set_ 1 _).alloc _
          case measure => simp [intOf]; omega
        · obtain ⟨hjk, q, hq, hsq⟩ := bst_lt s L k j hbs
          rw [bp_some hbs hq] at q0 q1 hB1
          have hqs := hLs q (List.mem_of_getElem? hq)
          simp only [Option.isSome_some]
          by_cases hsz : q.1.size < p.1.size
          · have HN := Lib.hid (bst_up hp hsx hbs hq hsz)
            have HP : Hid (bp s L (k + 1) = p) := Lib.hid (bp_some HN.out hp)
            have HX := Lib.hid hsx
            have d2 : decide ((q.1.size : Int) < (p.1.size : Int)) = true := by simp; omega
            clear hc hA hsx hbs hsq
            go_wp2_with (go_at_call 30; refine (ends_val HX.out _ (by omega) (by omega)).mono ?_; rintro e w' ⟨rfl, rfl⟩)
            go_roundw
            case rel =>
              refine ⟨k + 1, by omega, by go_num, by rw [HN.out]; rfl, ?_, ?_, ?_⟩
              · exact balloc ((hbel.setCell (p := ⟨w.heap.size + 1, 0, none⟩) (show w.heap.size ≤ w.heap.size + 1 by omega) _).setCell (p := ⟨w.heap.size + 1, 1, none⟩) (show w.heap.size ≤ w.heap.size + 1 by omega) _) _
              · exact ((hB0.far (p := ⟨w.heap.size + 1, 0, none⟩) (show w.heap.size ≠ w.heap.size + 1 by omega) _).far (p := ⟨w.heap.size + 1, 1, none⟩) (show w.heap.size ≠ w.heap.size + 1 by omega) _).alloc _
              · rw [HP.out]
                exact ((hB1.set_ 0 _).set_ 1 _).alloc _
            case measure => simp [intOf]; omega
          · have HN := Lib.hid (bst_stay hp hsx hbs hq hsz)
            have HP : Hid (bp s L (k + 1) = q) := Lib.hid (bp_some HN.out hq)
            have HX := Lib.hid hsx
            have d2 : decide ((q.1.size : Int) < (p.1.size : Int)) = false := by simp; omega
            clear hc hA hsx hbs hsq
            go_wp2_with (go_at_call 30; refine (ends_val HX.out _ (by omega) (by omega)).mono ?_; rintro e w' ⟨rfl, rfl⟩)
            go_roundw
            case rel => exact ⟨k + 1, by omega, by go_num, by rw [HN.out]; rfl, balloc hbel _, hB0.alloc _, by rw [HP.out]; exact hB1.alloc _⟩
            case measure => simp [intOf]; omega
    · obtain rfl : k = L.length := by omega
      have hle : (bp s L L.length).1.size ≤ s.size := by
        rcases hbs : bst s L L.length with _ | j
        · rw [bp_none hbs]; exact Nat.zero_le _
        · obtain ⟨_, q, hq, hsq⟩ := bst_lt s L L.length j hbs
          rw [bp_some hbs hq]
          exact sfx_le hsq
      obtain ⟨q, hq⟩ : ∃ q, q = bp s L L.length := ⟨_, rfl⟩
      rw [← hq] at hB1 hle
      have HQ := Lib.hid hq
      have hlt1 := hB1.lt
      have q0 := hB1.cell 0
      have q1 := hB1.cell 1
      have z0 := hB0.frozen 0
      have z1 := hB0.frozen 1
      have r0 := hB0.cell 0
      have r1 := hB0.cell 1
      simp only [List.getElem?_toArray, List.getElem?_cons_zero, List.getElem?_cons_succ] at q0 q1 r0 r1
      clear hq
      go_wp2_with fail
      go_region
      go_wp2
      refine bodyPost_ret (v := .tuple #[.string (s.extract 0 (s.size - q.1.size)), .agg #[.string q.1, .string q.2], .bool (bst s L L.length).isSome]) (by simp [results, Try.results46, go_sem, q0, q1, r0, r1]) rfl ⟨by rw [← HQ.out], ?_⟩
      exact ((hbel.setCell (p := ⟨w.heap.size, 0, none⟩) (Nat.le_refl _) _).setCell (p := ⟨w.heap.size, 1, none⟩) (Nat.le_refl _) _).drew

theorem extract_all (s : ByteArray) : s.extract 0 s.size = s := by
  apply ByteArray.ext
  rw [ByteArray.data_extract]
  show s.data.extract 0 s.data.size = s.data
  simp

theorem longest_ref_none {s : ByteArray} {L : PL} (A : Option Addr) (c B : Nat) (w : World) (hs : s.size ≤ 140737488355327) (hL : L.length ≤ 1000) (hLs : ∀ p ∈ L, p.1.size ≤ 1000) (hB : B ≤ w.heap.size) (hA : Slc w B A (pairCells L)) (hbs : bst s L L.length = none) :
    Calls Try.prog 46 #[.string s, .slice A L.length c] w fun e w' =>
      e = .returned (.tuple #[.string s, .agg #[.string ⟨#[]⟩, .string ⟨#[]⟩], .bool false]) ∧ Below w.heap.size w w' :=
  (longest_ref s L A c B w hs hL hLs hB hA).mono fun e w' ⟨he, hw⟩ => ⟨by
    rw [he, bp_none hbs, hbs]
    have : s.extract 0 (s.size - (⟨#[]⟩ : ByteArray).size) = s := extract_all s
    rw [this]
    rfl, hw⟩
theorem longest_ref_some {s : ByteArray} {L : PL} {j : Nat} {q} (A : Option Addr) (c B : Nat) (w : World) (hs : s.size ≤ 140737488355327) (hL : L.length ≤ 1000) (hLs : ∀ p ∈ L, p.1.size ≤ 1000) (hB : B ≤ w.heap.size) (hA : Slc w B A (pairCells L)) (hbs : bst s L L.length = some j) (hq : L[j]? = some q) :
    Calls Try.prog 46 #[.string s, .slice A L.length c] w fun e w' =>
      e = .returned (.tuple #[.string (cut s q.1), .agg #[.string q.1, .string q.2], .bool true]) ∧ Below w.heap.size w w' :=
  (longest_ref s L A c B w hs hL hLs hB hA).mono fun e w' ⟨he, hw⟩ => ⟨by
    rw [he, bp_some hbs hq, hbs]
    rfl, hw⟩

set_option maxHeartbeats 2000000 in
theorem measured_any (s : ByteArray) (L : PL) (A : Option Addr) (c B m : Nat) (w : World) (hs : s.size ≤ 140737488355327) (hL : L.length ≤ 1000) (hLs : ∀ p ∈ L, p.1.size ≤ 1000 ∧ p.2.size ≤ 1000) (hm : m ≤ 1000) (hB : B ≤ w.heap.size) (hA : Slc w B A (pairCells L)) :
    Calls Try.prog 50 #[.string s, .slice A L.length c, .int .i64 (m : Int)] w fun r w' => r = .returned (.string (rep s L m)) ∧ Below w.heap.size w w' := by
  have hL1 : ∀ p ∈ L, p.1.size ≤ 1000 := fun p hp => (hLs p hp).1
  rcases hbs : bst s L L.length with _ | j
  · have HN := Lib.hid (rep_none (m := m) hbs)
    have HB := Lib.hid hbs
    clear hbs
    go_enter Try.func50, Try.ntmps50
    go_wp2_with (go_at_call 46; refine (longest_ref_none _ _ B _ hs hL hL1 hB hA HB.out).mono ?_; rintro e w1 ⟨rfl, hb1⟩)
    go_ret
    exact ⟨ret_str HN.out.symm, by (repeat (first | exact Below.refl _ _ | assumption | refine balloc ?_ _ | refine bdrew ?_ | refine bdrewN ?_ _ | refine bchain ?_ (by assumption)))⟩
  · obtain ⟨hjk, q, hq, hsq⟩ := bst_lt s L L.length j hbs
    have hqs := hLs q (List.mem_of_getElem? hq)
    have HB := Lib.hid hbs
    have HQ := Lib.hid hq
    have hle := sfx_le hsq
    have hcs : (cut s q.1).size ≤ 140737488355327 := by rw [cut_size]; omega
    have hms : meas (cut s q.1) ≤ (cut s q.1).size := by unfold meas; have := msTo_le (cut s q.1) ((cut s q.1).size - 1); omega
    by_cases hlow : meas (cut s q.1) ≤ m
    · have HN := Lib.hid (rep_low hbs hq hlow)
      have hlow' : ((meas (cut s q.1) : Nat) : Int) ≤ (m : Int) := by omega
      clear hbs hsq hq
      go_enter Try.func50, Try.ntmps50
      go_wp2_with (first
        | (go_at_call 46; refine (longest_ref_some _ _ B _ hs hL hL1 hB hA HB.out HQ.out).mono ?_; rintro e w1 ⟨rfl, hb1⟩)
        | (go_at_call 47; refine (measure_ref _ _ hcs).mono ?_; rintro e w2 ⟨rfl, hb2⟩))
      go_ret
      exact ⟨ret_str HN.out.symm, by (repeat (first | exact Below.refl _ _ | assumption | refine balloc ?_ _ | refine bdrew ?_ | refine bdrewN ?_ _ | refine bchain ?_ (by assumption)))⟩
    · have HN := Lib.hid (rep_high hbs hq hlow)
      have hlow' : (m : Int) < ((meas (cut s q.1) : Nat) : Int) := by omega
      clear hbs hsq hq
      go_enter Try.func50, Try.ntmps50
      go_wp2_with (first
        | (go_at_call 46; refine (longest_ref_some _ _ B _ hs hL hL1 hB hA HB.out HQ.out).mono ?_; rintro e w1 ⟨rfl, hb1⟩)
        | (go_at_call 47; refine (measure_ref _ _ hcs).mono ?_; rintro e w2 ⟨rfl, hb2⟩; have c2 := hb2.cell (p := ⟨w1.heap.size, 1, none⟩) (by simp)))
      go_ret
      exact ⟨ret_str HN.out.symm, by (repeat (first | exact Below.refl _ _ | assumption | refine balloc ?_ _ | refine bdrew ?_ | refine bdrewN ?_ _ | refine bchain ?_ (by assumption)))⟩
end Go.Proofs.Ytmoahflgcojfcaa.RefLongest
