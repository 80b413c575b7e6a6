/-
  The walk of the reference's middle.
-/
import Derived.Test.YtmoahflgcojfcaaRefLongest
import Derived.Test.YtmoahflgcojfcaaStemSize
import Derived.Test.YtmoahflgcojfcaaStemWalk6
namespace Go.Proofs.Ytmoahflgcojfcaa.RefMiddle
open Go.RowKit Go.PlainAid StemPlain StemSize Base Vowels StemWalk StemWalk2 RefForm RefShort RefLongest
open StemWalk6 (s4_ion s4_else l4_other toList_data)

theorem ruleElem : Elem Try.prog 46 43 (.agg #[.string ⟨#[]⟩, .string ⟨#[]⟩]) 2 32 := .mk_ (by kernel_rfl) (by kernel_rfl) rfl (by decide)

theorem own_ne {w : World} {base : Nat} {e t : TypeId} {size n g : Nat} {v : Value} {xs : List Value} {cs : Array Value} (h : w.ownsRow base e size v n xs) (hg : Blk w g t cs) (hne : e ≠ t) : some g ≠ v.ownBlock := by
  rcases h.2 with ⟨rfl, _⟩ | ⟨g', cap, cur, rfl, _, hh, _⟩
  · simp [Value.ownBlock]
  · intro he
    have : g = g' := by simpa [Value.ownBlock] using he
    subst this
    unfold Blk at hg
    rw [hh] at hg
    injection hg with hg
    injection hg with _ ht
    exact hne ht

theorem pairCells_append (a b : PL) : pairCells (a ++ b) = pairCells a ++ pairCells b := by
  induction a with
  | nil => rfl
  | cons p r ih => simp [pairCells, ih]
theorem l4_snd : ∀ p ∈ L4, p.2 = ⟨#[]⟩ := by
  intro p hp
  simp only [L4, List.mem_cons, List.not_mem_nil, or_false] at hp
  rcases hp with h | h | h | h | h | h | h | h | h | h | h | h | h | h | h | h | h | h | h <;> rw [h]
theorem take_step {k : Nat} {p} (h : L4[k]? = some p) : pairCells (L4.take (k + 1)) = pairCells (L4.take k) ++ [.string p.1, .string ⟨#[]⟩] := by
  have hl : k < L4.length := (List.getElem?_eq_some_iff.1 h).1
  rw [List.take_succ_eq_append_getElem hl, pairCells_append]
  have hp : L4[k] = p := (List.getElem?_eq_some_iff.1 h).2
  rw [hp]
  have := l4_snd p (List.mem_of_getElem? h)
  simp [pairCells, this]

def ends4 : Array Value := (L4.map fun p => Value.string p.1).toArray
theorem ends4_at {k : Nat} {p} (h : L4[k]? = some p) : ends4[k]? = some (.string p.1) := by
  unfold ends4
  rw [List.getElem?_toArray, List.getElem?_map, h]
  rfl

set_option maxHeartbeats 8000000 in
theorem middle_any (s : ByteArray) (w : World) (hs : s.size ≤ 140737488355300) :
    Calls Try.prog 32 #[.string s] w fun e w' => e = .returned (.string (s4 (rep (rep s L2 0) L3 0))) ∧ Below w.heap.size w w' := by
  have hs1 : s.size ≤ 140737488355327 := by omega
  obtain ⟨u1, hu1⟩ : ∃ u, u = rep s L2 0 := ⟨_, rfl⟩
  have z1 : u1.size ≤ s.size + 10 := by rw [hu1]; exact rep_size (by decide)
  obtain ⟨u, hu⟩ : ∃ u, u = rep u1 L3 0 := ⟨_, rfl⟩
  have z2 : u.size ≤ u1.size + 10 := by rw [hu]; exact rep_size (by decide)
  have hz1 : u1.size ≤ 140737488355327 := by omega
  have hz2 : u.size ≤ 140737488355327 := by omega
  have hz3 : u.size ≤ 281474976710656 := by omega
  rw [← hu1, ← hu]
  have HU1 := Lib.hid hu1
  have HU := Lib.hid hu
  clear hu1 hu
  go_enter Try.func32, Try.ntmps32
  go_wp2_with fail
  refine (measured_any s L2 _ _ (w.heap.size + 1) 0 _ hs1 (by decide) (by decide) (by decide) (by simp) (slc_new w _ _)).mono ?_
  rintro e w1 ⟨rfl, hb1⟩
  rw [← HU1.out]
  go_wp2_with fail
  refine (measured_any u1 L3 _ _ (w1.heap.size + 1) 0 _ hz1 (by decide) (by decide) (by decide) (by simp) (slc_new w1 _ _)).mono ?_
  rintro e w2 ⟨rfl, hb2⟩
  rw [← HU.out]
  go_wp2_with fail
  have hbw : Below w.heap.size w w2 := by (repeat (first | exact Below.refl _ _ | assumption | refine balloc ?_ _ | refine bdrew ?_ | refine bdrewN ?_ _ | refine bchain ?_ (by assumption)))
  have hw2 : w.heap.size ≤ w2.heap.size := hbw.size
  go_loopw [3, 45] (fun v i wr => ∃ k : Nat, k ≤ 19 ∧ i = .int .i64 k ∧ wr.ownsRow w.heap.size 43 2 v k (pairCells (L4.take k)) ∧ Below w.heap.size w wr ∧ Blk wr (w2.heap.size + 1) 9 ends4) (fun _ i _ => 19 - (intOf i).toNat)
  case atStart =>
    refine ⟨0, by omega, rfl, ?_, by (repeat (first | exact Below.refl _ _ | assumption | refine balloc ?_ _ | refine bdrew ?_ | refine bdrewN ?_ _ | refine bchain ?_ (by assumption))), ?_⟩
    · exact (World.ownsRow_lit w2 #[] 0 hw2 (by decide) rfl).alloc _
    · have := Blk.new (w2.alloc (.cells #[] 43)) 9 ends4
      rw [show (w2.alloc (.cells #[] 43)).heap.size = w2.heap.size + 1 by simp] at this
      exact this
  case round =>
    obtain ⟨k, hk, rfl, hown, hbel, hblk⟩ := hrel
    obtain ⟨A, c, rfl⟩ := own_slice hown
    have hsz := hbel.size
    by_cases hlt : k < 19
    · obtain ⟨p, hp⟩ : ∃ p, L4[k]? = some p := ⟨_, List.getElem?_eq_getElem hlt⟩
      have c0 := hblk.cell k
      rw [ends4_at hp] at c0
      have hlt2 := hblk.lt
      have HT := Lib.hid (take_step hp)
      clear hp
      go_wp2_with (at_builtin; refine wpList_append1 rfl _ _ rfl ruleElem hown rfl rfl rfl rfl (by omega) (by unfold maxLen; omega) hsz ?_)
      intro v' w3 hown' hg hbel'
      have hbel1 := hbel' _ hbel
      have hblk1 := hblk.grown hg (own_ne hown hblk (by decide))
      clear hbel' hown hg hblk
      go_wp2
      go_roundw
      case rel => exact ⟨k + 1, by omega, by go_num, by rw [HT.out]; exact hown', hbel1, hblk1⟩
      case measure => simp [intOf]; omega
    · obtain rfl : k = 19 := by omega
      have hA : Slc wr wr.heap.size A (pairCells L4) := slc_own hown
      have hbm : Below wr.heap.size wr wr := Below.refl _ _
      rcases hbs : bst u L4 L4.length with _ | j
      · have HN := Lib.hid (s4_else (s := u) (by rw [hbs]; simp))
        have HB := Lib.hid hbs
        clear hbs hown
        go_wp2_with (first
          | (go_at_call 46; refine (longest_ref_none _ _ wr.heap.size _ hz2 (by decide) (by decide) (Nat.le_refl _) hA HB.out).mono ?_; rintro e w4 ⟨rfl, hb4⟩)
          | (go_at_call 50; refine (measured_any u L4 _ _ wr.heap.size 1 _ hz2 (by decide) (by decide) (by decide) (balloc hb4 _).size (hA.below (balloc hb4 _) (Nat.le_refl _))).mono ?_; rintro e w5 ⟨rfl, hb5⟩))
        go_ret
        exact ⟨ret_str HN.out.symm, by (repeat (first | exact Below.refl _ _ | assumption | refine balloc ?_ _ | refine bdrew ?_ | refine bdrewN ?_ _ | refine bchain ?_ (by assumption)))⟩
      · obtain ⟨hjk, q, hq, hsq⟩ := bst_lt u L4 L4.length j hbs
        have hj : j < 19 := hjk
        have HB := Lib.hid hbs
        have HQ := Lib.hid hq
        have hle := sfx_le hsq
        have hcs : (cut u q.1).size ≤ 281474976710656 := by rw [cut_size]; omega
        by_cases h11 : j = 11
        · subst h11
          have hq' : q = (⟨#[105, 111, 110]⟩, ⟨#[]⟩) := Option.some.inj (hq.symm.trans rfl)
          subst hq'
          have hcs2 : (cut u ⟨#[105, 111, 110]⟩).size ≤ 281474976710656 := hcs
          rcases hs1' : sfx (cut u ⟨#[105, 111, 110]⟩) ⟨#[115]⟩ with _ | _
          · rcases ht1 : sfx (cut u ⟨#[105, 111, 110]⟩) ⟨#[116]⟩ with _ | _
            · have HN := Lib.hid (s4_ion hbs hs1' ht1)
              clear hbs hq hsq hcs hown
              go_wp2_with (first
                | (go_at_call 46; refine (longest_ref_some _ _ wr.heap.size _ hz2 (by decide) (by decide) (Nat.le_refl _) hA HB.out HQ.out).mono ?_; rintro e w4 ⟨rfl, hb4⟩)
                | (go_at_call 30; refine (ends_any _ _ _ hcs2 (by decide)).mono ?_; rintro e w' ⟨rfl, rfl⟩)
                | (go_at_call 50; refine (measured_any u L4 _ _ wr.heap.size 1 _ hz2 (by decide) (by decide) (by decide) (balloc hb4 _).size (hA.below (balloc hb4 _) (Nat.le_refl _))).mono ?_; rintro e w5 ⟨rfl, hb5⟩))
              go_ret
              exact ⟨ret_str HN.out.symm, by (repeat (first | exact Below.refl _ _ | assumption | refine balloc ?_ _ | refine bdrew ?_ | refine bdrewN ?_ _ | refine bchain ?_ (by assumption)))⟩
            · have HN := Lib.hid (s4_else (s := u) (by rw [ht1]; simp))
              clear hbs hq hsq hcs hown
              go_wp2_with (first
                | (go_at_call 46; refine (longest_ref_some _ _ wr.heap.size _ hz2 (by decide) (by decide) (Nat.le_refl _) hA HB.out HQ.out).mono ?_; rintro e w4 ⟨rfl, hb4⟩)
                | (go_at_call 30; refine (ends_any _ _ _ hcs2 (by decide)).mono ?_; rintro e w' ⟨rfl, rfl⟩)
                | (go_at_call 50; refine (measured_any u L4 _ _ wr.heap.size 1 _ hz2 (by decide) (by decide) (by decide) (balloc hb4 _).size (hA.below (balloc hb4 _) (Nat.le_refl _))).mono ?_; rintro e w5 ⟨rfl, hb5⟩))
              go_ret
              exact ⟨ret_str HN.out.symm, by (repeat (first | exact Below.refl _ _ | assumption | refine balloc ?_ _ | refine bdrew ?_ | refine bdrewN ?_ _ | refine bchain ?_ (by assumption)))⟩
          · have HN := Lib.hid (s4_else (s := u) (by rw [hs1']; simp))
            clear hbs hq hsq hcs hown
            go_wp2_with (first
              | (go_at_call 46; refine (longest_ref_some _ _ wr.heap.size _ hz2 (by decide) (by decide) (Nat.le_refl _) hA HB.out HQ.out).mono ?_; rintro e w4 ⟨rfl, hb4⟩)
              | (go_at_call 30; refine (ends_any _ _ _ hcs2 (by decide)).mono ?_; rintro e w' ⟨rfl, rfl⟩)
              | (go_at_call 50; refine (measured_any u L4 _ _ wr.heap.size 1 _ hz2 (by decide) (by decide) (by decide) (balloc hb4 _).size (hA.below (balloc hb4 _) (Nat.le_refl _))).mono ?_; rintro e w5 ⟨rfl, hb5⟩))
            go_ret
            exact ⟨ret_str HN.out.symm, by (repeat (first | exact Below.refl _ _ | assumption | refine balloc ?_ _ | refine bdrew ?_ | refine bdrewN ?_ _ | refine bchain ?_ (by assumption)))⟩
        · have HN := Lib.hid (s4_else (s := u) (by rw [hbs]; simp [h11]))
          have hcs2 : (cut u q.1).size ≤ 281474976710656 := hcs
          have hion : (q.1.toList == [105, 111, 110]) = false := by
            have := l4_other j hj h11
            rw [hq] at this
            rw [toList_data]
            exact Option.some.inj this
          clear hbs hq hsq hown
          go_wp2_with (first
            | (go_at_call 46; refine (longest_ref_some _ _ wr.heap.size _ hz2 (by decide) (by decide) (Nat.le_refl _) hA HB.out HQ.out).mono ?_; rintro e w4 ⟨rfl, hb4⟩)
            | (go_at_call 30; refine (ends_any _ _ _ hcs2 (by decide)).mono ?_; rintro e w' ⟨rfl, rfl⟩)
            | (go_at_call 50; refine (measured_any u L4 _ _ wr.heap.size 1 _ hz2 (by decide) (by decide) (by decide) (balloc hb4 _).size (hA.below (balloc hb4 _) (Nat.le_refl _))).mono ?_; rintro e w5 ⟨rfl, hb5⟩))
          go_ret
          exact ⟨ret_str HN.out.symm, by (repeat (first | exact Below.refl _ _ | assumption | refine balloc ?_ _ | refine bdrew ?_ | refine bdrewN ?_ _ | refine bchain ?_ (by assumption)))⟩
end Go.Proofs.Ytmoahflgcojfcaa.RefMiddle
