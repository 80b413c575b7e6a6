/-
  The walks of tokens.replace, step2, step3, strings.CutSuffix.
-/
import Derived.Test.YtmoahflgcojfcaaDoorStemWalk2
namespace Go.Proofs.YtmoahflgcojfcaaDoor.StemWalk3
set_option maxRecDepth 100000
open Go.RowKit Go.PlainAid StemPlain Base Vowels StemWalk StemWalk2

theorem meas_lt (s : ByteArray) : meas s ≤ s.size := by unfold meas; have := msTo_le s (s.size - 1); omega

set_option maxHeartbeats 2000000 in
theorem replace_any (s : ByteArray) (L : PL) (A : Option Addr) (c B m : Nat) (w : World) (hs : s.size ≤ 281474976710656) (hL : L.length ≤ 1000) (hLs : ∀ p ∈ L, p.1.size ≤ 1000 ∧ p.2.size ≤ 1000) (hm : m ≤ 1000) (hB : B ≤ w.heap.size) (hA : Slc w B A (pairCells L)) :
    Calls Tryd.prog 59 #[.string s, .slice A (2 * L.length) c, .int .i64 (m : Int)] w fun r w' => r = .returned (.string (rep s L m)) ∧ Below w.heap.size w w' := by
  have hL1 : ∀ p ∈ L, p.1.size ≤ 1000 := fun p hp => (hLs p hp).1
  rcases hbs : bst s L L.length with _ | j
  · have HN := Lib.hid (rep_none (m := m) hbs)
    have HL := Lib.hid (lrest_none hbs)
    have HB := Lib.hid hbs
    clear hbs
    go_enter Tryd.func59, Tryd.ntmps59
    go_wp2_with (go_at_call 58; refine (longest_any _ L _ _ B _ hs hL hL1 hB hA).mono ?_; rw [HL.out, HB.out]; simp only [atv]; rintro e w1 ⟨rfl, hb1⟩)
    go_ret
    exact ⟨ret_str HN.out.symm, hb1⟩
  · obtain ⟨hjk, q, hq, hsq⟩ := bst_lt s L L.length j hbs
    have hqs := hLs q (List.mem_of_getElem? hq)
    have HL := Lib.hid (lrest_some hbs hq)
    have HB := Lib.hid hbs
    have hle := sfx_le hsq
    have hcs : (cut s q.1).size ≤ 281474976710656 := by rw [cut_size]; omega
    have hms := meas_lt (cut s q.1)
    have d1 : decide ((2 : Int) * (j : Int) < 0) = false := by simp; omega
    obtain ⟨g, o, rfl, hg, hc⟩ := hA (pairCells_ne (by omega))
    by_cases hlow : meas (cut s q.1) ≤ m
    · have HN := Lib.hid (rep_low hbs hq hlow)
      have hlow' : ((meas (cut s q.1) : Nat) : Int) ≤ (m : Int) := by omega
      clear hbs hc hsq
      go_enter Tryd.func59, Tryd.ntmps59
      go_wp2_with (first
        | (go_at_call 58; refine (longest_any _ L _ _ B _ hs hL hL1 hB hA).mono ?_; rw [HL.out, HB.out]; simp only [atv]; rintro e w1 ⟨rfl, hb1⟩)
        | (go_at_call 56; refine (measure_any _ _ hcs).mono ?_; rintro e w2 ⟨rfl, hb2⟩))
      go_ret
      exact ⟨ret_str HN.out.symm, hb1.trans (hb2.mono hb1.size)⟩
    · have HN := Lib.hid (rep_high hbs hq hlow)
      have c1 := hc (2 * j + 1) _ (pairCells_at L j q hq).2
      have hlow' : (m : Int) < ((meas (cut s q.1) : Nat) : Int) := by omega
      have e2 : (2 : Int) * (j : Int) + 1 < ((2 * L.length : Nat) : Int) := by omega
      clear hbs hc hsq
      go_enter Tryd.func59, Tryd.ntmps59
      go_wp2_with (first
        | (go_at_call 58; refine (longest_any _ L _ _ B _ hs hL hL1 hB hA).mono ?_; rw [HL.out, HB.out]; simp only [atv]; rintro e w1 ⟨rfl, hb1⟩)
        | (go_at_call 56; refine (measure_any _ _ hcs).mono ?_; rintro e w2 ⟨rfl, hb2⟩; have c2 := ((hb1.trans (hb2.mono hb1.size)).cell (p := ⟨g, o + (2 * j + 1), none⟩) (show g < w.heap.size by omega)).trans c1))
      go_ret
      exact ⟨ret_str HN.out.symm, hb1.trans (hb2.mono hb1.size)⟩

theorem sl_hasSuffix {s e : ByteArray} {b : Bool} (hb : sfx s e = b) (w : World) (hs : s.size ≤ 281474976710656) (he : e.size ≤ 281474976710656) :
    Calls Tryd.prog 54 #[.string s, .string e] w fun r w' => r = .returned (.bool b) ∧ w' = w := by
  subst hb
  by_cases h : e.size ≤ s.size
  · have HL := Lib.hid (sfx_long h)
    go_enter Tryd.func54, Tryd.ntmps54
    go_wp2
    go_ret
    exact ⟨ret_bool HL.out, rfl⟩
  · have hs := Lib.hid (sfx_short h)
    go_enter Tryd.func54, Tryd.ntmps54
    go_wp2
    go_ret
    exact ⟨ret_bool hs.out.symm, rfl⟩

set_option maxHeartbeats 1000000 in
theorem cutSuffix_yes (s e : ByteArray) (w : World) (hs : s.size ≤ 281474976710656) (h : sfx s e = true) :
    Calls Tryd.prog 55 #[.string s, .string e] w fun r w' => r = .returned (.tuple #[.string (cut s e), .bool true]) ∧ w' = w := by
  have hle := sfx_le h
  have HX := Lib.hid h
  clear h
  go_enter Tryd.func55, Tryd.ntmps55
  go_wp2_with (first
    | (go_at_call 54; refine (sl_hasSuffix HX.out _ hs (by omega)).mono ?_; rintro e w' ⟨rfl, rfl⟩)
    | (go_at_call 80; go_in))
  go_ret2
  exact ⟨rfl, rfl⟩

set_option maxHeartbeats 1000000 in
theorem cutSuffix_no (s e : ByteArray) (w : World) (hs : s.size ≤ 281474976710656) (he : e.size ≤ 281474976710656) (h : sfx s e = false) :
    Calls Tryd.prog 55 #[.string s, .string e] w fun r w' => r = .returned (.tuple #[.string s, .bool false]) ∧ w' = w := by
  have HX := Lib.hid h
  clear h
  go_enter Tryd.func55, Tryd.ntmps55
  go_wp2_with (first
    | (go_at_call 54; refine (sl_hasSuffix HX.out _ hs he).mono ?_; rintro e w' ⟨rfl, rfl⟩)
    | (go_at_call 80; go_in))
  go_ret2
  exact ⟨rfl, rfl⟩

set_option maxHeartbeats 1000000 in
theorem step1a_any (s : ByteArray) (w : World) (hs : s.size ≤ 281474976710656) :
    Calls Tryd.prog 40 #[.string s] w fun r w' => r = .returned (.string (s1a s)) ∧ Below w.heap.size w w' := by
  have hB : w.heap.size + 1 ≤ w.heap.size + 1 := Nat.le_refl _
  rcases hbs : bst s L1a L1a.length with _ | j
  · have HN := Lib.hid (sub_none hbs)
    have HL := Lib.hid (lrest_none hbs)
    have HB := Lib.hid hbs
    clear hbs
    go_enter Tryd.func40, Tryd.ntmps40
    go_wp2_with (go_at_call 58; refine (longest_any s L1a _ _ (w.heap.size + 1) _ hs (by decide) (by decide) (by simp) (slc_new w _ _)).mono ?_; rw [HL.out, HB.out]; simp only [atv]; rintro e w1 ⟨rfl, hb1⟩)
    go_ret
    exact ⟨ret_str HN.out.symm, ((Below.refl _ _).alloc (Nat.le_refl _) _).trans (hb1.mono (by simp))⟩
  · obtain ⟨hjk, q, hq, hsq⟩ := bst_lt s L1a L1a.length j hbs
    have HN := Lib.hid (sub_some hbs hq)
    have HL := Lib.hid (lrest_some hbs hq)
    have HB := Lib.hid hbs
    have hle := sfx_le hsq
    have hcs : (cut s q.1).size ≤ 281474976710656 := by rw [cut_size]; omega
    clear hbs hsq
    have hj4 : j < 4 := hjk
    obtain rfl | rfl | rfl | rfl : j = 0 ∨ j = 1 ∨ j = 2 ∨ j = 3 := by omega
    all_goals
      simp only [L1a, List.getElem?_cons_zero, List.getElem?_cons_succ, Option.some.injEq] at hq
      subst hq
      go_enter Tryd.func40, Tryd.ntmps40
      go_wp2_with (go_at_call 58; refine (longest_any s L1a _ _ (w.heap.size + 1) _ hs (by decide) (by decide) (by simp) (slc_new w _ _)).mono ?_; rw [HL.out, HB.out]; simp only [atv]; rintro e w1 ⟨rfl, hb1⟩)
      go_ret
      exact ⟨ret_str HN.out.symm, (((Below.refl _ _).alloc (Nat.le_refl _) _).trans (hb1.mono (by simp))).alloc (by have := hb1.size; simp at this; omega) _⟩
end Go.Proofs.YtmoahflgcojfcaaDoor.StemWalk3
