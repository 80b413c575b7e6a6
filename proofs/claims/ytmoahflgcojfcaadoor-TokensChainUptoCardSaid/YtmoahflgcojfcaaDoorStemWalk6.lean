/-
  The walks of tokens.step4, step5 and Stem.
-/
import Derived.Test.YtmoahflgcojfcaaDoorStemWalk4
import Derived.Test.YtmoahflgcojfcaaDoorStemWalk5
namespace Go.Proofs.YtmoahflgcojfcaaDoor.StemWalk6
set_option maxRecDepth 100000
open Go.RowKit Go.PlainAid StemPlain Base Vowels StemWalk StemWalk2 StemWalk3 StemWalk4 StemWalk5

theorem s4_ion {s : ByteArray} (h : bst s L4 L4.length = some 11) (h1 : sfx (cut s ⟨#[105, 111, 110]⟩) ⟨#[115]⟩ = false) (h2 : sfx (cut s ⟨#[105, 111, 110]⟩) ⟨#[116]⟩ = false) : s4 s = s := by
  unfold s4; rw [if_pos ⟨h, h1, h2⟩]
theorem s4_else {s : ByteArray} (h : ¬ (bst s L4 L4.length = some 11 ∧ sfx (cut s ⟨#[105, 111, 110]⟩) ⟨#[115]⟩ = false ∧ sfx (cut s ⟨#[105, 111, 110]⟩) ⟨#[116]⟩ = false)) : s4 s = rep s L4 1 := by
  unfold s4; exact if_neg h
theorem l4_other : ∀ j, j < 19 → j ≠ 11 → (L4[j]?.map fun p => p.1.data.toList == [105, 111, 110]) = some false := by decide +kernel
theorem toList_data (b : ByteArray) : b.toList = b.data.toList := by rw [ByteArray.toList_eq]

set_option maxHeartbeats 4000000 in
theorem step4_any (s : ByteArray) (w : World) (hs : s.size ≤ 281474976710656) :
    Calls Tryd.prog 35 #[.string s] w fun r w' => r = .returned (.string (s4 s)) ∧ Below w.heap.size w w' := by
  rcases hbs : bst s L4 L4.length with _ | j
  · have HN := Lib.hid (s4_else (s := s) (by rw [hbs]; simp))
    have HL := Lib.hid (lrest_none hbs)
    have HB := Lib.hid hbs
    clear hbs
    go_enter Tryd.func35, Tryd.ntmps35
    go_wp2_with (first
      | (go_at_call 58; refine (longest_any s L4 _ _ (w.heap.size + 1) _ hs (by decide) (by decide) (by simp) (slc_new w _ _)).mono ?_; rw [HL.out, HB.out]; simp only [atv]; rintro e w1 ⟨rfl, hb1⟩)
      | (go_at_call 59; refine (replace_any s L4 _ _ (w.heap.size + 1) 1 _ hs (by decide) (by decide) (by decide) (by have := hb1.size; simpa using this) ((slc_new w _ _).below hb1 (by simp))).mono ?_; rintro e w2 ⟨rfl, hb2⟩))
    go_ret
    exact ⟨ret_str HN.out.symm, by (repeat (first | exact Below.refl _ _ | assumption | refine balloc ?_ _ | refine bdrew ?_ | refine bdrewN ?_ _ | refine bchain ?_ (by assumption)))⟩
  · obtain ⟨hjk, q, hq, hsq⟩ := bst_lt s L4 L4.length j hbs
    have hj : j < 19 := hjk
    have HL := Lib.hid (lrest_some hbs hq)
    have HB := Lib.hid hbs
    have hle := sfx_le hsq
    have hcs : (cut s q.1).size ≤ 281474976710656 := by rw [cut_size]; omega
    have d1 : decide ((0 : Int) ≤ 2 * (j : Int)) = true := by simp; omega
    have e2 : (2 : Int) * (j : Int) < 38 := by omega
    have e4 : ((2 : Int) * (j : Int)).toNat = 2 * j := by omega
    have hc1 := (pairCells_at L4 j q hq).1
    by_cases h11 : j = 11
    · subst h11
      have hq' : q = (⟨#[105, 111, 110]⟩, ⟨#[]⟩) := Option.some.inj (hq.symm.trans rfl)
      subst hq'
      have HL' : Hid (lrest s L4 = cut s ⟨#[105, 111, 110]⟩) := HL
      have hcs' : (cut s ⟨#[105, 111, 110]⟩).size ≤ 281474976710656 := hcs
      obtain ⟨r, hr⟩ : ∃ r, r = cut s ⟨#[105, 111, 110]⟩ := ⟨_, rfl⟩
      rw [← hr] at HL' hcs'
      clear HL hcs hq hsq hle
      rcases hs1 : sfx r ⟨#[115]⟩ with _ | _
      · rcases ht1 : sfx r ⟨#[116]⟩ with _ | _
        · have HN := Lib.hid (s4_ion hbs (by rw [← hr]; exact hs1) (by rw [← hr]; exact ht1))
          clear hbs hr
          go_enter Tryd.func35, Tryd.ntmps35
          go_wp2_with (first
            | (go_at_call 58; refine (longest_any s L4 _ _ (w.heap.size + 1) _ hs (by decide) (by decide) (by simp) (slc_new w _ _)).mono ?_; rw [HL'.out, HB.out]; simp only [atv]; rintro e w1 ⟨rfl, hb1⟩; have hcell : w1.cell? ⟨w.heap.size, 22, none⟩ = some (.string ⟨#[105, 111, 110]⟩) := (hb1.cell (p := ⟨w.heap.size, 22, none⟩) (by simp)).trans (by rw [World.cell?_alloc_mark, List.getElem?_toArray]; exact hc1))
            | (go_at_call 33; refine (hasSuffix_any _ _ _ hcs' (by decide)).mono ?_; rintro e w' ⟨rfl, rfl⟩)
            | (go_at_call 59; refine (replace_any s L4 _ _ (w.heap.size + 1) 1 _ hs (by decide) (by decide) (by decide) (by have := hb1.size; simpa using this) ((slc_new w _ _).below hb1 (by simp))).mono ?_; rintro e w2 ⟨rfl, hb2⟩))
          go_ret
          exact ⟨ret_str HN.out.symm, by (repeat (first | exact Below.refl _ _ | assumption | refine balloc ?_ _ | refine bdrew ?_ | refine bdrewN ?_ _ | refine bchain ?_ (by assumption)))⟩
        · have HN := Lib.hid (s4_else (s := s) (by rw [← hr, ht1]; simp))
          clear hbs hr
          go_enter Tryd.func35, Tryd.ntmps35
          go_wp2_with (first
            | (go_at_call 58; refine (longest_any s L4 _ _ (w.heap.size + 1) _ hs (by decide) (by decide) (by simp) (slc_new w _ _)).mono ?_; rw [HL'.out, HB.out]; simp only [atv]; rintro e w1 ⟨rfl, hb1⟩; have hcell : w1.cell? ⟨w.heap.size, 22, none⟩ = some (.string ⟨#[105, 111, 110]⟩) := (hb1.cell (p := ⟨w.heap.size, 22, none⟩) (by simp)).trans (by rw [World.cell?_alloc_mark, List.getElem?_toArray]; exact hc1))
            | (go_at_call 33; refine (hasSuffix_any _ _ _ hcs' (by decide)).mono ?_; rintro e w' ⟨rfl, rfl⟩)
            | (go_at_call 59; refine (replace_any s L4 _ _ (w.heap.size + 1) 1 _ hs (by decide) (by decide) (by decide) (by have := hb1.size; simpa using this) ((slc_new w _ _).below hb1 (by simp))).mono ?_; rintro e w2 ⟨rfl, hb2⟩))
          go_ret
          exact ⟨ret_str HN.out.symm, by (repeat (first | exact Below.refl _ _ | assumption | refine balloc ?_ _ | refine bdrew ?_ | refine bdrewN ?_ _ | refine bchain ?_ (by assumption)))⟩
      · have HN := Lib.hid (s4_else (s := s) (by rw [← hr, hs1]; simp))
        clear hbs hr
        go_enter Tryd.func35, Tryd.ntmps35
        go_wp2_with (first
          | (go_at_call 58; refine (longest_any s L4 _ _ (w.heap.size + 1) _ hs (by decide) (by decide) (by simp) (slc_new w _ _)).mono ?_; rw [HL'.out, HB.out]; simp only [atv]; rintro e w1 ⟨rfl, hb1⟩; have hcell : w1.cell? ⟨w.heap.size, 22, none⟩ = some (.string ⟨#[105, 111, 110]⟩) := (hb1.cell (p := ⟨w.heap.size, 22, none⟩) (by simp)).trans (by rw [World.cell?_alloc_mark, List.getElem?_toArray]; exact hc1))
          | (go_at_call 33; refine (hasSuffix_any _ _ _ hcs' (by decide)).mono ?_; rintro e w' ⟨rfl, rfl⟩)
          | (go_at_call 59; refine (replace_any s L4 _ _ (w.heap.size + 1) 1 _ hs (by decide) (by decide) (by decide) (by have := hb1.size; simpa using this) ((slc_new w _ _).below hb1 (by simp))).mono ?_; rintro e w2 ⟨rfl, hb2⟩))
        go_ret
        exact ⟨ret_str HN.out.symm, by (repeat (first | exact Below.refl _ _ | assumption | refine balloc ?_ _ | refine bdrew ?_ | refine bdrewN ?_ _ | refine bchain ?_ (by assumption)))⟩
    · have HN := Lib.hid (s4_else (s := s) (by rw [hbs]; simp [h11]))
      have hion : (q.1.toList == [105, 111, 110]) = false := by
        have := l4_other j hj h11
        rw [hq] at this
        rw [toList_data]
        exact Option.some.inj this
      clear hbs hq hsq
      go_enter Tryd.func35, Tryd.ntmps35
      go_wp2_with (first
        | (go_at_call 58; refine (longest_any s L4 _ _ (w.heap.size + 1) _ hs (by decide) (by decide) (by simp) (slc_new w _ _)).mono ?_; rw [HL.out, HB.out]; simp only [atv]; rintro e w1 ⟨rfl, hb1⟩; have hcell : w1.cell? ⟨w.heap.size, 2 * j, none⟩ = some (.string q.1) := (hb1.cell (p := ⟨w.heap.size, 2 * j, none⟩) (by simp)).trans (by rw [World.cell?_alloc_mark, List.getElem?_toArray]; exact hc1))
        | (go_at_call 33; refine (hasSuffix_any _ _ _ hcs (by decide)).mono ?_; rintro e w' ⟨rfl, rfl⟩)
        | (go_at_call 59; refine (replace_any s L4 _ _ (w.heap.size + 1) 1 _ hs (by decide) (by decide) (by decide) (by have := hb1.size; simpa using this) ((slc_new w _ _).below hb1 (by simp))).mono ?_; rintro e w2 ⟨rfl, hb2⟩))
      go_ret
      exact ⟨ret_str HN.out.symm, by (repeat (first | exact Below.refl _ _ | assumption | refine balloc ?_ _ | refine bdrew ?_ | refine bdrewN ?_ _ | refine bchain ?_ (by assumption)))⟩

end Go.Proofs.YtmoahflgcojfcaaDoor.StemWalk6
