/-
  CompileTables in plain Lean: the tables answer the law.
-/
import Derived.Test.YtfpikilhbkeajaaGreatDoorCLaw
import Derived.Test.YtfpikilhbkeajaaGreatDoorCTab
import Derived.Test.YtfpikilhbkeajaaGreatDoorGoodLoc
set_option linter.unusedVariables false
set_option linter.unusedSimpArgs false
namespace Go.Proofs.YtfpikilhbkeajaaGreatDoor.TablesPlain
set_option maxRecDepth 100000
open Base Query EmitPlain TabPlain TextPlain GoodLoc LawTerms LawAt SortLeaf

theorem trm_leafs {n : Int} {h : Head} {nk : Nat} (hb : locB n true h nk = true) : trm h = hleafs h := by
  obtain ⟨kind, field, text, terms, offs, qn, weight, lo, hi, occur⟩ := h
  have h1 : 1 ≤ kind ∧ kind ≤ 14 := by
    unfold locB at hb
    simp only [Bool.and_eq_true, decide_eq_true_iff] at hb
    exact ⟨hb.1.1.1.1.1, hb.1.1.1.1.2⟩
  rcases (by omega : kind = 1 ∨ kind = 2 ∨ kind = 3 ∨ kind = 4 ∨ kind = 5 ∨ kind = 6 ∨ kind = 7 ∨ kind = 8 ∨ kind = 9 ∨ kind = 10 ∨ kind = 11 ∨ kind = 12 ∨ kind = 13 ∨ kind = 14) with rfl | rfl | rfl | rfl | rfl | rfl | rfl | rfl | rfl | rfl | rfl | rfl | rfl | rfl
  all_goals simp [locB, numB, lstB, hasOf, inR] at hb
  all_goals simp [trm, hleafs, ts]
  all_goals simp [hb]
mutual
theorem trms_leafs {n : Int} : ∀ q : Qry, good n true q = true → trms q = leafs q
  | .mk h ks, hg => by
    unfold good at hg
    rw [goodBy, Bool.and_eq_true] at hg
    rw [trms, leafs, trm_leafs hg.1, trmss_leafss ks hg.2]
theorem trmss_leafss {n : Int} : ∀ ks : List Qry, goodsBy (locB n true) ks = true → trmss ks = leafss ks
  | [], _ => rfl
  | q :: r, hg => by
    rw [goodsBy, Bool.and_eq_true] at hg
    rw [trmss, leafss, trms_leafs q hg.1, trmss_leafss r hg.2]
end
theorem drive_at {C dr : List Lf} (hC : ∀ l ∈ dr, l ∈ C) {i : Nat} {d : Int} (h : (driveL (numOf C) dr)[i]? = some d) : ∃ k : Nat, d = k ∧ k < C.length ∧ ∃ l, C[k]? = some l ∧ l ∈ dr := by
  have hm := ((driveL_ris (numOf C) dr).2 d).1 (List.mem_of_getElem? h)
  obtain ⟨l, hl, rfl⟩ := List.mem_map.1 hm
  obtain ⟨k, h1, h2, h3⟩ := numOf_at (hC l hl)
  exact ⟨k, h2, h1, l, h3, hl⟩
theorem drive_lt {x : Lf → Int} {dr : List Lf} {i : Nat} {a b : Int} (ha : (driveL x dr)[i]? = some a) (hb : (driveL x dr)[i + 1]? = some b) : a < b := by
  have h := (driveL_ris x dr).1
  obtain ⟨h1, rfl⟩ := List.getElem?_eq_some_iff.1 ha
  obtain ⟨h2, rfl⟩ := List.getElem?_eq_some_iff.1 hb
  exact List.pairwise_iff_getElem.1 h i (i + 1) h1 h2 (by omega)
theorem place_num {C : List Lf} {l : Lf} (h : l ∈ C) : placeOf C l = numOf C l := by
  unfold placeOf numOf
  rw [if_pos h, if_pos h]
theorem drive_has {C dr : List Lf} {l : Lf} (hl : l ∈ dr) (hC : l ∈ C) : placeOf C l ∈ driveL (numOf C) dr := by
  rw [place_num hC]
  exact ((driveL_ris (numOf C) dr).2 _).2 (List.mem_map.2 ⟨l, hl, rfl⟩)
theorem ris_step {C : List Lf} (h : Ris C) {i : Nat} {a b : Lf} (ha : C[i]? = some a) (hb : C[i + 1]? = some b) : lfLt a b = true := by
  obtain ⟨h1, rfl⟩ := List.getElem?_eq_some_iff.1 ha
  obtain ⟨h2, rfl⟩ := List.getElem?_eq_some_iff.1 hb
  exact List.pairwise_iff_getElem.1 h i (i + 1) h1 h2 (by omega)
end Go.Proofs.YtfpikilhbkeajaaGreatDoor.TablesPlain
