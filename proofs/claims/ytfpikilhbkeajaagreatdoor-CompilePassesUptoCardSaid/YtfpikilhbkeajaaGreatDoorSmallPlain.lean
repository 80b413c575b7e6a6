/-
  The small plans of the laws: their code.
-/
import Derived.Test.YtfpikilhbkeajaaGreatDoorCPrg
set_option linter.unusedVariables false
set_option linter.unusedSimpArgs false
namespace Go.Proofs.YtfpikilhbkeajaaGreatDoor.SmallPlain
set_option maxRecDepth 100000
open Base Query EmitPlain TabPlain TextPlain GoodPl GoodLoc Encode Writer CodePlain ProgTail

def nob : Bnd := ⟨false, false, ⟨#[]⟩⟩
def hdK (k f : Int) (t : ByteArray) (n w : Int) (oc : List Int) : Head := ⟨k, f, t, [], [], n, w, nob, nob, oc⟩
def qT (t : ByteArray) (w : Int) : Qry := .mk (hdK 4 0 t 0 w []) []
def tA : ByteArray := ⟨#[97]⟩
def tB : ByteArray := ⟨#[98]⟩
def tX : ByteArray := ⟨#[120]⟩
def qL : Qry := .mk (hdK 10 0 ⟨#[]⟩ 0 0 [0, 0]) [qT tA 5, qT tB 6]
theorem lt_ab : SortLeaf.lfLt ⟨0, tA⟩ ⟨0, tB⟩ = true := by
  unfold SortLeaf.lfLt Go.Sort.ltStr
  rw [if_pos rfl, ByteArray.toList_eq, ByteArray.toList_eq]
  decide
theorem ris_ab : Ris [⟨0, tA⟩, ⟨0, tB⟩] := by
  unfold Ris
  simp only [List.pairwise_cons, List.mem_singleton, List.not_mem_nil, false_implies, implies_true, List.Pairwise.nil, and_true, forall_eq]
  exact lt_ab
theorem leafs_L : leafs qL ++ [] = [⟨0, tA⟩, ⟨0, tB⟩] := by decide
theorem good_L : goodPl 1 qL true [] = true := by decide
theorem code_L : codeOf [⟨0, tA⟩, ⟨0, tB⟩] qL = [⟨4, 0, 5⟩, ⟨4, 1, 6⟩, ⟨7, 0, 0⟩, ⟨0, 0, 0⟩] := by decide
theorem enc_L : enc [⟨4, 0, 5⟩, ⟨4, 1, 6⟩, ⟨7, 0, 0⟩, ⟨0, 0, 0⟩] = [4, 0, 5, 4, 1, 6, 7, 0] := by
  have u0 : uvar 0 = [0] := uvar_small (by decide)
  have u5 : uvar 5 = [5] := uvar_small (by decide)
  have u1 : uvar 1 = [1] := uvar_small (by decide)
  have u6 : uvar 6 = [6] := uvar_small (by decide)
  simp [enc, Encode.encI, Args.argI, Args.argN, Args.okN, u0, u5, u1, u6]
theorem cur_L {C : List Lf} (h : Ris C) (hm : ∀ l, l ∈ C ↔ l ∈ leafs qL ++ []) : C = [⟨0, tA⟩, ⟨0, tB⟩] := Ris.unique h ris_ab fun l => by rw [hm l, leafs_L]
theorem good_0 : goodPl 0 (.mk (hdK 0 0 ⟨#[]⟩ 0 0 []) []) false [] = false := by decide

def qW (w : Int) : Nat → Qry
  | 0 => qT tX w
  | 1 => .mk (hdK 13 0 ⟨#[]⟩ 0 w []) [qT tX w]
  | 2 => .mk (hdK 14 0 ⟨#[]⟩ 0 w []) [qT tX w]
  | _ => .mk (hdK 12 0 ⟨#[]⟩ 0 0 []) [qT tX w]
def wantW (w : Int) : Nat → List Ins
  | 0 => [⟨4, 0, w⟩, ⟨0, 0, 0⟩]
  | 1 => [⟨4, 0, w⟩, ⟨12, w, 0⟩, ⟨0, 0, 0⟩]
  | 2 => [⟨4, 0, 0⟩, ⟨13, w, 0⟩, ⟨0, 0, 0⟩]
  | _ => [⟨4, 0, 0⟩, ⟨11, 0, 0⟩, ⟨0, 0, 0⟩]
theorem leafs_W (w : Int) (i : Nat) (hi : i < 4) : leafs (qW w i) ++ [] = [⟨0, tX⟩] := by
  rcases (by omega : i = 0 ∨ i = 1 ∨ i = 2 ∨ i = 3) with rfl | rfl | rfl | rfl <;> rfl
theorem cur_W {w : Int} {i : Nat} (hi : i < 4) {C : List Lf} (h : Ris C) (hm : ∀ l, l ∈ C ↔ l ∈ leafs (qW w i) ++ []) : C = [⟨0, tX⟩] := Ris.unique h (by unfold Ris; simp) fun l => by rw [hm l, leafs_W w i hi]
theorem good_W (w : Int) (i : Nat) (hi : i < 4) : goodPl 1 (qW w i) true [] = true := by
  rcases (by omega : i = 0 ∨ i = 1 ∨ i = 2 ∨ i = 3) with rfl | rfl | rfl | rfl <;> simp [goodPl, qW, qT, hdK, good, goodBy, goodsBy, locB, hasOf, numB, lstB, inR, noEnd, nob, leafs, leafss, hleafs, tX] <;> exact ⟨rfl, by decide⟩
theorem code_W (w : Int) (i : Nat) (hi : i < 4) : codeOf [⟨0, tX⟩] (qW w i) = wantW w i := by
  rcases (by omega : i = 0 ∨ i = 1 ∨ i = 2 ∨ i = 3) with rfl | rfl | rfl | rfl <;> rfl
end Go.Proofs.YtfpikilhbkeajaaGreatDoor.SmallPlain
