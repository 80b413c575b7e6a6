/-
  A good plain query is one that the emitter takes.
-/
import Derived.Test.YtfpikilhbkeajaaGreatDoorCText
import Derived.Test.YtfpikilhbkeajaaGreatDoorEmitQ0
set_option linter.unusedVariables false
set_option linter.unusedSimpArgs false
namespace Go.Proofs.YtfpikilhbkeajaaGreatDoor.GoodLoc
set_option maxRecDepth 100000
open Base Query TextPlain EmitQ0

theorem qloc {n : Int} {h : Head} {nk : Nat} (hb : locB n true h nk = true) (hk : nk ≤ 1048576) (ho : h.offs.length ≤ 1099511627776) : QLoc h nk := by
  obtain ⟨kind, field, text, terms, offs, qn, weight, lo, hi, occur⟩ := h
  have h1 : 1 ≤ kind ∧ kind ≤ 14 := by
    unfold locB at hb
    simp only [Bool.and_eq_true, decide_eq_true_iff] at hb
    exact ⟨hb.1.1.1.1.1, hb.1.1.1.1.2⟩
  rcases (by omega : kind = 1 ∨ kind = 2 ∨ kind = 3 ∨ kind = 4 ∨ kind = 5 ∨ kind = 6 ∨ kind = 7 ∨ kind = 8 ∨ kind = 9 ∨ kind = 10 ∨ kind = 11 ∨ kind = 12 ∨ kind = 13 ∨ kind = 14) with rfl | rfl | rfl | rfl | rfl | rfl | rfl | rfl | rfl | rfl | rfl | rfl | rfl | rfl
  all_goals simp only at ho
  all_goals simp [locB, numB, lstB, hasOf, inR] at hb
  all_goals (refine ⟨by simp, ?_, ?_, ?_, ?_, hk⟩ <;> simp <;> (try omega))
  have e1 := hb.2.1.1.2
  have e2 : terms.length ≠ 0 := fun e => hb.2.1.2 (List.eq_nil_of_length_eq_zero e)
  exact ⟨e1.symm, by omega, ho⟩

inductive Short : Qry → Prop
  | mk (hd : Head) (ks : List Qry) (h1 : ks.length ≤ 1048576) (h2 : hd.offs.length ≤ 1099511627776) (hk : ∀ k ∈ ks, Short k) : Short (.mk hd ks)
theorem goodQ {n : Int} (q : Qry) : Short q → good n true q = true → GoodQ q := by
  induction q using Qry.ind with
  | h q ih =>
    intro hs hg
    cases hs with
    | mk hd ks h1 h2 hk =>
      unfold good at hg
      rw [goodBy, Bool.and_eq_true, goodsBy_all, List.all_eq_true] at hg
      exact .mk hd ks (qloc hg.1 h1 h2) fun k hm => ih k hm (hk k hm) (hg.2 k hm)
end Go.Proofs.YtfpikilhbkeajaaGreatDoor.GoodLoc
