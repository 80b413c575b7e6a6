/-
  The plain laws of TopkPages.
-/
import Derived.Test.YtmddnilephneiaaTopkWalk
namespace Go.Proofs.Ytmddnilephneiaa.PagesPlain
open HitPlain TopkWalk

theorem nodup_of : ∀ {L : List Hit}, (∀ (i : Nat) (x : Hit), L[i]? = some x → (L.drop (i + 1)).count x = 0) → L.Nodup
  | [], _ => List.nodup_nil
  | y :: r, h => by
    refine List.nodup_cons.2 ⟨?_, nodup_of fun i x hx => by simpa using h (i + 1) x (by simpa using hx)⟩
    have := h 0 y rfl
    simp only [List.drop_succ_cons, List.drop_zero] at this
    exact List.count_eq_zero.1 this

/-- strictly sorted -/
abbrev Sst (l : List Hit) : Prop := l.Pairwise (fun a b => btr a b = true)
theorem sst_of {l : List Hit} (hs : Srt l) (hn : l.Nodup) : Sst l := by
  induction l with
  | nil => exact List.Pairwise.nil
  | cons x r ih =>
    replace hs := List.pairwise_cons.1 hs
    rw [List.nodup_cons] at hn
    refine List.pairwise_cons.2 ⟨fun y hy => ?_, ih hs.2 hn.2⟩
    cases hb : btr x y
    · have := btr_total hb (hs.1 y hy)
      subst this
      exact absurd hy hn.1
    · rfl
theorem behind_drop : ∀ {S : List Hit} {i : Nat} {h : Hit}, Sst S → S[i]? = some h → behind h S = S.drop (i + 1)
  | [], _, _, _, hi => by simp at hi
  | x :: r, 0, h, hs, hi => by
    replace hs := List.pairwise_cons.1 hs
    simp only [List.getElem?_cons_zero, Option.some.injEq] at hi
    subst hi
    unfold behind
    rw [List.filter_cons, btr_irr]
    simp only [List.drop_succ_cons, List.drop_zero]
    rw [if_neg (by simp)]
    exact List.filter_eq_self.2 fun y hy => hs.1 y hy
  | x :: r, i + 1, h, hs, hi => by
    replace hs := List.pairwise_cons.1 hs
    simp only [List.getElem?_cons_succ] at hi
    have hm : h ∈ r := List.mem_of_getElem? hi
    have hx : btr h x = false := btr_asym (hs.1 h hm)
    have ih := behind_drop hs.2 hi
    unfold behind at ih ⊢
    rw [List.filter_cons, hx, if_neg (by simp), ih]
    rfl

/-- The page behind the hit at place i. -/
theorem page_next {L : List Hit} (hn : L.Nodup) {i k : Nat} {h : Hit} (hi : (srt L)[i]? = some h) : tk k (behind h L) = ((srt L).drop (i + 1)).take k := by
  have hs : Sst (srt L) := sst_of (srt_srt L) ((srt_perm L).nodup_iff.2 hn)
  have e : srt (behind h L) = (srt L).drop (i + 1) := by
    rw [← behind_drop hs hi]
    refine (srt_eq ?_ ?_).symm
    · exact (srt_srt L).sublist List.filter_sublist
    · exact (srt_perm L).filter _
  unfold tk
  rw [e]
theorem page_first (k : Nat) (L : List Hit) : tk k L = ((srt L).drop 0).take k := by rw [List.drop_zero]; rfl
theorem all_next {S : List Hit} {m k : Nat} : S.take m ++ (S.drop m).take k = S.take (m + k) := by rw [List.take_add]
end Go.Proofs.Ytmddnilephneiaa.PagesPlain
