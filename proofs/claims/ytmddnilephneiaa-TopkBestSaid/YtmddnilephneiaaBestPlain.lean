/-
  The plain laws of TopkBest: the second order of offering is a rearrangement; what is kept and what is left out.
-/
import Derived.Test.YtmddnilephneiaaHitPlain
namespace Go.Proofs.Ytmddnilephneiaa.BestPlain
open HitPlain

/-- The place that is offered at step i. -/
def jx (t n i : Nat) : Nat := if t < i then t + n - i else t - i
theorem jx_lt {t n i : Nat} (ht : t < n) (hi : i < n) : jx t n i < n := by unfold jx; split <;> omega
def rot (L : List Hit) (t i : Nat) : List Hit := (List.range i).map (fun q => L.getD (jx t L.length q) (0, 0))
theorem rot_zero (L : List Hit) (t : Nat) : rot L t 0 = [] := rfl
theorem rot_succ {L : List Hit} {t i : Nat} {x : Hit} (hx : L[jx t L.length i]? = some x) : rot L t (i + 1) = rot L t i ++ [x] := by
  unfold rot
  rw [List.range_succ, List.map_append, List.map_singleton, List.getD_eq_getElem?_getD, hx]
  rfl
theorem rot_len (L : List Hit) (t i : Nat) : (rot L t i).length = i := by simp [rot]
theorem rot_perm {L : List Hit} {t : Nat} (ht : t < L.length) : (rot L t L.length).Perm L := by
  have e : rot L t L.length = (L.take (t + 1)).reverse ++ (L.drop (t + 1)).reverse := by
    apply List.ext_getElem
    · simp [rot]; omega
    · intro i h1 h2
      have hi : i < L.length := by simpa [rot] using h1
      have hj := jx_lt ht hi
      simp only [rot, List.getElem_map, List.getElem_range, List.getD_eq_getElem?_getD, List.getElem?_eq_getElem hj, Option.getD_some]
      rw [List.getElem_append]
      split
      · rename_i hlt
        rw [List.getElem_reverse, List.getElem_take]
        congr 1
        simp at hlt ⊢
        unfold jx
        rw [if_neg (by omega)]
        omega
      · rename_i hlt
        rw [List.getElem_reverse, List.getElem_drop]
        congr 1
        simp at hlt ⊢
        unfold jx
        rw [if_pos (by omega)]
        omega
  rw [e]
  have := ((List.reverse_perm (L.take (t + 1))).append (List.reverse_perm (L.drop (t + 1))))
  rwa [List.take_append_drop] at this

theorem count_tk (k : Nat) (L : List Hit) (h : Hit) : (tk k L).count h ≤ L.count h := by
  rw [← (srt_perm L).count_eq h]
  exact (List.take_sublist k _).count_le h
theorem left_out {k : Nat} {L : List Hit} {h l : Hit} (hc : (tk k L).count h < L.count h) {j : Nat} (hj : (tk k L)[j]? = some l) : btr h l = false := by
  rw [← (srt_perm L).count_eq h] at hc
  have hd : h ∈ (srt L).drop k := by
    have e := List.take_append_drop k (srt L)
    have e2 : (srt L).count h = (tk k L).count h + ((srt L).drop k).count h := by
      rw [← List.count_append]; unfold tk; rw [e]
    exact List.count_pos_iff.1 (by omega)
  obtain ⟨q, hq, e1⟩ := List.mem_iff_getElem.1 hd
  rw [List.getElem_drop] at e1
  unfold tk at hj
  rw [List.getElem?_take] at hj
  split at hj
  · rename_i hjk
    obtain ⟨hjl, e2⟩ := List.getElem?_eq_some_iff.1 hj
    rw [List.length_drop] at hq
    have := List.pairwise_iff_getElem.1 (srt_srt L) j (k + q) hjl (by omega) (by omega)
    rwa [e1, e2] at this
  · cases hj
theorem count_mem {k : Nat} {L : List Hit} {h : Hit} (hm : h ∈ tk k L) : 0 < L.count h := List.count_pos_iff.2 (tk_mem hm)
end Go.Proofs.Ytmddnilephneiaa.BestPlain
