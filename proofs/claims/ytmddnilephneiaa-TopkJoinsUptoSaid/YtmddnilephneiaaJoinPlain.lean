/-
  The best k of the best k of each of several lists.
-/
import Derived.Test.YtmddnilephneiaaTopkWalk
namespace Go.Proofs.Ytmddnilephneiaa.JoinPlain
open HitPlain TopkWalk

theorem tk_right (k : Nat) {a b b' : List Hit} (h : tk k b = tk k b') : tk k (a ++ b) = tk k (a ++ b') := by
  rw [tk_congr k (List.perm_append_comm (l₁ := a) (l₂ := b)), ← tk_tk, h, tk_tk, tk_congr k (List.perm_append_comm (l₁ := b') (l₂ := a))]
theorem tk_flat (k : Nat) : ∀ Ms : List (List Hit), tk k (Ms.map (tk k)).flatten = tk k Ms.flatten
  | [] => rfl
  | M :: r => by
    rw [List.map_cons, List.flatten_cons, List.flatten_cons, tk_tk]
    exact tk_right k (tk_flat k r)
theorem flat_le (k : Nat) : ∀ Ms : List (List Hit), (Ms.map (tk k)).flatten.length ≤ Ms.flatten.length
  | [] => Nat.le_refl _
  | M :: r => by
    have := flat_le k r
    have h2 : (tk k M).length ≤ M.length := by rw [tk_len]; omega
    rw [List.map_cons, List.flatten_cons, List.flatten_cons, List.length_append, List.length_append]
    omega
theorem short_eq {k : Nat} {ls ks : List Lst} (h : ks.map (·.2.2) = ls.map (fun x => tk k x.2.2)) : tk k (allHits ks) = tk k (allHits ls) ∧ (allHits ks).length ≤ (allHits ls).length := by
  have e : allHits ks = ((ls.map (fun x => x.2.2)).map (tk k)).flatten := by
    unfold allHits
    have h' : ks.map (fun x => x.2.2) = ls.map (fun x => tk k x.2.2) := h
    rw [h', List.map_map]
    rfl
  rw [e]
  exact ⟨tk_flat k _, flat_le k _⟩
end Go.Proofs.Ytmddnilephneiaa.JoinPlain
