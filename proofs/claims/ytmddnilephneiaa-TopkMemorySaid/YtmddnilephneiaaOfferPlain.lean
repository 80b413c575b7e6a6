/-
  The plain laws of the reference's Offer: inserting on the way through the list.
-/
import Derived.Test.YtmddnilephneiaaKeepPlain
namespace Go.Proofs.Ytmddnilephneiaa.OfferPlain
open HitPlain HeapPlain KeepPlain

theorem ins_at {h y : Hit} (hb : btr h y = true) : ∀ {a r : List Hit}, (∀ x ∈ a, btr h x = false) → insS h (a ++ y :: r) = a ++ h :: y :: r
  | [], r, _ => by simp [insS, hb]
  | x :: a, r, hn => by
    rw [List.cons_append, List.cons_append]
    unfold insS
    rw [if_neg (by rw [hn x List.mem_cons_self]; simp), ins_at hb (fun z hz => hn z (List.mem_cons_of_mem _ hz))]

/-- What lies in 'out' after i hits, and whether h is put. -/
def Way (S : List Hit) (h : Hit) (i : Nat) (put : Bool) (O : List Hit) : Prop :=
  if put then O ++ S.drop i = insS h S else O = S.take i ∧ ∀ x ∈ S.take i, btr h x = false

theorem way_zero (S : List Hit) (h : Hit) : Way S h 0 false [] := by simp [Way]
theorem way_len {S : List Hit} {h : Hit} {i : Nat} {put : Bool} {O : List Hit} (hw : Way S h i put O) (hi : i ≤ S.length) : O.length = i + (if put then 1 else 0) := by
  cases put
  · simp only [Way] at hw
    simp only [Bool.false_eq_true, if_false] at hw ⊢
    rw [hw.1, List.length_take]; omega
  · simp only [Way, if_true] at hw ⊢
    have := congrArg List.length hw
    rw [List.length_append, List.length_drop, ins_len] at this
    omega
theorem way_put {S : List Hit} {h x : Hit} {i : Nat} {O : List Hit} (hw : Way S h i true O) (hx : S[i]? = some x) : Way S h (i + 1) true (O ++ [x]) := by
  obtain ⟨hi, e⟩ := List.getElem?_eq_some_iff.1 hx
  simp only [Way, if_true] at hw ⊢
  rw [List.drop_eq_getElem_cons hi, e] at hw
  rw [List.append_assoc]
  exact hw
theorem way_now {S : List Hit} {h x : Hit} {i : Nat} {O : List Hit} (hw : Way S h i false O) (hx : S[i]? = some x) (hb : btr h x = true) : Way S h (i + 1) true ((O ++ [h]) ++ [x]) := by
  obtain ⟨hi, e⟩ := List.getElem?_eq_some_iff.1 hx
  simp only [Way, if_true, Bool.false_eq_true, if_false] at hw ⊢
  have hS : S = S.take i ++ x :: S.drop (i + 1) := by rw [← e, ← List.drop_eq_getElem_cons hi, List.take_append_drop]
  obtain ⟨rfl, hn⟩ := hw
  have := ins_at (r := S.drop (i + 1)) hb hn
  rw [← hS] at this
  rw [this]
  simp
theorem way_not {S : List Hit} {h x : Hit} {i : Nat} {O : List Hit} (hw : Way S h i false O) (hx : S[i]? = some x) (hb : btr h x = false) : Way S h (i + 1) false (O ++ [x]) := by
  obtain ⟨hi, e⟩ := List.getElem?_eq_some_iff.1 hx
  simp only [Way, Bool.false_eq_true, if_false] at hw ⊢
  obtain ⟨rfl, hn⟩ := hw
  rw [List.take_succ_eq_append_getElem hi, e]
  refine ⟨rfl, fun z hz => ?_⟩
  rcases List.mem_append.1 hz with hz | hz
  · exact hn z hz
  · rw [List.mem_singleton.1 hz]; exact hb
theorem way_end_put {S : List Hit} {h : Hit} {O : List Hit} (hw : Way S h S.length true O) : O = insS h S := by
  simp only [Way, if_true] at hw
  rwa [List.drop_length, List.append_nil] at hw
theorem way_end_not {S : List Hit} {h : Hit} {O : List Hit} (hw : Way S h S.length false O) : O ++ [h] = insS h S := by
  simp only [Way, Bool.false_eq_true, if_false] at hw
  obtain ⟨rfl, hn⟩ := hw
  rw [List.take_length] at hn ⊢
  exact (ins_last hn).symm
end Go.Proofs.Ytmddnilephneiaa.OfferPlain
