/-
  Plain facts on what a keeper keeps.
-/
import Derived.Test.YtmddnilephneiaaHeapPlain
namespace Go.Proofs.Ytmddnilephneiaa.KeepPlain
open HitPlain HeapPlain

/-- Is h kept by a keeper of k that keeps S? -/
def kept (k : Nat) (S : List Hit) (h : Hit) : Bool :=
  decide (S.length < k) || (decide (0 < k) && (match S.getLast? with | some r => btr h r | none => false))

theorem kept_room {k : Nat} {S : List Hit} {h : Hit} (hk : S.length < k) : kept k S h = true := by unfold kept; rw [decide_eq_true hk]; rfl
theorem take_room {k : Nat} {S : List Hit} {h : Hit} (hk : S.length < k) : (insS h S).take k = insS h S := List.take_of_length_le (by rw [ins_len]; omega)
theorem kept_zero {S : List Hit} {h : Hit} : kept 0 S h = false := by unfold kept; simp
theorem take_zero' {S : List Hit} {h : Hit} (hS : S.length ≤ 0) : (insS h S).take 0 = S := by
  rw [List.take_zero]
  exact (List.eq_nil_of_length_eq_zero (by omega)).symm
theorem keep_head {L S : List Hit} {r : Hit} (hp : Hp L) (hperm : L.Perm S) (hs : Srt S) (h0 : L[0]? = some r) : ∃ S0, S = S0 ++ [r] ∧ ∀ h, (L.set 0 h).Perm (h :: S0) := by
  cases L with
  | nil => simp at h0
  | cons x L' =>
    have : x = r := by simpa using h0
    subst this
    rcases List.eq_nil_or_concat S with rfl | ⟨S0, q, hq⟩
    · exact absurd hperm.length_eq (by simp)
    · rw [List.concat_eq_append] at hq
      subst hq
      have hxr : x = q := by
        have m1 : q ∈ x :: L' := hperm.mem_iff.2 (by simp)
        have m2 : x ∈ S0 ++ [q] := hperm.mem_iff.1 List.mem_cons_self
        obtain ⟨i, hi⟩ := List.mem_iff_getElem?.1 m1
        have b1 : btr x q = false := hp_head hp h0 i q hi
        have b2 : btr q x = false := by
          rcases List.mem_append.1 m2 with m | m
          · exact (List.pairwise_append.1 hs).2.2 x m q (by simp)
          · have : x = q := by simpa using m
            rw [this]; exact btr_irr _
        exact btr_total b1 b2
      subst hxr
      refine ⟨S0, rfl, fun h => ?_⟩
      rw [List.set_cons_zero]
      exact ((hperm.trans (List.perm_append_comm (l₁ := S0) (l₂ := [x]))).cons_inv).cons h
theorem kept_full {k : Nat} {S0 : List Hit} {r h : Hit} (hk : (S0 ++ [r]).length = k) : kept k (S0 ++ [r]) h = btr h r := by
  unfold kept
  rw [decide_eq_false (by omega), decide_eq_true (by rw [← hk]; simp)]
  simp
theorem ins_before {h r : Hit} (hb : btr h r = true) : ∀ S0 : List Hit, insS h (S0 ++ [r]) = insS h S0 ++ [r] := by
  intro S0
  induction S0 with
  | nil => simp [insS, hb]
  | cons x S0 ih =>
    rw [List.cons_append]
    unfold insS
    split
    · rfl
    · rw [ih]; rfl
theorem take_yes {k : Nat} {S0 : List Hit} {r h : Hit} (hk : (S0 ++ [r]).length = k) (hb : btr h r = true) : (insS h (S0 ++ [r])).take k = insS h S0 := by
  rw [ins_before hb]
  exact List.take_left' (by rw [ins_len]; simpa using hk)
theorem take_no {k : Nat} {S0 : List Hit} {r h : Hit} (hs : Srt (S0 ++ [r])) (hk : (S0 ++ [r]).length = k) (hb : btr h r = false) : (insS h (S0 ++ [r])).take k = S0 ++ [r] := by
  rw [ins_last]
  · exact List.take_left' hk
  · intro x hx
    rcases List.mem_append.1 hx with m | m
    · exact nb_trans ((List.pairwise_append.1 hs).2.2 x m r (by simp)) hb
    · have : x = r := by simpa using m
      rw [this]; exact hb
theorem take_srt {S : List Hit} (hs : Srt S) (h : Hit) (k : Nat) : Srt ((insS h S).take k) := srt_take (ins_srt hs) k
end Go.Proofs.Ytmddnilephneiaa.KeepPlain
