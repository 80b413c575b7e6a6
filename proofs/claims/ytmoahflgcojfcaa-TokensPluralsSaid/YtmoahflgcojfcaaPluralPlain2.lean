/-
  Plain facts on stems: the possessive and the plural of a word of small letters have its stem.
-/
import Derived.Test.YtmoahflgcojfcaaPluralPlain
namespace Go.Proofs.Ytmoahflgcojfcaa.PluralPlain2
open Go.PlainAid StemPlain StemSize PluralPlain

theorem extract_tail (s : ByteArray) (a : Nat) : (s.extract a s.size).data.toList = s.data.toList.drop a := by
  rw [ByteArray.data_extract, Array.toList_extract, List.extract_eq_take_drop]
  apply List.take_of_length_le
  simp
theorem sfx_iff {s e : ByteArray} : sfx s e = true ↔ ∃ t, t ++ e.data.toList = s.data.toList := by
  unfold sfx
  rw [Bool.and_eq_true, decide_eq_true_iff, extract_tail, beq_iff_eq]
  have hs : s.data.toList.length = s.size := by simp
  have he : e.data.toList.length = e.size := by simp
  constructor
  · rintro ⟨hle, h⟩
    refine ⟨s.data.toList.take (s.size - e.size), ?_⟩
    rw [← h, List.take_append_drop]
  · rintro ⟨t, h⟩
    have hl := congrArg List.length h
    rw [List.length_append, hs, he] at hl
    refine ⟨by omega, ?_⟩
    rw [← h, show s.size - e.size = t.length by omega, List.drop_left]
theorem data_append (a b : ByteArray) : (a ++ b).data.toList = a.data.toList ++ b.data.toList := by
  rw [ByteArray.data_append, Array.toList_append]
theorem sfx_append (w e : ByteArray) : sfx (w ++ e) e = true := sfx_iff.2 ⟨w.data.toList, (data_append w e).symm⟩
theorem sfx_snoc (w e : ByteArray) (c : UInt8) : sfx (w ++ ⟨#[c]⟩) (e ++ ⟨#[c]⟩) = sfx w e := by
  rw [Bool.eq_iff_iff, sfx_iff, sfx_iff]
  constructor
  · rintro ⟨t, h⟩
    rw [data_append, data_append, ← List.append_assoc] at h
    exact ⟨t, List.append_cancel_right h⟩
  · rintro ⟨t, h⟩
    exact ⟨t, by rw [data_append, data_append, ← List.append_assoc, h]⟩
theorem sfx_last {w e : ByteArray} {c : UInt8} (h : sfx w ⟨#[c]⟩ = false) : sfx w (e ++ ⟨#[c]⟩) = false := by
  cases hx : sfx w (e ++ ⟨#[c]⟩)
  · rfl
  · obtain ⟨t, ht⟩ := sfx_iff.1 hx
    rw [data_append, ← List.append_assoc] at ht
    rw [sfx_iff.2 ⟨_, ht⟩] at h
    cases h
theorem cut_append (w e : ByteArray) : cut (w ++ e) e = w := by
  unfold cut
  rw [ByteArray.size_append, show w.size + e.size - e.size = w.size by omega]
  apply ByteArray.ext
  rw [ByteArray.data_extract, ByteArray.data_append]
  apply Array.toList_inj.1
  rw [Array.toList_extract, Array.toList_append, List.extract_eq_take_drop, List.drop_zero]
  exact List.take_left' (by simp)

theorem bt_list (s : ByteArray) (k : Nat) (h : k < s.size) : s.data.toList[k]? = some (UInt8.ofNat (bt s k).toNat) := by
  have hl : k < s.data.toList.length := by simpa using h
  rw [List.getElem?_eq_getElem hl]
  unfold bt
  rw [dif_pos h]
  simp
  rfl

/-- A word of small letters does not end with the possessive's two bytes. -/
theorem poss_small {w : ByteArray} (h : ∀ k, k < w.size → 97 ≤ bt w k ∧ bt w k ≤ 122) : poss w = w := by
  unfold poss
  rw [if_neg]
  intro hc
  simp only [Bool.and_eq_true, decide_eq_true_eq] at hc
  obtain ⟨t, ht⟩ := sfx_iff.1 hc.2
  have hl := congrArg List.length ht
  have hwl : w.data.toList.length = w.size := by simp
  rw [List.length_append, hwl] at hl
  have hl2 : t.length + 2 = w.size := hl
  have h1 := bt_list w t.length (by omega)
  rw [← ht, List.getElem?_append_right (Nat.le_refl _), Nat.sub_self] at h1
  have h2 : UInt8.ofNat (bt w t.length).toNat = 39 := (Option.some.inj h1).symm
  have h3 := h t.length (by omega)
  have h4 := congrArg UInt8.toNat h2
  simp at h4
  omega

theorem stem_poss {a b : ByteArray} (h : poss a = poss b) : stem a = stem b := by unfold stem; rw [h]

theorem stem_possessive {w : ByteArray} (h0 : 1 ≤ w.size) (h : ∀ k, k < w.size → 97 ≤ bt w k ∧ bt w k ≤ 122) : stem (w ++ ⟨#[39, 115]⟩) = stem w := by
  refine stem_poss ?_
  rw [poss_small h]
  unfold poss
  rw [if_pos]
  · exact cut_append w ⟨#[39, 115]⟩
  · rw [sfx_append, Bool.and_true]
    have k1 : (⟨#[39, 115]⟩ : ByteArray).size = 2 := rfl
    rw [decide_eq_true_eq, ByteArray.size_append]
    omega

theorem small_snoc {w : ByteArray} (h : ∀ k, k < w.size → 97 ≤ bt w k ∧ bt w k ≤ 122) : ∀ k, k < (w ++ ⟨#[115]⟩).size → 97 ≤ bt (w ++ ⟨#[115]⟩) k ∧ bt (w ++ ⟨#[115]⟩) k ≤ 122 := by
  intro k hk
  have k1 : (⟨#[115]⟩ : ByteArray).size = 1 := rfl
  rw [ByteArray.size_append] at hk
  by_cases hw : k < w.size
  · have e : bt (w ++ ⟨#[115]⟩) k = bt w k := by
      unfold bt
      rw [dif_pos (by rw [ByteArray.size_append]; omega), dif_pos hw, ByteArray.getElem_append_left hw]
    rw [e]; exact h k hw
  · have e : bt (w ++ ⟨#[115]⟩) k = 115 := by
      unfold bt
      rw [dif_pos (by rw [ByteArray.size_append]; omega), ByteArray.getElem_append_right (by omega)]
      have : k - w.size = 0 := by omega
      simp only [this]
      rfl
    rw [e]; omega

theorem allSmall_of {s : ByteArray} : ∀ {n : Nat}, (∀ k, k < n → 97 ≤ bt s k ∧ bt s k ≤ 122) → allSmall s n = true := by
  intro n
  induction n with
  | zero => intro _; rfl
  | succ n ih =>
    intro h
    unfold allSmall
    rw [ih (fun k hk => h k (by omega)), decide_eq_true (h n (by omega))]
    rfl

theorem s1a_none {w : ByteArray} (h : sfx w ⟨#[115]⟩ = false) : s1a w = w := by
  have a1 : sfx w ⟨#[115, 115, 101, 115]⟩ = false := sfx_last (e := ⟨#[115, 115, 101]⟩) h
  have a2 : sfx w ⟨#[105, 101, 115]⟩ = false := sfx_last (e := ⟨#[105, 101]⟩) h
  have a3 : sfx w ⟨#[115, 115]⟩ = false := sfx_last (e := ⟨#[115]⟩) h
  have hb : bst w L1a L1a.length = none := by
    show bst w L1a 4 = none
    simp [bst, L1a, a1, a2, a3, h]
  exact sub_none hb
theorem s1a_plural {w : ByteArray} (h : sfx w ⟨#[115]⟩ = false) (h1 : sfx w ⟨#[105, 101]⟩ = false) (h2 : sfx w ⟨#[115, 115, 101]⟩ = false) : s1a (w ++ ⟨#[115]⟩) = w := by
  have a1 : sfx (w ++ ⟨#[115]⟩) ⟨#[115, 115, 101, 115]⟩ = false := (sfx_snoc w ⟨#[115, 115, 101]⟩ 115).trans h2
  have a2 : sfx (w ++ ⟨#[115]⟩) ⟨#[105, 101, 115]⟩ = false := (sfx_snoc w ⟨#[105, 101]⟩ 115).trans h1
  have a3 : sfx (w ++ ⟨#[115]⟩) ⟨#[115, 115]⟩ = false := (sfx_snoc w ⟨#[115]⟩ 115).trans h
  have a4 : sfx (w ++ ⟨#[115]⟩) ⟨#[115]⟩ = true := sfx_append w ⟨#[115]⟩
  have hb : bst (w ++ ⟨#[115]⟩) L1a L1a.length = some 3 := by
    show bst (w ++ ⟨#[115]⟩) L1a 4 = some 3
    simp [bst, L1a, a1, a2, a3, a4]
  have := sub_some hb (q := (⟨#[115]⟩, ⟨#[]⟩)) rfl
  unfold s1a
  rw [this, cut_append]
  exact ByteArray.append_empty

theorem stem_plural {w : ByteArray} (h0 : 3 ≤ w.size) (hsm : ∀ k, k < w.size → 97 ≤ bt w k ∧ bt w k ≤ 122) (h : sfx w ⟨#[115]⟩ = false) (h1 : sfx w ⟨#[105, 101]⟩ = false) (h2 : sfx w ⟨#[115, 115, 101]⟩ = false) : stem (w ++ ⟨#[115]⟩) = stem w := by
  have p1 := poss_small hsm
  have p2 := poss_small (small_snoc hsm)
  have q1 := allSmall_of hsm
  have q2 := allSmall_of (small_snoc hsm)
  have k1 : (⟨#[115]⟩ : ByteArray).size = 1 := rfl
  have hz : (w ++ ⟨#[115]⟩).size = w.size + 1 := by rw [ByteArray.size_append, k1]
  have e1 : stem w = s5b (s5a (s4 (rep (rep (s1c (s1b (s1a w))) L2 0) L3 0))) := by
    unfold stem
    rw [p1, if_neg (by omega), if_pos q1]
  have e2 : stem (w ++ ⟨#[115]⟩) = s5b (s5a (s4 (rep (rep (s1c (s1b (s1a (w ++ ⟨#[115]⟩)))) L2 0) L3 0))) := by
    unfold stem
    rw [p2, if_neg (by omega), if_pos q2]
  rw [e1, e2, s1a_none h, s1a_plural h h1 h2]
theorem stem_short {w : ByteArray} (h0 : w.size < 3) (hsm : ∀ k, k < w.size → 97 ≤ bt w k ∧ bt w k ≤ 122) : stem w = w := by
  have p1 := poss_small hsm
  unfold stem
  rw [p1, if_pos h0]
end Go.Proofs.Ytmoahflgcojfcaa.PluralPlain2
