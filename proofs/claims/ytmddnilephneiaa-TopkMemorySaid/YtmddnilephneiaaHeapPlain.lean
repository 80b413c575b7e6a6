/-
  Plain facts on heaps of hits: going up, going down.
-/
import Derived.Test.YtmddnilephneiaaHitPlain
namespace Go.Proofs.Ytmddnilephneiaa.HeapPlain
open HitPlain

/-- The places i and j changed over. -/
def swp (M : List Hit) (i j : Nat) (a b : Hit) : List Hit := (M.set i b).set j a

theorem swp_len (M : List Hit) (i j : Nat) (a b : Hit) : (swp M i j a b).length = M.length := by simp [swp]
theorem swp_i {M : List Hit} {i j : Nat} {a b : Hit} (hij : i ≠ j) (hi : i < M.length) : (swp M i j a b)[i]? = some b := by
  unfold swp; rw [List.getElem?_set_ne (Ne.symm hij), List.getElem?_set_self hi]
theorem swp_j {M : List Hit} {i j : Nat} {a b : Hit} (hj : j < M.length) : (swp M i j a b)[j]? = some a := by
  unfold swp; rw [List.getElem?_set_self (by simpa using hj)]
theorem swp_o {M : List Hit} {i j k : Nat} {a b : Hit} (hi : k ≠ i) (hj : k ≠ j) : (swp M i j a b)[k]? = M[k]? := by
  unfold swp; rw [List.getElem?_set_ne (Ne.symm hj), List.getElem?_set_ne (Ne.symm hi)]
theorem swp_perm {M : List Hit} {i j : Nat} {a b : Hit} (ha : M[i]? = some a) (hb : M[j]? = some b) : (swp M i j a b).Perm M := by
  obtain ⟨hi, ha⟩ := List.getElem?_eq_some_iff.1 ha
  obtain ⟨hj, hb⟩ := List.getElem?_eq_some_iff.1 hb
  unfold swp
  rw [← ha, ← hb]
  exact List.set_set_perm hi hj

structure Up (M : List Hit) (i : Nat) : Prop where
  a : ∀ j x y, 0 < j → j ≠ i → M[j]? = some x → M[(j - 1) / 2]? = some y → btr y x = false
  b : ∀ j x y, 0 < i → 0 < j → (j - 1) / 2 = i → M[j]? = some x → M[(i - 1) / 2]? = some y → btr y x = false
theorem Up.zero {M : List Hit} (h : Up M 0) : Hp M := fun i a b hi ha hb => h.a i a b hi (by omega) ha hb
theorem Up.stop {M : List Hit} {i : Nat} {x y : Hit} (h : Up M i) (hx : M[i]? = some x) (hy : M[(i - 1) / 2]? = some y) (hb : btr y x = false) : Hp M := by
  intro j a b hj ha hb'
  by_cases e : j = i
  · subst e; rw [hx] at ha; rw [hy] at hb'; injection ha with ha; injection hb' with hb'; subst ha hb'; exact hb
  · exact h.a j a b hj e ha hb'
theorem Up.start {L : List Hit} (h : Hp L) (x : Hit) : Up (L ++ [x]) L.length := by
  have lo : ∀ j a, j ≠ L.length → (L ++ [x])[j]? = some a → L[j]? = some a ∧ j < L.length := by
    intro j a hj ha
    have hl := (List.getElem?_eq_some_iff.1 ha).1
    simp at hl
    rw [List.getElem?_append_left (by omega)] at ha
    exact ⟨ha, by omega⟩
  refine ⟨fun j a b hj hji ha hb => ?_, fun j a b h0 hj e ha hb => ?_⟩
  · obtain ⟨ha, hl⟩ := lo j a hji ha
    obtain ⟨hb, _⟩ := lo _ b (by omega) hb
    exact h j a b hj ha hb
  · have hl := (List.getElem?_eq_some_iff.1 ha).1
    simp at hl
    omega
theorem Up.step {M : List Hit} {i : Nat} {x y : Hit} (h : Up M i) (hi : 0 < i) (hx : M[i]? = some x) (hy : M[(i - 1) / 2]? = some y) (hb : btr y x = true) : Up (swp M i ((i - 1) / 2) x y) ((i - 1) / 2) := by
  have li := (List.getElem?_eq_some_iff.1 hx).1
  have ne : i ≠ (i - 1) / 2 := by omega
  have si := swp_i (a := x) (b := y) ne li
  have sj : (swp M i ((i - 1) / 2) x y)[(i - 1) / 2]? = some x := swp_j (by omega)
  refine ⟨fun j a b hj hju ha hb' => ?_, fun j a b hu hj e ha hb' => ?_⟩
  · by_cases hji : j = i
    · subst hji
      rw [si] at ha; rw [sj] at hb'; injection ha with ha; injection hb' with hb'; subst ha hb'; exact btr_asym hb
    · rw [swp_o hji hju] at ha
      by_cases hpi : (j - 1) / 2 = i
      · rw [hpi, si] at hb'; injection hb' with hb'; subst hb'
        exact h.b j a _ hi hj hpi ha hy
      · by_cases hpu : (j - 1) / 2 = (i - 1) / 2
        · rw [hpu, sj] at hb'; injection hb' with hb'; subst hb'
          have := h.a j a y hj hji ha (by rw [hpu]; exact hy)
          cases hc : btr x a
          · rfl
          · rw [btr_trans hb hc] at this; exact this
        · rw [swp_o hpi hpu] at hb'
          exact h.a j a b hj hji ha hb'
  · rw [swp_o (by omega) (by omega)] at hb'
    have hg : btr b y = false := h.a ((i - 1) / 2) y b hu (by omega) hy hb'
    by_cases hji : j = i
    · subst hji; rw [si] at ha; injection ha with ha; subst ha; exact hg
    · rw [swp_o hji (by omega)] at ha
      exact nb_trans (h.a j a y hj hji ha (by rw [e]; exact hy)) hg

structure Dn (M : List Hit) (i : Nat) : Prop where
  a : ∀ j x y, 0 < j → (j - 1) / 2 ≠ i → M[j]? = some x → M[(j - 1) / 2]? = some y → btr y x = false
  b : ∀ j x y, 0 < i → 0 < j → (j - 1) / 2 = i → M[j]? = some x → M[(i - 1) / 2]? = some y → btr y x = false
theorem Dn.start {L : List Hit} (h : Hp L) (x : Hit) : Dn (L.set 0 x) 0 := by
  refine ⟨fun j a b hj hp ha hb => ?_, fun j a b h0 => absurd h0 (by omega)⟩
  rw [List.getElem?_set_ne (by omega)] at ha
  rw [List.getElem?_set_ne (by omega)] at hb
  exact h j a b hj ha hb
theorem Dn.leaf {M : List Hit} {i : Nat} (h : Dn M i) (hl : M.length ≤ 2 * i + 1) : Hp M := by
  intro j a b hj ha hb
  have := (List.getElem?_eq_some_iff.1 ha).1
  exact h.a j a b hj (by omega) ha hb
/-- k is the child of i that goes first. -/
def Pick (M : List Hit) (i k : Nat) (z : Hit) : Prop := (k = 2 * i + 1 ∨ k = 2 * i + 2) ∧ ∀ j x, 0 < j → (j - 1) / 2 = i → M[j]? = some x → btr z x = false
theorem Dn.stop {M : List Hit} {i k : Nat} {y z : Hit} (h : Dn M i) (hy : M[i]? = some y) (hp : Pick M i k z) (hb : btr y z = false) : Hp M := by
  intro j a b hj ha hb'
  by_cases e : (j - 1) / 2 = i
  · rw [e, hy] at hb'; injection hb' with hb'; subst hb'
    exact nb_trans (hp.2 j a hj e ha) hb
  · exact h.a j a b hj e ha hb'
theorem Dn.step {M : List Hit} {i k : Nat} {y z : Hit} (h : Dn M i) (hy : M[i]? = some y) (hz : M[k]? = some z) (hp : Pick M i k z) (hb : btr y z = true) : Dn (swp M i k y z) k := by
  have li := (List.getElem?_eq_some_iff.1 hy).1
  have lk := (List.getElem?_eq_some_iff.1 hz).1
  have hk : 0 < k ∧ (k - 1) / 2 = i := by have := hp.1; omega
  have ne : i ≠ k := by omega
  have si := swp_i (a := y) (b := z) ne li
  have sk : (swp M i k y z)[k]? = some y := swp_j lk
  refine ⟨fun j a b hj hpk ha hb' => ?_, fun j a b h0 hj e ha hb' => ?_⟩
  · by_cases hpi : (j - 1) / 2 = i
    · rw [hpi, si] at hb'; injection hb' with hb'; subst hb'
      by_cases hjk : j = k
      · subst hjk; rw [sk] at ha; injection ha with ha; subst ha; exact btr_asym hb
      · rw [swp_o (by omega) hjk] at ha
        exact hp.2 j a hj hpi ha
    · rw [swp_o hpi hpk] at hb'
      have hjk : j ≠ k := fun e => hpi (by rw [e]; exact hk.2)
      by_cases hji : j = i
      · subst hji; rw [si] at ha; injection ha with ha; subst ha
        exact h.b k z b hj hk.1 hk.2 hz hb'
      · rw [swp_o hji hjk] at ha
        exact h.a j a b hj hpi ha hb'
  · rw [hk.2, si] at hb'; injection hb' with hb'; subst hb'
    rw [swp_o (by omega) (by omega)] at ha
    exact h.a j a z hj (by omega) ha (by rw [e]; exact hz)
end Go.Proofs.Ytmddnilephneiaa.HeapPlain
