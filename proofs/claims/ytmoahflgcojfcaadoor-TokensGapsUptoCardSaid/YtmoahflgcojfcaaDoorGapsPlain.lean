/-
  Plain facts for TokensGaps: positions rise, and from value to value by 16 at least.
-/
import Derived.Test.YtmoahflgcojfcaaDoorFieldPlain
namespace Go.Proofs.YtmoahflgcojfcaaDoor.GapsPlain
set_option maxRecDepth 100000
open Go.PlainAid WordPlain ChainPlain NumPlain OfAny OpenField FieldPlain

/-- Positions rise strictly, from lo on, below hi. -/
def Rise : Int → List Tok → Int → Prop
  | lo, [], hi => lo ≤ hi
  | lo, t :: r, hi => lo ≤ t.pos ∧ Rise (t.pos + 1) r hi
theorem Rise.le : ∀ {lo : Int} {l : List Tok} {hi : Int}, Rise lo l hi → lo ≤ hi
  | _, [], _, h => h
  | _, _ :: _, _, h => by have := Rise.le h.2; have := h.1; omega
theorem Rise.mono_lo : ∀ {lo lo' : Int} {l : List Tok} {hi : Int}, Rise lo l hi → lo' ≤ lo → Rise lo' l hi
  | _, _, [], _, h, hl => Int.le_trans hl h
  | _, _, _ :: _, _, h, hl => ⟨Int.le_trans hl h.1, h.2⟩
theorem Rise.mono_hi : ∀ {lo : Int} {l : List Tok} {hi hi' : Int}, Rise lo l hi → hi ≤ hi' → Rise lo l hi'
  | _, [], _, _, h, hl => Int.le_trans h hl
  | _, _ :: _, _, _, h, hl => ⟨h.1, Rise.mono_hi h.2 hl⟩
theorem Rise.app : ∀ {lo m : Int} {l r : List Tok} {hi : Int}, Rise lo l m → Rise m r hi → Rise lo (l ++ r) hi
  | _, _, [], _, _, h, k => k.mono_lo h
  | _, _, _ :: _, _, _, h, k => ⟨h.1, Rise.app h.2 k⟩
theorem Rise.filt {c : List Step} : ∀ {lo : Int} {l : List Tok} {hi : Int}, Rise lo l hi → Rise lo (passed c l) hi
  | _, [], _, h => h
  | lo, t :: r, hi, h => by
    unfold passed
    rw [List.filterMap_cons]
    have ih := Rise.filt (c := c) h.2
    unfold passed at ih
    unfold passT
    cases hb : (thru c t.text).2
    · simp only [Bool.false_eq_true, if_false]
      exact ih.mono_lo (by have := h.1; omega)
    · simp only [if_true]
      exact ⟨h.1, ih⟩
theorem Rise.sh {i : Nat} {b : Int} : ∀ {lo : Int} {l : List Tok} {hi : Int}, Rise lo l hi → Rise (lo + b) (l.map (shT i b)) (hi + b)
  | _, [], _, h => by show _ ≤ _; have : _ ≤ _ := h; omega
  | _, t :: r, _, h => ⟨by show _ ≤ t.pos + b; have := h.1; omega, by
      have := Rise.sh (i := i) (b := b) h.2
      exact this.mono_lo (by show t.pos + b + 1 ≤ _; omega)⟩
theorem Rise.at_ : ∀ {lo : Int} {l : List Tok} {hi : Int}, Rise lo l hi → ∀ (k : Nat) (t : Tok), l[k]? = some t → lo ≤ t.pos ∧ t.pos < hi
  | _, [], _, _, k, t, ht => by simp at ht
  | _, u :: r, _, h, 0, t, ht => by
    simp only [List.getElem?_cons_zero, Option.some.injEq] at ht
    subst ht
    have := Rise.le h.2
    exact ⟨h.1, by omega⟩
  | _, u :: r, _, h, k + 1, t, ht => by
    simp only [List.getElem?_cons_succ] at ht
    have := Rise.at_ h.2 k t ht
    have := h.1
    omega
theorem Rise.next : ∀ {lo : Int} {l : List Tok} {hi : Int}, Rise lo l hi → ∀ (k : Nat) (t u : Tok), l[k]? = some t → l[k + 1]? = some u → t.pos + 1 ≤ u.pos
  | _, [], _, _, k, t, _, ht, _ => by simp at ht
  | _, x :: r, _, h, 0, t, u, ht, hu => by
    simp only [List.getElem?_cons_zero, Option.some.injEq] at ht
    simp only [Nat.zero_add, List.getElem?_cons_succ] at hu
    subst ht
    exact (Rise.at_ h.2 0 u hu).1
  | _, x :: r, _, h, k + 1, t, u, ht, hu => by
    simp only [List.getElem?_cons_succ] at ht hu
    exact Rise.next h.2 k t u ht hu

theorem wst_rise (s : ByteArray) : ∀ k, Rise 0 (wst s k).1 (wst s k).1.length := by
  intro k
  induction k with
  | zero => exact Int.le_refl 0
  | succ k ih =>
    cases hi : inW s k <;> cases h2 : (wst s k).2
    · rw [wst_out_none hi h2]; exact ih
    · rw [wst_out_some hi h2]
      refine ih.app ⟨Int.le_refl _, ?_⟩
      simp only [List.length_append, List.length_cons, List.length_nil]
      show _ ≤ _
      omega
    · rw [wst_in_none hi h2]; exact ih
    · rw [wst_in_some hi h2]; exact ih
theorem ofF_rise (f : Fld) (s : ByteArray) : Rise 0 (ofF f s) (wordsN f s) := by
  unfold ofF ofT wordsN
  by_cases h1 : f.kd = 1
  · rw [if_pos h1, if_pos h1]
    exact Rise.filt (wst_rise s _)
  · rw [if_neg h1, if_neg h1]
    have one : ∀ x : ByteArray, Rise 0 [loneT x s] (1 : Nat) := fun x => ⟨Int.le_refl _, by show (0 : Int) + 1 ≤ _; omega⟩
    have nil : Rise 0 [] (1 : Nat) := by show (0 : Int) ≤ _; omega
    split
    · split
      · exact one _
      · exact nil
    · split
      · split
        · exact one _
        · exact nil
      · exact nil

/-- The tokens of the first k values rise below the places taken, but for 16. -/
theorem fst_rise (f : Fld) (vs : List Val) : ∀ k, k ≤ vs.length → (fst f vs k).1 = [] ∨ Rise 0 (fst f vs k).1 ((fst f vs k).2 - 16) := by
  intro k
  induction k with
  | zero => intro _; exact .inl rfl
  | succ k ih =>
    intro hk
    obtain ⟨v, hv⟩ : ∃ v, vs[k]? = some v := ⟨_, List.getElem?_eq_getElem (by omega)⟩
    by_cases hn : v.nm = f.nm
    · right
      rw [fst_yes hv hn]
      simp only
      have hr := (ofF_rise f v.text).sh (i := k) (b := ((fst f vs k).2 : Int))
      rw [Int.zero_add] at hr
      have hr := hr.mono_hi (hi' := (((fst f vs k).2 + (wordsN f v.text + 16) : Nat) : Int) - 16) (by omega)
      rcases ih (by omega) with h | h
      · rw [h, List.nil_append]; exact hr.mono_lo (by omega)
      · exact h.app (hr.mono_lo (by omega))
    · rw [fst_no hv hn]; exact ih (by omega)

/-- No value yet: no place taken. -/
def seenB (f : Fld) (vs : List Val) : Nat → Bool
  | 0 => false
  | k + 1 => seenB f vs k || (match vs[k]? with | none => false | some v => decide (v.nm = f.nm))
theorem seen_yes {f : Fld} {vs : List Val} {k : Nat} {v : Val} (h : vs[k]? = some v) (hn : v.nm = f.nm) : seenB f vs (k + 1) = true := by
  unfold seenB; rw [h]; simp [hn]
theorem seen_no {f : Fld} {vs : List Val} {k : Nat} {v : Val} (h : vs[k]? = some v) (hn : v.nm ≠ f.nm) : seenB f vs (k + 1) = seenB f vs k := by
  conv => lhs; unfold seenB
  rw [h]; simp [hn]
theorem seen_none (f : Fld) (vs : List Val) : ∀ k, k ≤ vs.length → seenB f vs k = false → (fst f vs k).2 = 0 := by
  intro k
  induction k with
  | zero => intro _ _; rfl
  | succ k ih =>
    intro hk h
    obtain ⟨v, hv⟩ : ∃ v, vs[k]? = some v := ⟨_, List.getElem?_eq_getElem (by omega)⟩
    by_cases hn : v.nm = f.nm
    · rw [seen_yes hv hn] at h; cases h
    · rw [seen_no hv hn] at h
      rw [fst_no hv hn]; exact ih (by omega) h

/-- What the first values give stands at the head. -/
theorem fst_prefix (f : Fld) (vs : List Val) (k : Nat) : ∀ n, k ≤ n → n ≤ vs.length → ∃ r, (fst f vs n).1 = (fst f vs k).1 ++ r := by
  intro n
  induction n with
  | zero => intro h _; obtain rfl : k = 0 := by omega
            exact ⟨[], by simp⟩
  | succ n ih =>
    intro h hn
    by_cases e : k = n + 1
    · subst e; exact ⟨[], by simp⟩
    · obtain ⟨r, hr⟩ := ih (by omega) (by omega)
      obtain ⟨v, hv⟩ : ∃ v, vs[n]? = some v := ⟨_, List.getElem?_eq_getElem (by omega)⟩
      by_cases hnm : v.nm = f.nm
      · rw [fst_yes hv hnm, hr]; exact ⟨_, by rw [List.append_assoc]⟩
      · rw [fst_no hv hnm, hr]; exact ⟨r, rfl⟩
/-- Token j of value k, in the whole. -/
theorem whole_at {f : Fld} {vs : List Val} {k j : Nat} {v : Val} {t : Tok} (hv : vs[k]? = some v) (hn : v.nm = f.nm) (ht : (ofF f v.text)[j]? = some t) :
    (fst f vs vs.length).1[(fst f vs k).1.length + j]? = some (shT k (fst f vs k).2 t) := by
  have hk := (List.getElem?_eq_some_iff.1 hv).1
  have hj := (List.getElem?_eq_some_iff.1 ht).1
  obtain ⟨r, hr⟩ := fst_prefix f vs (k + 1) vs.length (by omega) (Nat.le_refl _)
  rw [hr, fst_yes hv hn]
  simp only
  rw [List.append_assoc, List.getElem?_append_right (by omega), Nat.add_sub_cancel_left, List.getElem?_append_left (by simpa using hj), List.getElem?_map, ht]
  rfl

/-- The position of the last token of the first m; 0: none. -/
def lastP (T : List Tok) : Nat → Int
  | 0 => 0
  | m + 1 => match T[m]? with | some t => t.pos | none => 0
theorem last_at {T : List Tok} {m : Nat} {t : Tok} (h : T[m]? = some t) : lastP T (m + 1) = t.pos := by simp only [lastP, h]

theorem lastP_bd (f : Fld) (vs : List Val) (m : Nat) : 0 ≤ lastP (fst f vs vs.length).1 m ∧ lastP (fst f vs vs.length).1 m ≤ 17 * vsum vs := by
  have hb := fst_base f vs vs.length (Nat.le_refl _)
  rw [List.take_length] at hb
  cases m with
  | zero => exact ⟨Int.le_refl _, by show (0 : Int) ≤ _; omega⟩
  | succ m =>
    cases ht : (fst f vs vs.length).1[m]? with
    | none => simp only [lastP, ht]; omega
    | some t =>
      simp only [lastP, ht]
      rcases fst_rise f vs vs.length (Nat.le_refl _) with h | h
      · rw [h] at ht; simp at ht
      · have := h.at_ m t ht
        omega

/-- A token of value k is behind the last one. -/
theorem gap_ok {f : Fld} {vs : List Val} {k j : Nat} {v : Val} {t : Tok} (hv : vs[k]? = some v) (hn : v.nm = f.nm) (ht : (ofF f v.text)[j]? = some t) :
    (0 < (fst f vs k).1.length + j → lastP (fst f vs vs.length).1 ((fst f vs k).1.length + j) + 1 ≤ t.pos + (fst f vs k).2) ∧
    (j = 0 → 0 < (fst f vs k).1.length → lastP (fst f vs vs.length).1 (fst f vs k).1.length + 16 ≤ t.pos + (fst f vs k).2) := by
  have hk := (List.getElem?_eq_some_iff.1 hv).1
  have hw := whole_at hv hn ht
  have hpos := (ofF_rise f v.text).at_ j t ht
  have hR : Rise 0 (fst f vs vs.length).1 ((fst f vs vs.length).2 - 16) := by
    rcases fst_rise f vs vs.length (Nat.le_refl _) with h | h
    · rw [h] at hw; simp at hw
    · exact h
  refine ⟨fun hp => ?_, fun hj hp => ?_⟩
  · obtain ⟨m, hm⟩ : ∃ m, (fst f vs k).1.length + j = m + 1 := ⟨(fst f vs k).1.length + j - 1, by omega⟩
    rw [hm] at hw ⊢
    have hlt := (List.getElem?_eq_some_iff.1 hw).1
    obtain ⟨u, hu⟩ : ∃ u, (fst f vs vs.length).1[m]? = some u := ⟨_, List.getElem?_eq_getElem (by omega)⟩
    rw [last_at hu]
    have := hR.next m u _ hu hw
    exact this
  · subst hj
    obtain ⟨m, hm⟩ : ∃ m, (fst f vs k).1.length = m + 1 := ⟨(fst f vs k).1.length - 1, by omega⟩
    rw [hm]
    obtain ⟨u, hu⟩ : ∃ u, (fst f vs k).1[m]? = some u := ⟨_, List.getElem?_eq_getElem (by omega)⟩
    obtain ⟨r, hr⟩ := fst_prefix f vs k vs.length (by omega) (Nat.le_refl _)
    have hu2 : (fst f vs vs.length).1[m]? = some u := by rw [hr, List.getElem?_append_left (by omega)]; exact hu
    rw [last_at hu2]
    have hRk : Rise 0 (fst f vs k).1 ((fst f vs k).2 - 16) := by
      rcases fst_rise f vs k (by omega) with h | h
      · rw [h] at hu; simp at hu
      · exact h
    have := (hRk.at_ m u hu).2
    omega
end Go.Proofs.YtmoahflgcojfcaaDoor.GapsPlain
