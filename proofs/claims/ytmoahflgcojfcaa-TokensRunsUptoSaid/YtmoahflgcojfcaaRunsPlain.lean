/-
  Plain facts on words: they are runs of the text, parted, numbered through; a word alone is one word.
-/
import Derived.Test.YtmoahflgcojfcaaWordPlain
namespace Go.Proofs.Ytmoahflgcojfcaa.RunsPlain
open Go.PlainAid WordPlain

/-- A word that begins behind place p and is the n-th. -/
structure Run (s : ByteArray) (p n j k : Nat) (t : Tok) : Prop where
  eq : t = ⟨s.extract j k, 0, n, j, k⟩
  lo : p ≤ j
  ap : 0 < n → p < j
  lt : j < k
  hi : k ≤ s.size
  gap : ∀ x, p ≤ x → x < j → inW s x = false
  all : ∀ x, j ≤ x → x < k → inW s x = true
  stop : inW s k = false
  first : 0 < j → inW s (j - 1) = false

/-- Where word n - 1 ends. -/
def stp (L : List Tok) : Nat → Nat
  | 0 => 0
  | n + 1 => match L[n]? with | some t => t.stop.toNat | none => 0

theorem stp_append {L : List Tok} (t : Tok) : ∀ {n : Nat}, n ≤ L.length → stp (L ++ [t]) n = stp L n := by
  intro n h
  cases n with
  | zero => rfl
  | succ n =>
    show (match (L ++ [t])[n]? with | some t => t.stop.toNat | none => 0) = (match L[n]? with | some t => t.stop.toNat | none => 0)
    rw [List.getElem?_append_left (by omega)]
theorem stp_last {L : List Tok} (t : Tok) : stp (L ++ [t]) (L ++ [t]).length = t.stop.toNat := by
  rw [List.length_append]
  show (match (L ++ [t])[L.length]? with | some t => t.stop.toNat | none => 0) = _
  rw [List.getElem?_append_right (Nat.le_refl _), Nat.sub_self]
  rfl

structure Inv (s : ByteArray) (k : Nat) : Prop where
  runs : ∀ n t, (wst s k).1[n]? = some t → ∃ j m, Run s (stp (wst s k).1 n) n j m t
  some_ : ∀ j, (wst s k).2 = some j → stp (wst s k).1 (wst s k).1.length ≤ j ∧ j < k ∧ (∀ x, stp (wst s k).1 (wst s k).1.length ≤ x → x < j → inW s x = false) ∧ (∀ x, j ≤ x → x < k → inW s x = true)
  none_ : (wst s k).2 = none → stp (wst s k).1 (wst s k).1.length ≤ k ∧ (∀ x, stp (wst s k).1 (wst s k).1.length ≤ x → x < k → inW s x = false)
  end_ : 0 < (wst s k).1.length → inW s (stp (wst s k).1 (wst s k).1.length) = false

theorem inv (s : ByteArray) : ∀ k, Inv s k := by
  intro k
  induction k with
  | zero => exact ⟨fun n t h => by simp [wst] at h, fun j h => by simp [wst] at h, fun _ => ⟨Nat.le_refl _, fun x _ h => by omega⟩, fun h => by simp [wst] at h⟩
  | succ k ih =>
    cases hi : inW s k <;> cases h2 : (wst s k).2
    · have e := wst_out_none hi h2
      obtain ⟨a, b⟩ := ih.none_ h2
      refine ⟨by rw [e]; exact ih.runs, fun j h => by rw [e] at h; simp at h, fun _ => ?_, by rw [e]; exact ih.end_⟩
      rw [e]
      refine ⟨Nat.le_succ_of_le a, fun x hx hk => ?_⟩
      by_cases hxk : x = k
      · subst hxk; exact hi
      · exact b x hx (by omega)
    · rename_i j
      have e := wst_out_some hi h2
      obtain ⟨a, b, c, d⟩ := ih.some_ j h2
      generalize ht : (⟨s.extract j k, 0, (wst s k).1.length, j, k⟩ : Tok) = t at e
      have hst : t.stop.toNat = k := by rw [← ht]; rfl
      have hks : k ≤ s.size := by
        rcases Nat.lt_or_ge s.size k with h | h
        · have := d (k - 1) (by omega) (by omega)
          rw [inW_end s (k - 1) (by omega)] at this
          cases this
        · exact h
      have hlast : stp ((wst s k).1 ++ [t]) ((wst s k).1 ++ [t]).length = k := (stp_last t).trans hst
      refine ⟨?_, fun j h => by rw [e] at h; simp at h, fun _ => ?_, fun _ => ?_⟩
      · rw [e]
        intro n u hu
        simp only at hu ⊢
        have hn : n < ((wst s k).1 ++ [t]).length := (List.getElem?_eq_some_iff.1 hu).1
        rw [List.length_append] at hn
        simp at hn
        rw [stp_append t (by omega)]
        by_cases hl : n < (wst s k).1.length
        · rw [List.getElem?_append_left hl] at hu
          exact ih.runs n u hu
        · obtain rfl : n = (wst s k).1.length := by omega
          rw [List.getElem?_append_right (Nat.le_refl _), Nat.sub_self] at hu
          injection hu with hu
          subst hu
          have hj := d j (Nat.le_refl _) b
          have hap : 0 < (wst s k).1.length → stp (wst s k).1 (wst s k).1.length < j := by
            intro h0
            have := ih.end_ h0
            rcases Nat.lt_or_ge (stp (wst s k).1 (wst s k).1.length) j with h | h
            · exact h
            · rw [show stp (wst s k).1 (wst s k).1.length = j by omega, hj] at this; cases this
          refine ⟨j, k, ht.symm, a, hap, b, hks, c, d, hi, fun h0 => ?_⟩
          by_cases hp : stp (wst s k).1 (wst s k).1.length < j
          · exact c (j - 1) (by omega) (by omega)
          · have h00 : (wst s k).1.length = 0 := by
              rcases Nat.eq_zero_or_pos (wst s k).1.length with h | h
              · exact h
              · exact absurd (hap h) hp
            rw [h00] at hp
            simp [stp] at hp
            omega
      · rw [e, hlast]
        refine ⟨Nat.le_succ k, fun x hx hk => ?_⟩
        obtain rfl : x = k := by omega
        exact hi
      · rw [e, hlast]; exact hi
    · have e := wst_in_none hi h2
      obtain ⟨a, b⟩ := ih.none_ h2
      refine ⟨by rw [e]; exact ih.runs, fun j h => ?_, fun h => by rw [e] at h; simp at h, by rw [e]; exact ih.end_⟩
      rw [e] at h ⊢
      injection h with h
      subst h
      refine ⟨a, Nat.lt_succ_self _, b, fun x hx hk => ?_⟩
      obtain rfl : x = k := by omega
      exact hi
    · rename_i j
      have e := wst_in_some hi h2
      obtain ⟨a, b, c, d⟩ := ih.some_ j h2
      refine ⟨by rw [e]; exact ih.runs, fun j' h => ?_, fun h => by rw [e] at h; simp at h, by rw [e]; exact ih.end_⟩
      rw [e] at h ⊢
      injection h with h
      subst h
      refine ⟨a, Nat.lt_succ_of_lt b, c, fun x hx hk => ?_⟩
      by_cases hxk : x = k
      · subst hxk; exact hi
      · exact d x hx (by omega)

theorem words_none (s : ByteArray) : (wst s (s.size + 1)).2 = none := by
  have hi := inW_end s s.size (Nat.le_refl _)
  cases h2 : (wst s s.size).2
  · rw [wst_out_none hi h2]
  · rw [wst_out_some hi h2]
theorem words_runs (s : ByteArray) (n : Nat) (t : Tok) (h : (words s)[n]? = some t) : ∃ j m, Run s (stp (words s) n) n j m t := (inv s (s.size + 1)).runs n t h
theorem words_tail (s : ByteArray) : ∀ x, stp (words s) (words s).length ≤ x → x < s.size → inW s x = false := fun x h hx => ((inv s (s.size + 1)).none_ (words_none s)).2 x h (by omega)

theorem wb_in {s : ByteArray} {x : Nat} (hx : x < s.size) (h : inW s x = false) : wb (bt s x) = false := by
  unfold inW at h
  simp [hx] at h
  exact h.1

theorem dg_wb {x : Int} (h : dg x = true) : wb x = true := by
  rw [dg_true] at h
  rw [wb_true]
  omega
theorem mk_left {s : ByteArray} {x : Nat} (h : mk s x = true) : 0 < x ∧ x + 1 < s.size ∧ wb (bt s (x - 1)) = true ∧ wb (bt s (x + 1)) = true := by
  unfold mk at h
  rw [Bool.and_eq_true, Bool.or_eq_true] at h
  obtain ⟨h1, h2⟩ := h
  have h1 := of_decide_eq_true h1
  refine ⟨h1.1, h1.2, ?_⟩
  rcases h2 with h2 | h2
  · simp only [Bool.and_eq_true] at h2; exact h2.2
  · simp only [Bool.and_eq_true] at h2; exact ⟨dg_wb h2.2.1, dg_wb h2.2.2⟩
theorem inW_wb {s : ByteArray} {x : Nat} (hx : x < s.size) (h : wb (bt s x) = true) : inW s x = true := by
  unfold inW; rw [h]; simp [hx]
theorem inW_or {s : ByteArray} {x : Nat} (h : inW s x = true) : x < s.size ∧ (wb (bt s x) = true ∨ mk s x = true) := by
  unfold inW at h; simpa [Bool.and_eq_true, Bool.or_eq_true] using h

theorem first_wb {s : ByteArray} {p n j k : Nat} {t : Tok} (r : Run s p n j k t) : wb (bt s j) = true := by
  obtain ⟨hx, h | h⟩ := inW_or (r.all j (Nat.le_refl _) r.lt)
  · exact h
  · obtain ⟨h0, _, h1, _⟩ := mk_left h
    have := r.first h0
    rw [inW_wb (by omega) h1] at this
    cases this
theorem last_wb {s : ByteArray} {p n j k : Nat} {t : Tok} (r : Run s p n j k t) : wb (bt s (k - 1)) = true := by
  have hlt := r.lt
  obtain ⟨hx, h | h⟩ := inW_or (r.all (k - 1) (by omega) (by omega))
  · exact h
  · obtain ⟨_, h0, _, h1⟩ := mk_left h
    have := r.stop
    have e : k - 1 + 1 = k := by omega
    rw [e] at h1 h0
    rw [inW_wb h0 h1] at this
    cases this

theorem bt_extract {s : ByteArray} {j k x : Nat} (hk : k ≤ s.size) (hx : j + x < k) : bt (s.extract j k) x = bt s (j + x) := by
  unfold bt
  have h1 : x < (s.extract j k).size := by rw [ByteArray.size_extract]; omega
  rw [dif_pos h1, dif_pos (by omega), ByteArray.getElem_extract]

theorem inW_alone {s : ByteArray} {p n j k : Nat} {t : Tok} (r : Run s p n j k t) {x : Nat} (hx : j + x < k) : inW (s.extract j k) x = true := by
  have hk := r.hi
  have hsz : (s.extract j k).size = k - j := by rw [ByteArray.size_extract]; omega
  obtain ⟨hx', h | h⟩ := inW_or (r.all (j + x) (by omega) hx)
  · exact inW_wb (by omega) (by rw [bt_extract hk hx]; exact h)
  · obtain ⟨h0, h1, h2, h3⟩ := mk_left h
    by_cases hx0 : x = 0
    · subst hx0; exact inW_wb (by omega) (by rw [bt_extract hk hx]; exact first_wb r)
    · by_cases hxl : j + x + 1 = k
      · exact inW_wb (by omega) (by rw [bt_extract hk hx, show j + x = k - 1 by omega]; exact last_wb r)
      · unfold inW
        have hm : mk (s.extract j k) x = true := by
          rw [mk_of (by omega) (by omega)] at h ⊢
          rw [bt_extract hk hx, bt_extract hk (by omega), bt_extract hk (by omega), show j + (x - 1) = j + x - 1 by omega]
          exact h
        rw [hm]; simp; omega

theorem wst_alone {s : ByteArray} {p n j k : Nat} {t : Tok} (r : Run s p n j k t) : ∀ x, j + x < k → wst (s.extract j k) (x + 1) = ([], some 0) := by
  intro x
  induction x with
  | zero => intro hx; exact wst_in_none (inW_alone r hx) rfl
  | succ x ih =>
    intro hx
    have e := ih (by omega)
    have := wst_in_some (inW_alone r hx) (by rw [e])
    rw [this, e]
theorem words_alone {s : ByteArray} {p n j k : Nat} {t : Tok} (r : Run s p n j k t) : words (s.extract j k) = [⟨s.extract j k, 0, 0, 0, ((k - j : Nat) : Int)⟩] := by
  have hk := r.hi
  have hlt := r.lt
  have hsz : (s.extract j k).size = k - j := by rw [ByteArray.size_extract]; omega
  unfold words
  have e : wst (s.extract j k) (s.extract j k).size = ([], some 0) := by
    rw [hsz, show k - j = (k - j - 1) + 1 by omega]
    exact wst_alone r _ (by omega)
  rw [wst_out_some (inW_end _ _ (Nat.le_refl _)) (by rw [e])]
  rw [e, hsz]
  have hx : (s.extract j k).extract 0 (k - j) = s.extract j k := by
    rw [← hsz]; exact ByteArray.extract_zero_size
  rw [hx]
  rfl
end Go.Proofs.Ytmoahflgcojfcaa.RunsPlain
