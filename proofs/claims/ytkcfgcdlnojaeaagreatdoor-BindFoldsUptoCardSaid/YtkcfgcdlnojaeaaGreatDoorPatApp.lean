/-
  A bound pattern is a pattern; how long it is.
-/
import Derived.Test.YtkcfgcdlnojaeaaGreatDoorTreePlain
set_option linter.unusedVariables false
set_option linter.unusedSimpArgs false
namespace Go.Proofs.YtkcfgcdlnojaeaaGreatDoor.PatApp
set_option maxRecDepth 100000
open Go.RowKit Go.PlainAid Base Query FoldPlain TextPlain LitWalk OpenField FieldPlain WordsAny FoldLeaf WildBind

theorem pat_shift (a b : ByteArray) : ∀ (m j : Nat), b.size - j ≤ m → pat (a ++ b) (a.size + j) = pat b j := by
  have hs : (a ++ b).size = a.size + b.size := ByteArray.size_append
  intro m
  induction m with
  | zero =>
    intro j hj
    rw [pat, if_neg (by rw [hs]; omega), pat, if_neg (by omega)]
  | succ m ih =>
    intro j hj
    by_cases h : j < b.size
    · have hb : bt (a ++ b) (a.size + j) = bt b j := by rw [bt_append, if_neg (by omega), Nat.add_sub_cancel_left]
      rw [pat, if_pos (by rw [hs]; omega), hb]
      conv => rhs; rw [pat, if_pos h]
      by_cases h92 : bt b j = 92
      · rw [if_pos h92, if_pos h92]
        by_cases h1 : j + 1 < b.size
        · rw [if_pos (by rw [hs]; omega), if_pos h1, Nat.add_assoc]
          exact ih (j + 2) (by omega)
        · rw [if_neg (by rw [hs]; omega), if_neg h1]
      · rw [if_neg h92, if_neg h92, Nat.add_assoc]
        exact ih (j + 1) (by omega)
    · rw [pat, if_neg (by rw [hs]; omega), pat, if_neg h]
theorem pat_app (a b : ByteArray) : ∀ (m i : Nat), a.size - i ≤ m → i ≤ a.size → pat a i = true → pat (a ++ b) i = pat b 0 := by
  have hs : (a ++ b).size = a.size + b.size := ByteArray.size_append
  intro m
  induction m with
  | zero =>
    intro i hi hle _
    obtain rfl : i = a.size := by omega
    exact pat_shift a b _ 0 (Nat.le_refl _)
  | succ m ih =>
    intro i hi hle hp
    by_cases h : i < a.size
    · have hb : bt (a ++ b) i = bt a i := by rw [bt_append, if_pos h]
      rw [pat, if_pos h] at hp
      rw [pat, if_pos (by rw [hs]; omega), hb]
      by_cases h92 : bt a i = 92
      · rw [if_pos h92] at hp ⊢
        by_cases h1 : i + 1 < a.size
        · rw [if_pos h1] at hp
          rw [if_pos (by rw [hs]; omega)]
          exact ih (i + 2) (by omega) (by omega) hp
        · rw [if_neg h1] at hp; cases hp
      · rw [if_neg h92] at hp ⊢
        exact ih (i + 1) (by omega) (by omega) hp
    · obtain rfl : i = a.size := by omega
      exact pat_shift a b _ 0 (Nat.le_refl _)
theorem pat_cat {a b : ByteArray} (ha : pat a 0 = true) (hb : pat b 0 = true) : pat (a ++ b) 0 = true := (pat_app a b _ 0 (Nat.le_refl _) (Nat.zero_le _) ha).trans hb
theorem pat_nil : pat ⟨#[]⟩ 0 = true := by rw [pat, if_neg (by decide)]
theorem ba_app (a b : List UInt8) : ((⟨a.toArray⟩ : ByteArray) ++ (⟨b.toArray⟩ : ByteArray)) = ⟨(a ++ b).toArray⟩ := by
  apply ByteArray.ext
  rw [ByteArray.data_append]
  simp
theorem bt_one (c : UInt8) : bt ⟨#[c]⟩ 0 = c.toNat := by
  have h : 0 < (⟨#[c]⟩ : ByteArray).size := Nat.zero_lt_one
  unfold bt
  rw [dif_pos h]
  rfl
theorem byte_nat {n : Int} (h0 : 0 ≤ n) (h1 : n ≤ 255) : ((UInt8.ofNat n.toNat).toNat : Int) = n := by
  rw [UInt8.toNat_ofNat']
  omega
theorem pat_two (c d : UInt8) (h : (c.toNat : Int) = 92) : pat ⟨#[c, d]⟩ 0 = true := by
  have hs : (⟨#[c, d]⟩ : ByteArray).size = 2 := rfl
  have hb : bt ⟨#[c, d]⟩ 0 = c.toNat := by
    have h : 0 < (⟨#[c, d]⟩ : ByteArray).size := Nat.zero_lt_succ _
    unfold bt
    rw [dif_pos h]
    rfl
  rw [pat, if_pos (by rw [hs]; omega), hb, if_pos h, if_pos (by rw [hs]; omega), pat, if_neg (by rw [hs]; omega)]
theorem pat_single (c : UInt8) (h : (c.toNat : Int) ≠ 92) : pat ⟨#[c]⟩ 0 = true := by
  have hs : (⟨#[c]⟩ : ByteArray).size = 1 := rfl
  rw [pat, if_pos (by rw [hs]; omega), bt_one, if_neg h, pat, if_neg (by rw [hs]; omega)]
theorem pat_litb {n : Int} (h0 : 0 ≤ n) (h1 : n ≤ 255) : pat ⟨(litb n).toArray⟩ 0 = true := by
  unfold litb
  split
  · exact pat_two 92 _ rfl
  · rename_i hm
    refine pat_single _ ?_
    rw [byte_nat h0 h1]
    intro e
    subst e
    exact hm rfl
theorem pat_litF (s : ByteArray) : ∀ k, pat ⟨(litF s k).toArray⟩ 0 = true
  | 0 => pat_nil
  | k + 1 => by
    rw [litF_succ, ← ba_app]
    exact pat_cat (pat_litF s k) (pat_litb (bt_nonneg s k) (bt_le s k))
theorem pat_litS (s : ByteArray) : pat (litS s) 0 = true := pat_litF s _
theorem bt_extract {s : ByteArray} {j k x : Nat} (hk : k ≤ s.size) (hx : j + x < k) : bt (s.extract j k) x = bt s (j + x) := by
  unfold bt
  rw [dif_pos (by rw [ByteArray.size_extract]; omega), dif_pos (by omega)]
  rw [ByteArray.getElem_extract]
theorem pat_one {s : ByteArray} {i : Nat} (h : i < s.size) (hb : bt s i ≠ 92) : pat (s.extract i (i + 1)) 0 = true := by
  have hs := ext_size h
  rw [pat, if_pos (by omega), bt_extract (by omega) (by omega), Nat.add_zero, if_neg hb, pat, if_neg (by omega)]
theorem pat_wGo (f : Fld) (s : ByteArray) : ∀ (m i : Nat) (out : ByteArray) (run : List UInt8), s.size - i ≤ m → pat out 0 = true → pat (wGo f s i out run) 0 = true := by
  intro m
  induction m with
  | zero =>
    intro i out run hi ho
    rw [wGo_end (by omega)]
    exact pat_cat ho (pat_litS _)
  | succ m ih =>
    intro i out run hi ho
    by_cases h : i < s.size
    · by_cases hm : bt s i = 42 ∨ bt s i = 63
      · rw [wGo_mark h hm]
        exact ih _ _ _ (by omega) (pat_cat (pat_cat ho (pat_litS _)) (pat_one h (by omega)))
      · by_cases h92 : bt s i = 92
        · by_cases h1 : i + 1 < s.size
          · rw [wGo_esc h1 h92]
            exact ih _ _ _ (by omega) ho
          · rw [wGo, if_pos h, if_neg hm, if_pos h92, if_neg h1]
            exact ho
        · rw [wGo_plain h (fun e => hm (.inl e)) (fun e => hm (.inr e)) h92]
          exact ih _ _ _ (by omega) ho
    · rw [wGo_end (by omega)]
      exact pat_cat ho (pat_litS _)
theorem wGo_size (f : Fld) (s : ByteArray) : ∀ (m i : Nat) (out : ByteArray) (run : List UInt8), s.size - i ≤ m → (wGo f s i out run).size ≤ out.size + 2 * run.length + 3 * (s.size - i) := by
  intro m
  induction m with
  | zero =>
    intro i out run hi
    rw [wGo_end (by omega), ByteArray.size_append]
    have := flush_size f run
    omega
  | succ m ih =>
    intro i out run hi
    by_cases h : i < s.size
    · by_cases hm : bt s i = 42 ∨ bt s i = 63
      · rw [wGo_mark h hm]
        have := ih (i + 1) ((out ++ flushS f run) ++ s.extract i (i + 1)) [] (by omega)
        rw [ByteArray.size_append, ByteArray.size_append, ext_size h] at this
        have := flush_size f run
        simp only [List.length_nil] at *
        omega
      · by_cases h92 : bt s i = 92
        · by_cases h1 : i + 1 < s.size
          · rw [wGo_esc h1 h92]
            have := ih (i + 2) out (run ++ [byB s (i + 1)]) (by omega)
            simp only [List.length_append, List.length_cons, List.length_nil] at this
            omega
          · rw [wGo, if_pos h, if_neg hm, if_pos h92, if_neg h1]
            omega
        · rw [wGo_plain h (fun e => hm (.inl e)) (fun e => hm (.inr e)) h92]
          have := ih (i + 1) out (run ++ [byB s i]) (by omega)
          simp only [List.length_append, List.length_cons, List.length_nil] at this
          omega
    · rw [wGo_end (by omega), ByteArray.size_append]
      have := flush_size f run
      omega
end Go.Proofs.YtkcfgcdlnojaeaaGreatDoor.PatApp
