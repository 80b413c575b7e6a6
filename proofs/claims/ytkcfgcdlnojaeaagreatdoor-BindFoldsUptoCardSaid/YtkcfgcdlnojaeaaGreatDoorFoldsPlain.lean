/-
  What the four leaves of BindFolds are bound as, in plain Lean.
-/
import Derived.Test.YtkcfgcdlnojaeaaGreatDoorPatApp
import Derived.Test.YtkcfgcdlnojaeaaGreatDoorDSchema
set_option linter.unusedVariables false
set_option linter.unusedSimpArgs false
namespace Go.Proofs.YtkcfgcdlnojaeaaGreatDoor.FoldsPlain
set_option maxRecDepth 100000
open Go.RowKit Go.PlainAid Base Query NodeTree NodePlain FoldPlain TextPlain LitWalk GoodName SchemaCheck OpenField FieldPlain WordsAny SchFind FoldLeaf WildBind SpanBind TreePlain PatApp

theorem good_name : ∀ {fs : List Fld} {seen : List ByteArray} {f : Fld}, goodFrom seen fs = true → f ∈ fs → nameB f.nm = true ∧ f.nm ∉ seen
  | g :: r, seen, f, h, hf => by
    simp only [goodFrom, Bool.and_eq_true, Bool.not_eq_true'] at h
    obtain ⟨⟨h1, h2⟩, h3⟩ := h
    rcases List.mem_cons.1 hf with rfl | hf
    · refine ⟨by unfold fldB at h2; exact (Bool.and_eq_true _ _ ▸ h2).1, fun hm => ?_⟩
      have := List.any_eq_true (p := fun x => decide (x = f.nm)) |>.2 ⟨_, hm, decide_eq_true rfl⟩
      rw [h1] at this
      cases this
    · obtain ⟨i1, i2⟩ := good_name h3 hf
      exact ⟨i1, fun hm => i2 (List.mem_append.2 (.inl hm))⟩
theorem find_good : ∀ {fs : List Fld} {seen : List ByteArray} {k j : Nat} {f : Fld}, goodFrom seen fs = true → fs[j]? = some f → findF f.nm fs k = some (k + j)
  | g :: r, seen, k, 0, f, h, hf => by
    obtain rfl : g = f := by simpa using hf
    unfold findF
    rw [if_pos rfl]
    rfl
  | g :: r, seen, k, j + 1, f, h, hf => by
    simp only [goodFrom, Bool.and_eq_true, Bool.not_eq_true'] at h
    obtain ⟨⟨h1, h2⟩, h3⟩ := h
    have hf' : r[j]? = some f := by simpa using hf
    have hne : g.nm ≠ f.nm := fun e => (good_name h3 (List.mem_of_getElem? hf')).2 (by rw [← e]; simp)
    unfold findF
    rw [if_neg hne, find_good h3 hf']
    congr 1
    omega
theorem find_self {fs : List Fld} {j : Nat} {f : Fld} (h : schemaB fs = true) (hf : fs[j]? = some f) : findS fs f.nm = some j ∧ f.nm.size ≠ 0 ∧ f.nm.size ≤ 32 := by
  unfold schemaB at h
  rw [Bool.and_eq_true] at h
  refine ⟨by have := find_good (k := 0) h.2 hf; rwa [Nat.zero_add] at this, ?_⟩
  have := (good_name h.2 (List.mem_of_getElem? hf)).1
  unfold nameB at this
  simp only [Bool.and_eq_true, decide_eq_true_eq] at this
  omega

/-- A leaf's own values hold in whatever memory. -/
theorem leaf_val (w : World) (B : Nat) (k n : Int) (fn T : ByteArray) (lo hi : Bnd) (hk : (Lit.int .i64 k).wf = true) (hn : (Lit.int .i64 n).wf = true) :
    NVal w B (nodeV k fn T n ⟨lo, hi, none, 0, 0, none, 0, 0⟩).toList (.mk ⟨k, fn, T, n, lo, hi, []⟩ []) :=
  NVal.mk ⟨k, fn, T, n, lo, hi, []⟩ [] none none 0 0 (fun _ => []) ⟨hk, hn, (fun _ h => by cases h), Nat.zero_le _⟩ (Nat.zero_le _) (Slc.nil _) (fun h => absurd rfl h) (fun _ _ h => by cases h)
theorem leaf_bulk (hd : NHead) : (Nod.mk hd []).bulk = nbulk hd := by simp [Nod.bulk, nbulks]
theorem leaf_nod (hd : NHead) : nodB (.mk hd []) = ownB hd 0 := by simp [nodB, nodsB]

/-- What a leaf over a field of the schema is bound as. -/
theorem leaf_top {fs : List Fld} {j : Nat} {f : Fld} {hd : NHead} (h : schemaB fs = true) (hf : fs[j]? = some f) (hn : hd.field = f.nm) (h8 : hd.kind ≤ 7) (hb : (leafQ f j hd).2 = true) : topQ fs (.mk hd []) = (leafQ f j hd).1 := by
  have h1 := find_self h hf
  have e : bindT fs (.mk hd []) = leafQ f j hd := by
    rw [bindT, if_neg (by omega), if_pos h8]
    unfold leafT atOf
    rw [hn, if_neg h1.2.1, h1.1]
    show leafQ (fs.getD j fld0) j hd = _
    rw [List.getD_eq_getElem?_getD, hf]
    rfl
  unfold topQ
  rw [e, if_pos hb]
theorem top_prefix {fs : List Fld} {j : Nat} {f : Fld} (T : ByteArray) (h : schemaB fs = true) (hf : fs[j]? = some f) : topQ fs (.mk ⟨3, f.nm, T, 0, bnd0, bnd0, []⟩ []) = prefixQ f j T := leaf_top h hf rfl (by simp) rfl
theorem top_fuzzy {fs : List Fld} {j : Nat} {f : Fld} (T : ByteArray) (h : schemaB fs = true) (hf : fs[j]? = some f) : topQ fs (.mk ⟨5, f.nm, T, 2, bnd0, bnd0, []⟩ []) = fuzzyQ f j 2 T := leaf_top h hf rfl (by simp) rfl
theorem top_wild {fs : List Fld} {j : Nat} {f : Fld} (T : ByteArray) (h : schemaB fs = true) (hf : fs[j]? = some f) : topQ fs (.mk ⟨4, f.nm, T, 0, bnd0, bnd0, []⟩ []) = wildQ f j T := leaf_top h hf rfl (by simp) rfl
theorem top_span {fs : List Fld} {j : Nat} {f : Fld} (lo hi : Bnd) (h : schemaB fs = true) (hf : fs[j]? = some f) : topQ fs (.mk ⟨6, f.nm, ⟨#[]⟩, 0, lo, hi, []⟩ []) = spanQ f j lo hi := leaf_top h hf rfl (by simp) rfl

/-! A star and a text's bytes are a pattern; it is bound as a star and the folded text's. -/
theorem bt_at (a b : List UInt8) : bt ⟨(a ++ b).toArray⟩ a.length = bt ⟨b.toArray⟩ 0 := by
  rw [← ba_app, bt_append, if_neg (by rw [run_size]; omega), run_size, Nat.sub_self]
theorem bt_at1 (a b : List UInt8) : bt ⟨(a ++ b).toArray⟩ (a.length + 1) = bt ⟨b.toArray⟩ 1 := by
  rw [← ba_app, bt_append, if_neg (by rw [run_size]; omega), run_size, Nat.add_sub_cancel_left]
theorem bt_hd (c : UInt8) (r : List UInt8) : bt ⟨(c :: r).toArray⟩ 0 = c.toNat := by
  have h : 0 < (⟨(c :: r).toArray⟩ : ByteArray).size := by rw [run_size]; simp
  unfold bt
  rw [dif_pos h]
  rfl
theorem bt_hd1 (c d : UInt8) (r : List UInt8) : bt ⟨(c :: d :: r).toArray⟩ 1 = d.toNat := by
  have h : 1 < (⟨(c :: d :: r).toArray⟩ : ByteArray).size := by rw [run_size]; simp
  unfold bt
  rw [dif_pos h]
  rfl
theorem mark_iff {n : Int} : LitWalk.mark n = true ↔ n = 42 ∨ n = 63 ∨ n = 92 := by simp [LitWalk.mark, or_assoc]
theorem wild_lit (a r : List UInt8) (n m l : Int) (h0 : 0 ≤ n) (h1 : n ≤ 255) : wildS ⟨(a ++ (litb n ++ r)).toArray⟩ a.length m l = wildS ⟨(a ++ (litb n ++ r)).toArray⟩ (a.length + (litb n).length) m l := by
  have hs : (⟨(a ++ (litb n ++ r)).toArray⟩ : ByteArray).size = a.length + ((litb n).length + r.length) := by rw [run_size]; simp
  by_cases hm : LitWalk.mark n = true
  · have e : litb n = [92, UInt8.ofNat n.toNat] := by unfold litb; rw [if_pos hm]
    have hb := bt_at a (litb n ++ r)
    have hb1 := bt_at1 a (litb n ++ r)
    rw [e] at hb hb1 hs ⊢
    rw [List.cons_append, List.cons_append, List.nil_append, bt_hd] at hb
    rw [List.cons_append, List.cons_append, List.nil_append, bt_hd1, byte_nat h0 h1] at hb1
    simp only [List.length_cons, List.length_nil] at hs ⊢
    refine wild_esc (by rw [hs]; omega) hb ?_
    rw [show (⟨(a ++ ([92, UInt8.ofNat n.toNat] ++ r)).toArray⟩ : ByteArray) = ⟨(a ++ (92 :: UInt8.ofNat n.toNat :: r)).toArray⟩ from rfl, hb1]
    have := mark_iff.1 hm
    omega
  · have e : litb n = [UInt8.ofNat n.toNat] := by unfold litb; rw [if_neg hm]
    have hb := bt_at a (litb n ++ r)
    rw [e] at hb hs ⊢
    rw [List.cons_append, List.nil_append, bt_hd, byte_nat h0 h1] at hb
    have hm' : ¬ (n = 42 ∨ n = 63 ∨ n = 92) := fun h => hm (mark_iff.2 h)
    simp only [List.length_cons, List.length_nil] at hs ⊢
    rw [show (⟨(a ++ ([UInt8.ofNat n.toNat] ++ r)).toArray⟩ : ByteArray) = ⟨(a ++ (UInt8.ofNat n.toNat :: r)).toArray⟩ from rfl] at hs ⊢
    exact wild_plain (by rw [hs]; omega) (by rw [hb]; omega) (by rw [hb]; omega) (by rw [hb]; omega)
theorem wgo_lit (f : Fld) (a r : List UInt8) (n : Int) (out : ByteArray) (run : List UInt8) (h0 : 0 ≤ n) (h1 : n ≤ 255) : wGo f ⟨(a ++ (litb n ++ r)).toArray⟩ a.length out run = wGo f ⟨(a ++ (litb n ++ r)).toArray⟩ (a.length + (litb n).length) out (run ++ [UInt8.ofNat n.toNat]) := by
  have hs : (⟨(a ++ (litb n ++ r)).toArray⟩ : ByteArray).size = a.length + ((litb n).length + r.length) := by rw [run_size]; simp
  by_cases hm : LitWalk.mark n = true
  · have e : litb n = [92, UInt8.ofNat n.toNat] := by unfold litb; rw [if_pos hm]
    have hb := bt_at a (litb n ++ r)
    have hb1 := bt_at1 a (litb n ++ r)
    rw [e] at hb hb1 hs ⊢
    rw [List.cons_append, List.cons_append, List.nil_append, bt_hd] at hb
    rw [List.cons_append, List.cons_append, List.nil_append, bt_hd1, byte_nat h0 h1] at hb1
    simp only [List.length_cons, List.length_nil] at hs ⊢
    rw [show (⟨(a ++ ([92, UInt8.ofNat n.toNat] ++ r)).toArray⟩ : ByteArray) = ⟨(a ++ (92 :: UInt8.ofNat n.toNat :: r)).toArray⟩ from rfl] at hs ⊢
    rw [wGo_esc (by rw [hs]; omega) hb]
    unfold byB
    rw [hb1]
  · have e : litb n = [UInt8.ofNat n.toNat] := by unfold litb; rw [if_neg hm]
    have hb := bt_at a (litb n ++ r)
    rw [e] at hb hs ⊢
    rw [List.cons_append, List.nil_append, bt_hd, byte_nat h0 h1] at hb
    have hm' : ¬ (n = 42 ∨ n = 63 ∨ n = 92) := fun h => hm (mark_iff.2 h)
    simp only [List.length_cons, List.length_nil] at hs ⊢
    rw [show (⟨(a ++ ([UInt8.ofNat n.toNat] ++ r)).toArray⟩ : ByteArray) = ⟨(a ++ (UInt8.ofNat n.toNat :: r)).toArray⟩ from rfl] at hs ⊢
    rw [wGo_plain (by rw [hs]; omega) (by rw [hb]; omega) (by rw [hb]; omega) (by rw [hb]; omega)]
    unfold byB
    rw [hb]
theorem lit_split (s : ByteArray) : ∀ (m k : Nat), s.size - k ≤ m → k < s.size → ∃ r, litF s s.size = litF s k ++ (litb (bt s k) ++ r) := by
  intro m
  induction m with
  | zero => intro k h1 h2; omega
  | succ m ih =>
    intro k h1 h2
    by_cases h : k + 1 < s.size
    · obtain ⟨r, e⟩ := ih (k + 1) (by omega) h
      refine ⟨litb (bt s (k + 1)) ++ r, ?_⟩
      rw [e, litF_succ, List.append_assoc]
    · refine ⟨[], ?_⟩
      rw [show s.size = k + 1 by omega, litF_succ, List.append_nil]
def starS (t : ByteArray) : ByteArray := ⟨#[42]⟩ ++ litS t
theorem star_list (t : ByteArray) : starS t = ⟨(42 :: litF t t.size).toArray⟩ := ba_app [42] (litF t t.size)
theorem star_size (t : ByteArray) : (starS t).size = 1 + (litF t t.size).length := by rw [star_list, run_size, List.length_cons]; omega
theorem bytes_all (t : ByteArray) : (⟨((List.range t.size).map (byB t)).toArray⟩ : ByteArray) = t := by
  apply ByteArray.ext
  apply Array.ext
  · simp
  · intro i h1 h2
    have h : i < t.size := by simpa using h1
    simp only [List.getElem_toArray, List.getElem_map, List.getElem_range]
    unfold byB bt
    rw [dif_pos h]
    show UInt8.ofNat ((t[i].toNat : Int)).toNat = _
    rw [Int.toNat_natCast, UInt8.ofNat_toNat]
    rfl
theorem star_wild_from (t : ByteArray) (m l : Int) : ∀ (d k : Nat), t.size - k ≤ d → k ≤ t.size → wildS (starS t) (1 + (litF t k).length) m l = wildS (starS t) (starS t).size m l := by
  intro d
  induction d with
  | zero => intro k h1 h2; rw [show k = t.size by omega, star_size]
  | succ d ih =>
    intro k h1 h2
    by_cases h : k < t.size
    · obtain ⟨r, e⟩ := lit_split t _ k (Nat.le_refl _) h
      rw [← ih (k + 1) (by omega) (by omega), star_list, e, litF_succ, List.length_append]
      have := wild_lit (42 :: litF t k) r (bt t k) m l (bt_nonneg t k) (bt_le t k)
      rw [List.length_cons, List.cons_append] at this
      rw [show 1 + (litF t k).length = (litF t k).length + 1 by omega, show 1 + ((litF t k).length + (litb (bt t k)).length) = (litF t k).length + 1 + (litb (bt t k)).length by omega]
      exact this
    · rw [show k = t.size by omega, star_size]
theorem star_wild (t : ByteArray) (h : t.size ≠ 0) : wildB (starS t) = true := by
  have hs := star_size t
  have hl : 0 < (litF t t.size).length := by
    obtain ⟨r, e⟩ := lit_split t _ 0 (Nat.le_refl _) (by omega)
    rw [e]
    have : 0 < (litb (bt t 0)).length := by unfold litb; split <;> simp
    simp
    omega
  have hb : bt (starS t) 0 = 42 := by rw [star_list, bt_hd]; rfl
  unfold wildB
  rw [wild_star (by omega) hb]
  have := star_wild_from t (0 + 1) (0 : Nat) _ 0 (Nat.le_refl _) (Nat.zero_le _)
  rw [show litF t 0 = [] from rfl, List.length_nil, Nat.add_zero] at this
  rw [Nat.zero_add, this, wild_end (Nat.le_refl _)]
  rw [show ((0 : Int) + 1 == 1) = true from rfl, Bool.true_and, Bool.or_eq_true]
  right
  rw [bne_iff_ne]
  omega
theorem star_go (f : Fld) (t out : ByteArray) : ∀ (d k : Nat), t.size - k ≤ d → k ≤ t.size → wGo f (starS t) (1 + (litF t k).length) out ((List.range k).map (byB t)) = out ++ litS (foldedS f t) := by
  have hend : ∀ k, k = t.size → wGo f (starS t) (1 + (litF t k).length) out ((List.range k).map (byB t)) = out ++ litS (foldedS f t) := by
    rintro k rfl
    rw [wGo_end (by rw [star_size]; omega)]
    unfold flushS
    rw [bytes_all]
  intro d
  induction d with
  | zero => intro k h1 h2; exact hend k (by omega)
  | succ d ih =>
    intro k h1 h2
    by_cases h : k < t.size
    · obtain ⟨r, e⟩ := lit_split t _ k (Nat.le_refl _) h
      rw [← ih (k + 1) (by omega) (by omega), star_list, e, litF_succ, List.length_append, List.range_succ, List.map_append]
      have := wgo_lit f (42 :: litF t k) r (bt t k) out ((List.range k).map (byB t)) (bt_nonneg t k) (bt_le t k)
      rw [List.length_cons, List.cons_append] at this
      rw [show 1 + (litF t k).length = (litF t k).length + 1 by omega, show 1 + ((litF t k).length + (litb (bt t k)).length) = (litF t k).length + 1 + (litb (bt t k)).length by omega]
      exact this
    · exact hend k (by omega)
theorem litS_nil : litS ⟨#[]⟩ = ⟨#[]⟩ := rfl
theorem wildQ_star (f : Fld) (j : Int) (t : ByteArray) : wildQ f j (starS t) = if f.kd = 3 then noneQ else .mk (bareH 7 j (starS (foldedS f t))) [] := by
  unfold wildQ
  split
  · rfl
  · have hs := star_size t
    have hb : bt (starS t) 0 = 42 := by rw [star_list, bt_hd]; rfl
    rw [wGo_mark (by omega) (.inl hb)]
    have hf : flushS f [] = ⟨#[]⟩ := by
      unfold flushS foldedS
      split
      · have h0 : (foldS ⟨([] : List UInt8).toArray⟩).size = 0 := by
          have := folded_size ⟨⟨#[]⟩, 1, true, false, false⟩ ⟨#[]⟩
          unfold foldedS at this
          rw [if_pos ⟨rfl, rfl⟩] at this
          exact this
        rw [show foldS ⟨([] : List UInt8).toArray⟩ = ⟨#[]⟩ from ByteArray.ext (Array.eq_empty_of_size_eq_zero h0)]
        rfl
      · rfl
    have hx : (starS t).extract 0 (0 + 1) = ⟨#[42]⟩ := by
      rw [star_list]
      apply ByteArray.ext
      rw [ByteArray.data_extract]
      simp
    rw [hf, hx]
    have := star_go f t ((⟨#[]⟩ ++ ⟨#[]⟩) ++ ⟨#[42]⟩) _ 0 (Nat.le_refl _) (Nat.zero_le _)
    rw [show litF t 0 = [] from rfl, List.length_nil, Nat.add_zero, List.range_zero, List.map_nil] at this
    rw [Nat.zero_add, this]
    rfl
end Go.Proofs.YtkcfgcdlnojaeaaGreatDoor.FoldsPlain
