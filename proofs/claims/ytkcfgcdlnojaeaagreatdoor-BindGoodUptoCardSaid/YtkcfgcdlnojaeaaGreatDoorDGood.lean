/-
  A bound pattern is a pattern; how long it is.
  What binding makes of a good tree over a good schema is good, and no greater.
-/
import Derived.Test.YtkcfgcdlnojaeaaGreatDoorTreePlain
set_option linter.unusedVariables false
set_option linter.unusedSimpArgs false
namespace Go.Proofs.YtkcfgcdlnojaeaaGreatDoor.PatApp
set_option maxRecDepth 100000
open Go.RowKit Go.PlainAid Base Query FoldPlain TextPlain LitWalk OpenField FieldPlain WordsAny FoldLeaf WildBind

theorem pat_shift (a b : ByteArray) : ∀ (m j : Nat), b.size - j ≤ m → pat (a ++ b) (a.size + j) = pat b j := by
  have hs : (a ++ b).size = a.size + b.size := ByteArray.size_append
  intro m
  induction m with
  | zero =>
    intro j hj
    rw [pat, if_neg (by rw [hs]; omega), pat, if_neg (by omega)]
  | succ m ih =>
    intro j hj
    by_cases h : j < b.size
    · have hb : bt (a ++ b) (a.size + j) = bt b j := by rw [bt_append, if_neg (by omega), Nat.add_sub_cancel_left]
      rw [pat, if_pos (by rw [hs]; omega), hb]
      conv => rhs; rw [pat, if_pos h]
      by_cases h92 : bt b j = 92
      · rw [if_pos h92, if_pos h92]
        by_cases h1 : j + 1 < b.size
        · rw [if_pos (by rw [hs]; omega), if_pos h1, Nat.add_assoc]
          exact ih (j + 2) (by omega)
        · rw [if_neg (by rw [hs]; omega), if_neg h1]
      · rw [if_neg h92, if_neg h92, Nat.add_assoc]
        exact ih (j + 1) (by omega)
    · rw [pat, if_neg (by rw [hs]; omega), pat, if_neg h]
theorem pat_app (a b : ByteArray) : ∀ (m i : Nat), a.size - i ≤ m → i ≤ a.size → pat a i = true → pat (a ++ b) i = pat b 0 := by
  have hs : (a ++ b).size = a.size + b.size := ByteArray.size_append
  intro m
  induction m with
  | zero =>
    intro i hi hle _
    obtain rfl : i = a.size := by omega
    exact pat_shift a b _ 0 (Nat.le_refl _)
  | succ m ih =>
    intro i hi hle hp
    by_cases h : i < a.size
    · have hb : bt (a ++ b) i = bt a i := by rw [bt_append, if_pos h]
      rw [pat, if_pos h] at hp
      rw [pat, if_pos (by rw [hs]; omega), hb]
      by_cases h92 : bt a i = 92
      · rw [if_pos h92] at hp ⊢
        by_cases h1 : i + 1 < a.size
        · rw [if_pos h1] at hp
          rw [if_pos (by rw [hs]; omega)]
          exact ih (i + 2) (by omega) (by omega) hp
        · rw [if_neg h1] at hp; cases hp
      · rw [if_neg h92] at hp ⊢
        exact ih (i + 1) (by omega) (by omega) hp
    · obtain rfl : i = a.size := by omega
      exact pat_shift a b _ 0 (Nat.le_refl _)
theorem pat_cat {a b : ByteArray} (ha : pat a 0 = true) (hb : pat b 0 = true) : pat (a ++ b) 0 = true := (pat_app a b _ 0 (Nat.le_refl _) (Nat.zero_le _) ha).trans hb
theorem pat_nil : pat ⟨#[]⟩ 0 = true := by rw [pat, if_neg (by decide)]
theorem ba_app (a b : List UInt8) : ((⟨a.toArray⟩ : ByteArray) ++ (⟨b.toArray⟩ : ByteArray)) = ⟨(a ++ b).toArray⟩ := by
  apply ByteArray.ext
  rw [ByteArray.data_append]
  simp
theorem bt_one (c : UInt8) : bt ⟨#[c]⟩ 0 = c.toNat := by
  have h : 0 < (⟨#[c]⟩ : ByteArray).size := Nat.zero_lt_one
  unfold bt
  rw [dif_pos h]
  rfl
theorem byte_nat {n : Int} (h0 : 0 ≤ n) (h1 : n ≤ 255) : ((UInt8.ofNat n.toNat).toNat : Int) = n := by
  rw [UInt8.toNat_ofNat']
  omega
theorem pat_two (c d : UInt8) (h : (c.toNat : Int) = 92) : pat ⟨#[c, d]⟩ 0 = true := by
  have hs : (⟨#[c, d]⟩ : ByteArray).size = 2 := rfl
  have hb : bt ⟨#[c, d]⟩ 0 = c.toNat := by
    have h : 0 < (⟨#[c, d]⟩ : ByteArray).size := Nat.zero_lt_succ _
    unfold bt
    rw [dif_pos h]
    rfl
  rw [pat, if_pos (by rw [hs]; omega), hb, if_pos h, if_pos (by rw [hs]; omega), pat, if_neg (by rw [hs]; omega)]
theorem pat_single (c : UInt8) (h : (c.toNat : Int) ≠ 92) : pat ⟨#[c]⟩ 0 = true := by
  have hs : (⟨#[c]⟩ : ByteArray).size = 1 := rfl
  rw [pat, if_pos (by rw [hs]; omega), bt_one, if_neg h, pat, if_neg (by rw [hs]; omega)]
theorem pat_litb {n : Int} (h0 : 0 ≤ n) (h1 : n ≤ 255) : pat ⟨(litb n).toArray⟩ 0 = true := by
  unfold litb
  split
  · exact pat_two 92 _ rfl
  · rename_i hm
    refine pat_single _ ?_
    rw [byte_nat h0 h1]
    intro e
    subst e
    exact hm rfl
theorem pat_litF (s : ByteArray) : ∀ k, pat ⟨(litF s k).toArray⟩ 0 = true
  | 0 => pat_nil
  | k + 1 => by
    rw [litF_succ, ← ba_app]
    exact pat_cat (pat_litF s k) (pat_litb (bt_nonneg s k) (bt_le s k))
theorem pat_litS (s : ByteArray) : pat (litS s) 0 = true := pat_litF s _
theorem bt_extract {s : ByteArray} {j k x : Nat} (hk : k ≤ s.size) (hx : j + x < k) : bt (s.extract j k) x = bt s (j + x) := by
  unfold bt
  rw [dif_pos (by rw [ByteArray.size_extract]; omega), dif_pos (by omega)]
  rw [ByteArray.getElem_extract]
theorem pat_one {s : ByteArray} {i : Nat} (h : i < s.size) (hb : bt s i ≠ 92) : pat (s.extract i (i + 1)) 0 = true := by
  have hs := ext_size h
  rw [pat, if_pos (by omega), bt_extract (by omega) (by omega), Nat.add_zero, if_neg hb, pat, if_neg (by omega)]
theorem pat_wGo (f : Fld) (s : ByteArray) : ∀ (m i : Nat) (out : ByteArray) (run : List UInt8), s.size - i ≤ m → pat out 0 = true → pat (wGo f s i out run) 0 = true := by
  intro m
  induction m with
  | zero =>
    intro i out run hi ho
    rw [wGo_end (by omega)]
    exact pat_cat ho (pat_litS _)
  | succ m ih =>
    intro i out run hi ho
    by_cases h : i < s.size
    · by_cases hm : bt s i = 42 ∨ bt s i = 63
      · rw [wGo_mark h hm]
        exact ih _ _ _ (by omega) (pat_cat (pat_cat ho (pat_litS _)) (pat_one h (by omega)))
      · by_cases h92 : bt s i = 92
        · by_cases h1 : i + 1 < s.size
          · rw [wGo_esc h1 h92]
            exact ih _ _ _ (by omega) ho
          · rw [wGo, if_pos h, if_neg hm, if_pos h92, if_neg h1]
            exact ho
        · rw [wGo_plain h (fun e => hm (.inl e)) (fun e => hm (.inr e)) h92]
          exact ih _ _ _ (by omega) ho
    · rw [wGo_end (by omega)]
      exact pat_cat ho (pat_litS _)
theorem wGo_size (f : Fld) (s : ByteArray) : ∀ (m i : Nat) (out : ByteArray) (run : List UInt8), s.size - i ≤ m → (wGo f s i out run).size ≤ out.size + 2 * run.length + 3 * (s.size - i) := by
  intro m
  induction m with
  | zero =>
    intro i out run hi
    rw [wGo_end (by omega), ByteArray.size_append]
    have := flush_size f run
    omega
  | succ m ih =>
    intro i out run hi
    by_cases h : i < s.size
    · by_cases hm : bt s i = 42 ∨ bt s i = 63
      · rw [wGo_mark h hm]
        have := ih (i + 1) ((out ++ flushS f run) ++ s.extract i (i + 1)) [] (by omega)
        rw [ByteArray.size_append, ByteArray.size_append, ext_size h] at this
        have := flush_size f run
        simp only [List.length_nil] at *
        omega
      · by_cases h92 : bt s i = 92
        · by_cases h1 : i + 1 < s.size
          · rw [wGo_esc h1 h92]
            have := ih (i + 2) out (run ++ [byB s (i + 1)]) (by omega)
            simp only [List.length_append, List.length_cons, List.length_nil] at this
            omega
          · rw [wGo, if_pos h, if_neg hm, if_pos h92, if_neg h1]
            omega
        · rw [wGo_plain h (fun e => hm (.inl e)) (fun e => hm (.inr e)) h92]
          have := ih (i + 1) out (run ++ [byB s i]) (by omega)
          simp only [List.length_append, List.length_cons, List.length_nil] at this
          omega
    · rw [wGo_end (by omega), ByteArray.size_append]
      have := flush_size f run
      omega
end Go.Proofs.YtkcfgcdlnojaeaaGreatDoor.PatApp

namespace Go.Proofs.YtkcfgcdlnojaeaaGreatDoor.GoodBind
set_option maxRecDepth 100000
open Go.RowKit Go.PlainAid Base Query NodeTree NodePlain TextPlain WordPlain ChainPlain OfAny OpenField FieldPlain WordsAny LeafBase SchFind FoldLeaf WildBind SpanBind TreePlain PatApp

theorem goodBy_mk {N : Int} {hd : Head} {ks : List Qry} (h : locB N false hd ks.length = true) (hk : ∀ k ∈ ks, good N false k = true) : good N false (.mk hd ks) = true := by
  unfold good
  rw [goodBy, h, goodsBy_all, Bool.true_and, List.all_eq_true]
  exact hk
theorem no_bnd : noEnd bnd0 = true := rfl
theorem good_none (N : Int) : good N false noneQ = true := goodBy_mk (by simp [bareH, locB, hasOf, numB, lstB, no_bnd]; rfl) (fun _ h => by cases h)
theorem inR_of {i N : Int} (h0 : 0 ≤ i) (h1 : i < N) : inR i N = true := by unfold inR; rw [decide_eq_true h0, decide_eq_true h1]; rfl
theorem good_term {N i : Int} (h0 : 0 ≤ i) (h1 : i < N) (t : ByteArray) : good N false (termQ i t) = true := goodBy_mk (by simp [bareH, locB, hasOf, numB, lstB, no_bnd, inR_of h0 h1]) (fun _ h => by cases h)
theorem good_has {N i : Int} (h0 : 0 ≤ i) (h1 : i < N) : good N false (hasQ i) = true := goodBy_mk (by simp [bareH, locB, hasOf, numB, lstB, no_bnd, inR_of h0 h1]; rfl) (fun _ h => by cases h)
theorem good_all (N : Int) : good N false allQ = true := goodBy_mk (by simp [bareH, locB, hasOf, numB, lstB, no_bnd]; rfl) (fun _ h => by cases h)
theorem good_prefix {N i : Int} (h0 : 0 ≤ i) (h1 : i < N) (t : ByteArray) : good N false (.mk ⟨6, i, t, [], [], 0, 0, bnd0, bnd0, []⟩ []) = true := goodBy_mk (by simp [locB, hasOf, numB, lstB, no_bnd, inR_of h0 h1]) (fun _ h => by cases h)
theorem good_fuzzy {N i n : Int} (h0 : 0 ≤ i) (h1 : i < N) (hn : 0 ≤ n ∧ n ≤ 2) (t : ByteArray) : good N false (.mk ⟨8, i, t, [], [], n, 0, bnd0, bnd0, []⟩ []) = true := goodBy_mk (by simp [locB, hasOf, numB, lstB, no_bnd, inR_of h0 h1, hn.1, hn.2]) (fun _ h => by cases h)
theorem good_wild {N i : Int} (h0 : 0 ≤ i) (h1 : i < N) (t : ByteArray) (ht : pat t 0 = true) : good N false (.mk (bareH 7 i t) []) = true := goodBy_mk (by simp [bareH, locB, hasOf, numB, lstB, no_bnd, inR_of h0 h1, ht]) (fun _ h => by cases h)
theorem good_span {N i : Int} {lo hi : Bnd} (h0 : 0 ≤ i) (h1 : i < N) (hl : okEnd lo = true) (hh : okEnd hi = true) : good N false (.mk ⟨9, i, ⟨#[]⟩, [], [], 0, 0, lo, hi, []⟩ []) = true := goodBy_mk (by simp [locB, hasOf, numB, lstB, inR_of h0 h1, hl, hh]; rfl) (fun _ h => by cases h)
theorem off_of {o : Int} (h0 : 0 ≤ o) (h1 : o < 2147483647) : offB o = true := by unfold offB; rw [decide_eq_true h0, decide_eq_true h1]; rfl
theorem good_phrase {N i n : Int} (h0 : 0 ≤ i) (h1 : i < N) (hn : 0 ≤ n ∧ n ≤ 999999999) (ts : List Tok) (hne : ts ≠ []) (hp : ∀ t ∈ ts, 0 ≤ t.pos - (ts.head?.getD ⟨⟨#[]⟩, 0, 0, 0, 0⟩).pos ∧ t.pos - (ts.head?.getD ⟨⟨#[]⟩, 0, 0, 0, 0⟩).pos < 2147483647) : good N false (phraseQ i n ts) = true := by
  refine goodBy_mk ?_ (fun _ h => by cases h)
  have hall : (ts.map fun t => t.pos - (ts.head?.getD ⟨⟨#[]⟩, 0, 0, 0, 0⟩).pos).all offB = true := by
    rw [List.all_eq_true]
    intro o ho
    obtain ⟨t, ht, rfl⟩ := List.mem_map.1 ho
    exact off_of (hp t ht).1 (hp t ht).2
  have hl : ts.length ≠ 0 := by have := List.length_pos_iff.2 hne; omega
  unfold phraseQ at *
  have hlo : (ts.map fun t => t.pos - (ts.head?.getD ⟨⟨#[]⟩, 0, 0, 0, 0⟩).pos).length = ts.length := by simp
  have hlt : (ts.map Tok.text).length = ts.length := by simp
  generalize (ts.map fun t => t.pos - (ts.head?.getD ⟨⟨#[]⟩, 0, 0, 0, 0⟩).pos) = os at hall hlo ⊢
  generalize ts.map Tok.text = tt at hlt ⊢
  simp [locB, hasOf, numB, lstB, no_bnd, inR_of h0 h1, hn.1, hn.2, hlo, hlt, hl, hall]
  rfl
/-- The tokens of a text stand in their order. -/
theorem words_rise (s : ByteArray) : (words s).Pairwise fun a b => a.pos ≤ b.pos := by
  rw [List.pairwise_iff_getElem]
  intro i j hi hj hij
  rw [words_pos (s := s) (n := i) (List.getElem?_eq_getElem hi), words_pos (s := s) (n := j) (List.getElem?_eq_getElem hj)]
  omega
theorem of_rise {kd : Int} {a b c : Bool} {s : ByteArray} : (ofT kd a b c s).Pairwise fun x y => x.pos ≤ y.pos := by
  unfold ofT
  split
  · unfold textT passed
    refine (words_rise s).filterMap _ ?_
    intro x y hxy u hu v hv
    have key : ∀ {x u : Tok}, passT (chn a b c) x = some u → u.pos = x.pos := by
      intro x u hu
      unfold passT at hu
      split at hu
      · obtain rfl := Option.some.inj hu
        rfl
      · cases hu
    rw [key hu, key hv]
    exact hxy
  · split
    · split
      · simp
      · simp
    · split
      · split <;> simp
      · simp
theorem words_good {N : Int} {f : Fld} {i : Nat} {n : Int} {T : ByteArray} (h1 : (i : Int) < N) (hn : 0 ≤ n ∧ n ≤ 999999999) (hT : T.size ≤ 1048576) (h2 : (wordsQ f i n T).2 = true) : good N false (wordsQ f i n T).1 = true := by
  have h0 : (0 : Int) ≤ (i : Int) := by omega
  unfold wordsQ at h2 ⊢
  split
  · split
    · exact good_none N
    · exact good_term h0 h1 _
  · rename_i k2
    rw [if_neg k2] at h2
    split
    · simp only
      split
      · exact good_none N
      · exact good_term h0 h1 _
    · rename_i k3
      rw [if_neg k3] at h2
      have hr := of_rise (kd := f.kd) (a := f.fold) (b := f.stop) (c := f.stem) (s := T)
      have hps : ∀ t ∈ ofT f.kd f.fold f.stop f.stem T, 0 ≤ t.pos ∧ t.pos ≤ T.size + 1 := fun t ht => ofF_pos (f := f) ht
      generalize ofT f.kd f.fold f.stop f.stem T = ts at h2 hr hps
      match ts, h2, hr, hps with
      | [], h2, _, _ => cases h2
      | [t], _, _, _ => exact good_term h0 h1 _
      | t :: u :: r, _, hr, hps =>
        refine good_phrase h0 h1 hn _ (by simp) fun x hx => ?_
        have hx1 := hps x hx
        have hx0 := hps t (by simp)
        show 0 ≤ x.pos - t.pos ∧ x.pos - t.pos < 2147483647
        rcases List.mem_cons.1 hx with rfl | hx
        · omega
        · have := (List.pairwise_cons.1 hr).1 x hx
          omega
theorem end_good {f : Fld} {b b' : Bnd} (h : endQ f b = some b') (hb : okEnd b = true) : okEnd b' = true := by
  unfold endQ at h
  by_cases ho : b.op = true
  · rw [if_pos ho] at h
    obtain rfl := Option.some.inj h
    exact hb
  · rw [if_neg ho] at h
    have hf : b.op = false := by simpa using ho
    split at h
    · split at h
      · cases h
      · obtain rfl := Option.some.inj h
        simp [okEnd, hf]
    · obtain rfl := Option.some.inj h
      simp [okEnd, hf]
theorem span_good {N : Int} {f : Fld} {i : Nat} {lo hi : Bnd} (h1 : (i : Int) < N) (hl : okEnd lo = true) (hh : okEnd hi = true) : good N false (spanQ f i lo hi) = true := by
  unfold spanQ
  split
  · rename_i l h e1 e2
    exact good_span (by omega) h1 (end_good e1 hl) (end_good e2 hh)
  · exact good_none N
theorem leaf_good {N : Int} {f : Fld} {i : Nat} {hd : NHead} {nk : Nat} (h1 : (i : Int) < N) (hown : ownB hd nk = true) (h7 : hd.kind ≤ 7) (hT : hd.text.size ≤ 1048576) (h2 : (leafQ f i hd).2 = true) : good N false (leafQ f i hd).1 = true := by
  have h0 : (0 : Int) ≤ (i : Int) := by omega
  obtain ⟨kind, fn, T, n, lo, hi, occ⟩ := hd
  simp only at h7 hT
  have hk1 : 1 ≤ kind := by
    unfold ownB at hown
    simp only [Bool.and_eq_true, decide_eq_true_eq] at hown
    exact hown.1.1.1.1
  unfold leafQ at h2 ⊢
  simp only at h2 ⊢
  rcases (by omega : kind = 1 ∨ kind = 2 ∨ kind = 3 ∨ kind = 4 ∨ kind = 5 ∨ kind = 6 ∨ kind = 7) with rfl | rfl | rfl | rfl | rfl | rfl | rfl
  · rw [if_pos (.inl rfl)] at h2 ⊢
    refine words_good h1 ?_ hT h2
    simp [ownB, askN, askOf] at hown
    omega
  · rw [if_pos (.inr rfl)] at h2 ⊢
    refine words_good h1 ?_ hT h2
    simp [ownB, askN, askOf] at hown
    omega
  · show good N false (prefixQ f i T) = true
    unfold prefixQ
    split
    · exact good_none N
    · exact good_prefix h0 h1 _
  · show good N false (wildQ f i T) = true
    unfold wildQ
    split
    · exact good_none N
    · exact good_wild h0 h1 _ (pat_wGo f T _ 0 _ _ (Nat.le_refl _) pat_nil)
  · show good N false (fuzzyQ f i n T) = true
    unfold fuzzyQ
    split
    · exact good_none N
    · refine good_fuzzy h0 h1 ?_ _
      simp [ownB, askN, askOf] at hown
      omega
  · show good N false (spanQ f i lo hi) = true
    simp [ownB, askN, askOf] at hown
    exact span_good h1 (by simp [hown]) (by simp [hown])
  · exact good_has h0 h1
theorem findF_lt : ∀ {fs : List Fld} {nm : ByteArray} {k i : Nat}, findF nm fs k = some i → i < k + fs.length
  | [], _, _, _, h => by cases h
  | f :: r, nm, k, i, h => by
    unfold findF at h
    split at h
    · obtain rfl := Option.some.inj h
      simp
    · have := findF_lt h
      simp only [List.length_cons]
      omega
theorem at_lt {fs : List Fld} {fn : ByteArray} {i : Nat} (hfs : 0 < fs.length) (h : atOf fs fn = some i) : i < fs.length := by
  unfold atOf at h
  split at h
  · obtain rfl := Option.some.inj h; exact hfs
  · have := findF_lt h
    omega
theorem leafT_good {N : Int} {fs : List Fld} {hd : NHead} {nk : Nat} (hfs : 0 < fs.length) (hN : (fs.length : Int) ≤ N) (hown : ownB hd nk = true) (h7 : hd.kind ≤ 7) (hT : hd.text.size ≤ 1048576) (h2 : (leafT fs hd).2 = true) : good N false (leafT fs hd).1 = true := by
  unfold leafT at h2 ⊢
  split
  · exact good_none N
  · rename_i i hi
    rw [hi] at h2
    have := at_lt hfs hi
    exact leaf_good (by omega) hown h7 hT h2
theorem keptQ_mem : ∀ {l : List (Qry × Bool)} {q : Qry}, q ∈ keptQ l → (q, true) ∈ l
  | [], _, h => by simp [keptQ] at h
  | (x, true) :: r, q, h => by
    simp only [keptQ, if_true] at h
    rcases List.mem_cons.1 h with rfl | h
    · simp
    · exact List.mem_cons_of_mem _ (keptQ_mem h)
  | (x, false) :: r, q, h => by
    simp only [keptQ] at h
    exact List.mem_cons_of_mem _ (keptQ_mem (by simpa using h))
theorem occOf_ok {hd : NHead} (h : hd.occur.all occB = true) (i : Nat) : occB (occOf hd i) = true := by
  unfold occOf
  split
  · rw [List.getD_eq_getElem?_getD]
    cases e : hd.occur[i]? with
    | none => rfl
    | some o => exact List.all_eq_true.1 h o (List.mem_of_getElem? e)
  · split <;> rfl
theorem occs_ok {hd : NHead} {rs : List (Qry × Bool)} (h : hd.occur.all occB = true) : (occsOf hd rs).all occB = true := by
  unfold occsOf
  split
  · rw [List.all_eq_true]
    exact keptO_wf (P := fun o => occB o = true) (occOf_ok h) 0 rs
  · rfl
theorem own_parts {hd : NHead} {nk : Nat} (h : ownB hd nk = true) : 1 ≤ hd.kind ∧ hd.kind ≤ 15 ∧ askN (askOf hd.kind.toNat) hd nk = true ∧ hd.occur.all occB = true := by
  unfold ownB at h
  simp only [Bool.and_eq_true, decide_eq_true_eq] at h
  exact ⟨h.1.1.1.1, h.1.1.1.2, h.1.1.2, h.1.2⟩
theorem bind_good {N : Int} {fs : List Fld} (hfs : 0 < fs.length) (hN : (fs.length : Int) ≤ N) (q : Nod) : nodB q = true → q.bulk ≤ 1048576 → (bindT fs q).2 = true → good N false (bindT fs q).1 = true := by
  induction q using Nod.ind with
  | h q ih =>
    intro hg hbk hb
    obtain ⟨hd, ks⟩ := q
    simp only [Nod.kids] at ih
    simp only [Nod.bulk, nbulk] at hbk
    rw [nodB, Bool.and_eq_true, nodsB_all, List.all_eq_true] at hg
    obtain ⟨hown, hkids⟩ := hg
    obtain ⟨hk1, hk15, hask, hocc⟩ := own_parts hown
    rw [bindT] at hb ⊢
    by_cases h8 : hd.kind = 8
    · rw [if_pos h8]; exact good_all N
    · rw [if_neg h8] at hb ⊢
      by_cases h7 : hd.kind ≤ 7
      · rw [if_pos h7] at hb ⊢
        exact leafT_good hfs hN hown h7 (by omega) hb
      · rw [if_neg h7] at hb ⊢
        unfold innerT at hb ⊢
        by_cases hk : keptQ (bindTs fs ks) = []
        · rw [if_pos hk] at hb; cases hb
        · rw [if_neg hk]
          refine goodBy_mk ?_ fun k hkk => ?_
          · have hl : (keptQ (bindTs fs ks)).length ≠ 0 := by have := List.length_pos_iff.2 hk; omega
            have hle : (keptQ (bindTs fs ks)).length ≤ ks.length := by have := kept_len fs ks ks.length; rwa [List.take_length] at this
            have hoc := occs_ok (rs := bindTs fs ks) hocc
            have hol : 9 ≤ hd.kind ∧ hd.kind ≤ 11 → (occsOf hd (bindTs fs ks)).length = (keptQ (bindTs fs ks)).length := fun h => by unfold occsOf; rw [if_pos h, keptO_len]
            have hon : ¬ (9 ≤ hd.kind ∧ hd.kind ≤ 11) → occsOf hd (bindTs fs ks) = [] := fun h => occs_nil h
            generalize keptQ (bindTs fs ks) = kq at hl hle hol ⊢
            have hocs : ∃ os, os = occsOf hd (bindTs fs ks) := ⟨_, rfl⟩
            unfold innerH
            obtain ⟨os, hos⟩ := hocs
            rw [← hos] at hoc hol hon ⊢
            clear hos
            obtain ⟨kind, fn, T, n, lo, hi, occ⟩ := hd
            simp only at hk1 hk15 hask h8 h7 hol hon ⊢
            rcases (by omega : kind = 9 ∨ kind = 10 ∨ kind = 11 ∨ kind = 12 ∨ kind = 13 ∨ kind = 14 ∨ kind = 15) with rfl | rfl | rfl | rfl | rfl | rfl | rfl
            · have hol := hol (by decide)
              simp [askN, askOf] at hask
              simp [kindOf, locB, hasOf, numB, lstB, no_bnd, hol, hl, hoc]
              exact ⟨⟨rfl, by omega⟩, by omega⟩
            · have hol := hol (by decide)
              simp [kindOf, locB, hasOf, numB, lstB, no_bnd, hol, hl, hoc]
              rfl
            · have hol := hol (by decide)
              simp [kindOf, locB, hasOf, numB, lstB, no_bnd, hol, hl, hoc]
              rfl
            · have hon := hon (by decide)
              subst hon
              simp [kindOf, locB, hasOf, numB, lstB, no_bnd, hl]
              rfl
            all_goals
              have hon := hon (by decide)
              subst hon
              simp [askN, askOf] at hask
              have h1 : kq.length = 1 := by omega
              simp [kindOf, locB, hasOf, numB, lstB, no_bnd, h1]
              rfl
          · have hm := keptQ_mem hkk
            rw [bindTs_map] at hm
            obtain ⟨x, hx, e⟩ := List.mem_map.1 hm
            have h1 := ih x hx (hkids x hx) (by have := nbulks_mem hx; omega) (by rw [e])
            rw [e] at h1
            exact h1
theorem top_good {N : Int} {fs : List Fld} (hfs : 0 < fs.length) (hN : (fs.length : Int) ≤ N) (q : Nod) (hg : nodB q = true) (hbk : q.bulk ≤ 1048576) : good N false (topQ fs q) = true := by
  unfold topQ
  split
  · rename_i h; exact bind_good hfs hN q hg hbk h
  · exact good_none N

/-- No query is greater than its tree. -/
theorem sizes_kept : ∀ l : List (Qry × Bool), sizes (keptQ l) ≤ (l.map fun p => p.1.size).sum
  | [] => by simp [keptQ, sizes]
  | (q, true) :: r => by
    have := sizes_kept r
    simp only [keptQ, if_true, sizes, List.map_cons, List.sum_cons]
    omega
  | (q, false) :: r => by
    have := sizes_kept r
    simp only [keptQ, List.map_cons, List.sum_cons]
    simp only [Bool.false_eq_true, if_false]
    omega
theorem leafT_size (fs : List Fld) (hd : NHead) : (leafT fs hd).1.size = 1 := by
  have hl : ∀ (f : Fld) (i : Int), (leafQ f i hd).1.size = 1 := by
    intro f i
    unfold leafQ
    split
    · unfold wordsQ
      split
      · split <;> rfl
      · split
        · simp only; split <;> rfl
        · split <;> rfl
    · split
      · unfold prefixQ; split <;> rfl
      · split
        · unfold wildQ; split <;> rfl
        · split
          · unfold fuzzyQ; split <;> rfl
          · split
            · unfold spanQ; split <;> rfl
            · rfl
  unfold leafT
  split
  · rfl
  · exact hl _ _
theorem bind_size (fs : List Fld) (q : Nod) : (bindT fs q).1.size ≤ q.size := by
  induction q using Nod.ind with
  | h q ih =>
    obtain ⟨hd, ks⟩ := q
    simp only [Nod.kids] at ih
    rw [bindT]
    have hp := (Nod.mk hd ks).size_pos
    split
    · show 1 ≤ _; omega
    · split
      · rw [leafT_size]; omega
      · unfold innerT
        split
        · show 1 ≤ _; omega
        · simp only [Qry.size, Nod.size]
          have h1 := sizes_kept (bindTs fs ks)
          have h2 : ∀ l : List Nod, (∀ k ∈ l, (bindT fs k).1.size ≤ k.size) → ((bindTs fs l).map fun p => p.1.size).sum ≤ nsizes l := by
            intro l
            induction l with
            | nil => intro _; simp [bindTs]
            | cons k r ihl =>
              intro h
              have h3 := ihl fun x hx => h x (List.mem_cons_of_mem _ hx)
              have h4 := h k (by simp)
              simp only [bindTs, List.map_cons, List.sum_cons, nsizes]
              omega
          have h3 := h2 ks ih
          omega
theorem top_size (fs : List Fld) (q : Nod) : (topQ fs q).size ≤ q.size := by
  unfold topQ
  split
  · exact bind_size fs q
  · have := q.size_pos
    show 1 ≤ _
    omega
end Go.Proofs.YtkcfgcdlnojaeaaGreatDoor.GoodBind
