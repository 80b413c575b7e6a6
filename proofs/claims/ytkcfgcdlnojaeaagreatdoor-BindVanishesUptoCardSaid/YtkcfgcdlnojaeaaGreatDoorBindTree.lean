/-
  The walk of (*binder).bind over any good tree.
-/
import Derived.Test.YtkcfgcdlnojaeaaGreatDoorBindInner9
import Derived.Test.YtkcfgcdlnojaeaaGreatDoorBindInner10
import Derived.Test.YtkcfgcdlnojaeaaGreatDoorBindInner11
import Derived.Test.YtkcfgcdlnojaeaaGreatDoorBindInner12
import Derived.Test.YtkcfgcdlnojaeaaGreatDoorBindInner14
import Derived.Test.YtkcfgcdlnojaeaaGreatDoorNodeOwn
set_option linter.unusedVariables false
set_option linter.unusedSimpArgs false
namespace Go.Proofs.YtkcfgcdlnojaeaaGreatDoor.BindTree
set_option maxRecDepth 100000
open Go.RowKit Go.PlainAid Base Query NodeTree NodeWalk NodePlain NodeOwn TextPlain BindBase NodeTerm Binder WordPlain WordsWalk StopsWalk OfText OfAny WordsOne BindTerm OpenField FieldPlain WordsAny WordsMany LeafBase SchFind TreePlain

theorem isq_all {w w' : World} {e : Ending} (he : e = .returned (.tuple #[.agg (bareQ 2 0 ⟨#[]⟩), .bool true])) (hb : Below w.heap.size w w') : IsQ allQ true w e w' := isq_bare rfl rfl (Nat.zero_le _) he hb
set_option maxHeartbeats 2000000 in
theorem bind_all (fn T : ByteArray) (n : Int) (R : NRest) (g : Nat) (w : World) : Calls Tryz.prog 50 #[.pointer (some ⟨g, 0, none⟩), .agg (nodeV 8 fn T n R)] w (IsQ allQ true w) := by
  obtain ⟨W1, hW1⟩ : ∃ W, W = (w.alloc (.cells (nodeV 8 fn T n R) 39)).alloc (.cells (bareQ 0 0 ⟨#[]⟩) 29) := ⟨_, rfl⟩
  have KR : Blk W1 (w.heap.size + 1) 29 (bareQ 0 0 ⟨#[]⟩) := by
    rw [hW1]
    have := Blk.new (w.alloc (.cells (nodeV 8 fn T n R) 39)) 29 (bareQ 0 0 ⟨#[]⟩)
    rwa [World.size_alloc] at this
  have KN : Blk W1 w.heap.size 39 (nodeV 8 fn T n R) := by rw [hW1]; exact (Blk.new w _ _).alloc _
  have hbW : Below w.heap.size w W1 := by rw [hW1]; exact Base.bel
  unfold bareQ at KR
  obtain ⟨z0, z1, z2, z3, z4, z5, z6, z7, z8, z9, z10, z11, z12, z13, z14⟩ := qrow KR
  obtain ⟨y0, y1, y2, y3, y4, y5, y6, y7, y8, y9, y10, y11, y12, y13, y14⟩ := qfz KR
  have k0 : W1.cell? ⟨w.heap.size, 0, none⟩ = some (.int .i64 8) := KN.cell 0
  have HW := Lib.hid hW1
  unfold nodeV bareQ at HW
  unfold nodeV
  clear hW1 KN
  go_enter Tryz.func50, Tryz.ntmps50
  go_upto_region 1 with fail
  rw [← HW.out]
  go_wp2_with fail
  refine bodyPost_ret (results_blk (p := 4) (u := 5) (ty := 29) (t := 29) (g := w.heap.size + 1) (cs := bareQ 2 0 ⟨#[]⟩) ?_ ?_ (blk15 KR) Tryz.underlying29 ?_ ?_) ?_ ?_
  · rfl
  · rfl
  · rfl
  · rw [qInfo]; rfl
  · rfl
  · exact isq_all rfl (below15 hbW (Nat.le_succ _))
theorem own_kids {hd : NHead} {nk : Nat} (h : ownB hd nk = true) : 1 ≤ hd.kind ∧ hd.kind ≤ 15 ∧ (hd.kind = 9 → hd.occur.length = nk) ∧ (9 ≤ hd.kind → 0 ≤ hd.n ∧ hd.n ≤ 999999999) := by
  obtain ⟨kind, fn, T, n, lo, hi, occ⟩ := hd
  unfold ownB at h
  simp only [Bool.and_eq_true, decide_eq_true_eq] at h
  obtain ⟨⟨⟨⟨h1, h2⟩, h3⟩, _⟩, _⟩ := h
  refine ⟨h1, h2, fun e => ?_, fun e => ?_⟩
  · simp only at e
    subst e
    simp [askN, askOf] at h3
    exact h3.2
  · simp only at e h1 h2
    rcases (by omega : kind = 9 ∨ kind = 10 ∨ kind = 11 ∨ kind = 12 ∨ kind = 13 ∨ kind = 14 ∨ kind = 15) with rfl | rfl | rfl | rfl | rfl | rfl | rfl <;> (simp [askN, askOf] at h3; simp only; omega)
theorem findF_some : ∀ {fs : List Fld} {nm : ByteArray} {k i : Nat}, findF nm fs k = some i → k ≤ i ∧ ∃ f, fs[i - k]? = some f ∧ f.nm = nm
  | [], _, _, _, h => by cases h
  | f :: r, nm, k, i, h => by
    unfold findF at h
    split at h
    · rename_i hn
      obtain rfl := Option.some.inj h
      exact ⟨Nat.le_refl _, f, by simp, hn⟩
    · obtain ⟨h1, g, hg, hn⟩ := findF_some h
      refine ⟨by omega, g, ?_, hn⟩
      rw [show i - k = (i - (k + 1)) + 1 by omega, List.getElem?_cons_succ]
      exact hg
theorem find_some {fs : List Fld} {nm : ByteArray} {i : Nat} (h : findS fs nm = some i) : ∃ f, fs[i]? = some f ∧ f.nm = nm := by
  obtain ⟨_, f, hf, hn⟩ := findF_some h
  exact ⟨f, by simpa using hf, hn⟩
set_option maxHeartbeats 1000000 in
theorem bindT_any (fs : List Fld) (fg fo c g B0 : Nat) (hfs : 0 < fs.length) (hlen : fs.length ≤ 9223372036854775807) (q : Nod) : ∀ (cs : List Value) (B : Nat) (w : World), NVal w B cs q → B ≤ w.heap.size → nodB q = true → q.bulk ≤ 2097152 →
    B0 ≤ w.heap.size → Slc w B0 (some ⟨fg, fo, none⟩) (fldCells fs) → Blk w g 147 (binderC (some ⟨fg, fo, none⟩) fs.length c) → Tab w → 3 < w.heap.size →
    Calls Tryz.prog 50 #[.pointer (some ⟨g, 0, none⟩), .agg cs.toArray] w (IsQ (bindT fs q).1 (bindT fs q).2 w) := by
  induction q using Nod.ind with
  | h q ih =>
    intro cs B w hq hB hgood hbk hB0 hsl hBl ht h0
    obtain ⟨hd, ks, A1, A2, c1, c2, kc, hw, hk, s1, h2, h3⟩ := hq
    simp only [Nod.kids] at ih
    simp only [Nod.bulk] at hbk
    have hnb : nbulk hd ≤ 2097152 := by omega
    rw [nodB, Bool.and_eq_true, nodsB_all, List.all_eq_true] at hgood
    obtain ⟨hown, hkids⟩ := hgood
    obtain ⟨hk1, hk15, hocc, hnum⟩ := own_kids hown
    have hkl : ks.length ≤ 2097152 := by
      have : ∀ l : List Nod, l.length ≤ nbulks l := by
        intro l
        induction l with
        | nil => simp [nbulks]
        | cons x r ihr =>
          cases x with
          | mk xh xk => simp only [nbulks, List.length_cons, Nod.bulk, nbulk]; omega
      have := this ks
      omega
    have IH : ∀ W, Below w.heap.size w W → ∀ i x, ks[i]? = some x → Calls Tryz.prog 50 #[.pointer (some ⟨g, 0, none⟩), .agg (kc i).toArray] W (IsQ (bindT fs x).1 (bindT fs x).2 W) := fun W hW i x hx =>
      ih x (List.mem_of_getElem? hx) (kc i) B W ((h3 i x hx).kept hW hB) (Nat.le_trans hB hW.size) (hkids x (List.mem_of_getElem? hx)) (by have := nbulks_mem (List.mem_of_getElem? hx); omega) (Nat.le_trans hB0 hW.size) (hsl.below hW hB0) (hBl.below hW hBl.lt) (tab_below ht hW h0) (Nat.lt_of_lt_of_le h0 hW.size)
    by_cases h8 : hd.kind = 8
    · obtain ⟨kind, fn, T, n, lo, hi, occ⟩ := hd
      simp only at h8
      subst h8
      exact bind_all fn T n ⟨lo, hi, A1, occ.length, c1, A2, ks.length, c2⟩ g w
    by_cases h7 : hd.kind ≤ 7
    · rw [bindT, if_neg h8, if_pos h7]
      obtain ⟨kn, hkn⟩ : ∃ kn : Nat, hd.kind = kn := ⟨hd.kind.toNat, (Int.toNat_of_nonneg (by omega)).symm⟩
      obtain ⟨F, hF, EF, LC⟩ := leaf_call kn (by omega) (by omega) hd hkn ks.length hown hw hnb ⟨hd.lo, hd.hi, A1, hd.occur.length, c1, A2, ks.length, c2⟩ rfl rfl (some ⟨fg, fo, none⟩) fs.length c
      have hlc : ∀ (i : Nat) (f : Fld), fs[i]? = some f → ∀ W, Below w.heap.size w W → Calls Tryz.prog F #[.agg (nodeV (kn : Int) hd.field hd.text hd.n ⟨hd.lo, hd.hi, A1, hd.occur.length, c1, A2, ks.length, c2⟩), .agg #[.string f.nm, .int .i64 f.kd, .bool f.fold, .bool f.stop, .bool f.stem], .int .i64 (i : Int)] W (IsQ (leafQ f i hd).1 (leafQ f i hd).2 W) := fun i f hf W hW =>
        LC f i W (fit_of (by omega) (by have := (List.getElem?_eq_some_iff.1 hf).1; omega)) (tab_below ht hW h0) (Nat.lt_of_lt_of_le h0 hW.size)
      have hcs : [Value.int .i64 hd.kind, .string hd.field, .string hd.text, .int .i64 hd.n, .bool hd.lo.op, .bool hd.lo.inn, .string hd.lo.text, .bool hd.hi.op, .bool hd.hi.inn, .string hd.hi.text, .slice A1 hd.occur.length c1, .slice A2 ks.length c2].toArray = nodeV (kn : Int) hd.field hd.text hd.n ⟨hd.lo, hd.hi, A1, hd.occur.length, c1, A2, ks.length, c2⟩ := by rw [hkn]; rfl
      rw [hcs]
      unfold leafT atOf
      by_cases hfn : hd.field.size = 0
      · rw [if_pos hfn]
        obtain ⟨f, hf⟩ : ∃ f, fs[0]? = some f := ⟨_, List.getElem?_eq_getElem hfs⟩
        have hgd : fs.getD 0 fld0 = f := by rw [List.getD_eq_getElem?_getD, hf]; rfl
        simp only [hgd]
        have hl := hlc 0 f hf
        rw [size_nil hfn] at hl ⊢
        obtain ⟨nm, kd, a, b, d⟩ := f
        exact BindLeafE.bind_leaf kn F hd.text hd.n _ (by omega) (by omega) fs nm kd a b d fg fo c g B0 w _ _ hB0 hsl hlen hf hBl hF EF hl
      · rw [if_neg hfn]
        cases hfind : findS fs hd.field with
        | none => exact BindLeafN.bind_leaf kn F hd.text hd.n _ (by omega) (by omega) hd.field hfn fs fg fo c g B0 w hB0 hsl hlen hfind hBl hF EF
        | some i =>
          obtain ⟨f, hf, _⟩ := find_some hfind
          have hgd : fs.getD i fld0 = f := by rw [List.getD_eq_getElem?_getD, hf]; rfl
          simp only [hgd]
          have hl := hlc i f hf
          obtain ⟨nm, kd, a, b, d⟩ := f
          exact BindLeafF.bind_leaf kn F hd.text hd.n _ (by omega) (by omega) hd.field hfn fs nm kd a b d fg fo c g B0 w _ _ hB0 hsl hlen i hfind hf hBl hF EF hl
    · rw [bindT, if_neg h8, if_neg h7]
      obtain ⟨hn0, hn9⟩ := hnum (by omega)
      obtain ⟨kind, fn, T, n, lo, hi, occ⟩ := hd
      simp only at hk1 hk15 h8 h7 hocc hn0 hn9 s1
      have hfit : fitI n := fit_of (by omega) (by omega)
      rcases (by omega : kind = 9 ∨ kind = 10 ∨ kind = 11 ∨ 12 ≤ kind) with rfl | rfl | rfl | h12
      · exact BindInner9.inner fs fn T n lo hi occ ks A1 A2 c1 c2 kc _ _ c g B w hfit hw.occur (hocc rfl) hkl hB s1 h2 h3 hBl IH
      · exact BindInner10.inner fs fn T n lo hi occ ks A1 A2 c1 c2 kc _ _ c g B w hfit hw.occur hkl hB s1 h2 h3 hBl IH
      · exact BindInner11.inner fs fn T n lo hi occ ks A1 A2 c1 c2 kc _ _ c g B w hfit hw.occur hkl hB s1 h2 h3 hBl IH
      · obtain ⟨kn, rfl⟩ : ∃ kn : Nat, kind = kn := ⟨kind.toNat, (Int.toNat_of_nonneg (by omega)).symm⟩
        rcases (by omega : kn ≤ 13 ∨ 14 ≤ kn) with h13 | h13
        · exact BindInner12.inner fs kn (by omega) h13 fn T n lo hi occ ks A1 A2 c1 c2 kc _ _ c g B w hfit ⟨hn0, hn9⟩ hw.occur hkl hB s1 h2 h3 hBl IH
        · exact BindInner14.inner fs kn h13 (by omega) fn T n lo hi occ ks A1 A2 c1 c2 kc _ _ c g B w hfit ⟨hn0, hn9⟩ hw.occur hkl hB s1 h2 h3 hBl IH
end Go.Proofs.YtkcfgcdlnojaeaaGreatDoor.BindTree
