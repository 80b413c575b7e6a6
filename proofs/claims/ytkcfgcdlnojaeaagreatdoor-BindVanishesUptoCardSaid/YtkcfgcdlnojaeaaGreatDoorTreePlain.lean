/-
  What binding makes of a tree, in plain Lean; each kind of leaf by its own function.
-/
import Derived.Test.YtkcfgcdlnojaeaaGreatDoorDWS
import Derived.Test.YtkcfgcdlnojaeaaGreatDoorDLeafs
set_option linter.unusedVariables false
set_option linter.unusedSimpArgs false
namespace Go.Proofs.YtkcfgcdlnojaeaaGreatDoor.TreePlain
set_option maxRecDepth 100000
open Go.RowKit Go.PlainAid Base Query NodeTree NodePlain TextPlain BindBase NodeTerm Binder WordPlain WordsWalk StopsWalk OfText OfAny WordsOne OpenField FieldPlain WordsAny LeafBase SchFind FoldLeaf WildBind SpanBind

def leafQ (f : Fld) (at_ : Int) (hd : NHead) : Qry × Bool :=
  if hd.kind = 1 ∨ hd.kind = 2 then wordsQ f at_ hd.n hd.text
  else if hd.kind = 3 then (prefixQ f at_ hd.text, true)
  else if hd.kind = 4 then (wildQ f at_ hd.text, true)
  else if hd.kind = 5 then (fuzzyQ f at_ hd.n hd.text, true)
  else if hd.kind = 6 then (spanQ f at_ hd.lo hd.hi, true)
  else (hasQ at_, true)
def fld0 : Fld := ⟨⟨#[]⟩, 0, false, false, false⟩
def atOf (fs : List Fld) (fn : ByteArray) : Option Nat := if fn.size = 0 then some 0 else findS fs fn
def leafT (fs : List Fld) (hd : NHead) : Qry × Bool := match atOf fs hd.field with
  | none => (noneQ, true)
  | some i => leafQ (fs.getD i fld0) i hd
def allQ : Qry := .mk (bareH 2 0 ⟨#[]⟩) []

def keptQ : List (Qry × Bool) → List Qry
  | [] => []
  | (q, b) :: r => if b then q :: keptQ r else keptQ r
def keptO (o : Nat → Int) : Nat → List (Qry × Bool) → List Int
  | _, [] => []
  | i, (_, b) :: r => if b then o i :: keptO o (i + 1) r else keptO o (i + 1) r
theorem keptQ_app : ∀ a b : List (Qry × Bool), keptQ (a ++ b) = keptQ a ++ keptQ b
  | [], b => rfl
  | (q, true) :: r, b => by simp [keptQ, keptQ_app r b]
  | (q, false) :: r, b => by simp [keptQ, keptQ_app r b]
theorem keptO_app (o : Nat → Int) : ∀ (i : Nat) (a b : List (Qry × Bool)), keptO o i (a ++ b) = keptO o i a ++ keptO o (i + a.length) b
  | i, [], b => by simp [keptO]
  | i, (q, true) :: r, b => by simp [keptO, keptO_app o (i + 1) r b, Nat.add_assoc, Nat.add_comm 1]
  | i, (q, false) :: r, b => by simp [keptO, keptO_app o (i + 1) r b, Nat.add_assoc, Nat.add_comm 1]
theorem keptQ_len : ∀ a : List (Qry × Bool), (keptQ a).length ≤ a.length
  | [] => by simp [keptQ]
  | (q, true) :: r => by simp [keptQ]; exact keptQ_len r
  | (q, false) :: r => by simp [keptQ]; have := keptQ_len r; omega
theorem keptO_len (o : Nat → Int) : ∀ (i : Nat) (a : List (Qry × Bool)), (keptO o i a).length = (keptQ a).length
  | _, [] => rfl
  | i, (q, true) :: r => by simp [keptO, keptQ, keptO_len o (i + 1) r]
  | i, (q, false) :: r => by simp [keptO, keptQ, keptO_len o (i + 1) r]
def occOf (hd : NHead) (i : Nat) : Int := if hd.kind = 9 then hd.occur.getD i 0 else if hd.kind = 10 then 1 else 0
def occsOf (hd : NHead) (rs : List (Qry × Bool)) : List Int := if 9 ≤ hd.kind ∧ hd.kind ≤ 11 then keptO (occOf hd) 0 rs else []
def kindOf (k : Int) : Int := if k ≤ 11 then 10 else k - 1
def innerH (hd : NHead) (rs : List (Qry × Bool)) : Head := ⟨kindOf hd.kind, 0, ⟨#[]⟩, [], [], if hd.kind = 9 then hd.n else 0, if 14 ≤ hd.kind then hd.n else 0, bnd0, bnd0, occsOf hd rs⟩
def innerT (hd : NHead) (rs : List (Qry × Bool)) : Qry × Bool := if keptQ rs = [] then (zeroQ, false) else (.mk (innerH hd rs) (keptQ rs), true)
mutual
def bindT (fs : List Fld) : Nod → Qry × Bool
  | .mk hd ks => if hd.kind = 8 then (allQ, true) else if hd.kind ≤ 7 then leafT fs hd else innerT hd (bindTs fs ks)
def bindTs (fs : List Fld) : List Nod → List (Qry × Bool)
  | [] => []
  | k :: r => bindT fs k :: bindTs fs r
end
theorem bindTs_map (fs : List Fld) : ∀ l : List Nod, bindTs fs l = l.map (bindT fs)
  | [] => by simp [bindTs]
  | k :: r => by simp [bindTs, bindTs_map fs r]
theorem bindTs_take {fs : List Fld} {ks : List Nod} {i : Nat} {k : Nod} (h : ks[i]? = some k) : bindTs fs (ks.take (i + 1)) = bindTs fs (ks.take i) ++ [bindT fs k] := by
  rw [bindTs_map, bindTs_map, List.take_add_one, h]
  simp
theorem bindTs_len (fs : List Fld) (ks : List Nod) : (bindTs fs ks).length = ks.length := by rw [bindTs_map]; simp
theorem kept_yes {fs : List Fld} {ks : List Nod} {j : Nat} {x : Nod} (hx : ks[j]? = some x) (hb : (bindT fs x).2 = true) : keptQ (bindTs fs (ks.take (j + 1))) = keptQ (bindTs fs (ks.take j)) ++ [(bindT fs x).1] := by
  rw [bindTs_take hx, keptQ_app]
  generalize bindT fs x = p at hb
  obtain ⟨q, b⟩ := p
  simp only at hb
  subst hb
  rfl
theorem kept_no {fs : List Fld} {ks : List Nod} {j : Nat} {x : Nod} (hx : ks[j]? = some x) (hb : (bindT fs x).2 = false) : keptQ (bindTs fs (ks.take (j + 1))) = keptQ (bindTs fs (ks.take j)) := by
  rw [bindTs_take hx, keptQ_app]
  generalize bindT fs x = p at hb
  obtain ⟨q, b⟩ := p
  simp only at hb
  subst hb
  simp [keptQ]
theorem take_len {fs : List Fld} {ks : List Nod} {j : Nat} {x : Nod} (hx : ks[j]? = some x) : (bindTs fs (ks.take j)).length = j := by
  rw [bindTs_len, List.length_take]
  have := (List.getElem?_eq_some_iff.1 hx).1
  omega
theorem occs_yes {fs : List Fld} {hd : NHead} {ks : List Nod} {j : Nat} {x : Nod} (h9 : 9 ≤ hd.kind ∧ hd.kind ≤ 11) (hx : ks[j]? = some x) (hb : (bindT fs x).2 = true) : occsOf hd (bindTs fs (ks.take (j + 1))) = occsOf hd (bindTs fs (ks.take j)) ++ [occOf hd j] := by
  unfold occsOf
  rw [if_pos h9, if_pos h9, bindTs_take hx, keptO_app, take_len hx]
  generalize bindT fs x = p at hb
  obtain ⟨q, b⟩ := p
  simp only at hb
  subst hb
  simp [keptO]
theorem occs_no {fs : List Fld} {hd : NHead} {ks : List Nod} {j : Nat} {x : Nod} (hx : ks[j]? = some x) (hb : (bindT fs x).2 = false) : occsOf hd (bindTs fs (ks.take (j + 1))) = occsOf hd (bindTs fs (ks.take j)) := by
  unfold occsOf
  by_cases h9 : 9 ≤ hd.kind ∧ hd.kind ≤ 11
  · rw [if_pos h9, if_pos h9, bindTs_take hx, keptO_app, take_len hx]
    generalize bindT fs x = p at hb
    obtain ⟨q, b⟩ := p
    simp only at hb
    subst hb
    simp [keptO]
  · rw [if_neg h9, if_neg h9]
theorem occs_nil {hd : NHead} {rs : List (Qry × Bool)} (h9 : ¬ (9 ≤ hd.kind ∧ hd.kind ≤ 11)) : occsOf hd rs = [] := by unfold occsOf; rw [if_neg h9]
theorem kept_len (fs : List Fld) (ks : List Nod) (j : Nat) : (keptQ (bindTs fs (ks.take j))).length ≤ ks.length := by
  have h1 := keptQ_len (bindTs fs (ks.take j))
  rw [bindTs_len, List.length_take] at h1
  omega
theorem occs_len (fs : List Fld) (hd : NHead) (ks : List Nod) (j : Nat) : (occsOf hd (bindTs fs (ks.take j))).length ≤ ks.length := by
  unfold occsOf
  split
  · rw [keptO_len]; exact kept_len fs ks j
  · simp
theorem keptO_wf {o : Nat → Int} {P : Int → Prop} (h : ∀ i, P (o i)) : ∀ (i : Nat) (l : List (Qry × Bool)), ∀ x ∈ keptO o i l, P x
  | _, [], x, hx => by cases hx
  | i, (q, true) :: r, x, hx => by
    simp only [keptO, if_true] at hx
    rcases List.mem_cons.1 hx with rfl | hx
    · exact h i
    · exact keptO_wf h (i + 1) r x hx
  | i, (q, false) :: r, x, hx => by
    simp only [keptO] at hx
    exact keptO_wf h (i + 1) r x hx
theorem occs_wf {hd : NHead} {rs : List (Qry × Bool)} (h : ∀ o ∈ hd.occur, (Lit.int .i64 o).wf = true) : ∀ o ∈ occsOf hd rs, (Lit.int .i64 o).wf = true := by
  unfold occsOf
  split
  · refine keptO_wf (P := fun o => (Lit.int .i64 o).wf = true) (fun i => ?_) 0 rs
    unfold occOf
    split
    · rw [List.getD_eq_getElem?_getD]
      cases e : hd.occur[i]? with
      | none => rfl
      | some o => exact h o (List.mem_of_getElem? e)
    · split <;> rfl
  · intro o ho; cases ho
theorem leafQ_nz (f : Fld) (at_ : Int) (hd : NHead) (h : (leafQ f at_ hd).2 = true) : (leafQ f at_ hd).1.h.kind ≠ 0 := by
  unfold leafQ at h ⊢
  split
  · rename_i h1
    rw [if_pos h1] at h
    unfold wordsQ at h ⊢
    split
    · split <;> (intro e; cases e)
    · rename_i h2
      rw [if_neg h2] at h
      split
      · split <;> (try decide)
        intro e; cases e
      · rename_i h3
        rw [if_neg h3] at h
        split
        · rename_i h4; rw [h4] at h; cases h
        · intro e; cases e
        · intro e; cases e
  · split
    · unfold prefixQ; split <;> (intro e; cases e)
    · split
      · unfold wildQ; split <;> (intro e; cases e)
      · split
        · unfold fuzzyQ; split <;> (intro e; cases e)
        · split
          · unfold spanQ; split <;> (intro e; cases e)
          · intro e; cases e
theorem bindT_nz (fs : List Fld) (x : Nod) (h : (bindT fs x).2 = true) : (bindT fs x).1.h.kind ≠ 0 := by
  obtain ⟨hd, ks⟩ := x
  unfold bindT at h ⊢
  split
  · intro e; cases e
  · rename_i h8
    rw [if_neg h8] at h
    split
    · rename_i h7
      rw [if_pos h7] at h
      unfold leafT at h ⊢
      split
      · intro e; cases e
      · rename_i i hi
        rw [hi] at h
        exact leafQ_nz _ _ _ h
    · rename_i h7
      rw [if_neg h7] at h
      unfold innerT at h ⊢
      split
      · rename_i hk; rw [if_pos hk] at h; cases h
      · show kindOf hd.kind ≠ 0
        unfold kindOf
        split <;> omega
theorem kept_nz (fs : List Fld) : ∀ (ks : List Nod), ∀ q ∈ keptQ (bindTs fs ks), q.h.kind ≠ 0
  | [], q, hq => by simp [bindTs, keptQ] at hq
  | k :: r, q, hq => by
    unfold bindTs at hq
    have hz := bindT_nz fs k
    generalize bindT fs k = p at hq hz
    obtain ⟨x, b⟩ := p
    cases b
    · simp only [keptQ] at hq
      exact kept_nz fs r q (by simpa using hq)
    · simp only [keptQ, if_true] at hq
      rcases List.mem_cons.1 hq with rfl | hq
      · exact hz rfl
      · exact kept_nz fs r q hq
def topQ (fs : List Fld) (q : Nod) : Qry := if (bindT fs q).2 = true then (bindT fs q).1 else noneQ

set_option maxHeartbeats 1000000 in
theorem leaf_call (kn : Nat) (h1 : 1 ≤ kn) (h7 : kn ≤ 7) (hd : NHead) (hk : hd.kind = kn) (nk : Nat) (hown : ownB hd nk = true) (hw : Nwf hd) (hbk : nbulk hd ≤ 2097152) (R : NRest) (hlo : R.lo = hd.lo) (hhi : R.hi = hd.hi) (A : Option Addr) (n c : Nat) :
    ∃ F, (binderC A n c)[1 + kn]? = some (fnV F) ∧ (∀ args W, (callFunc F args).run Tryz.prog W = .ok (.enter F args) W) ∧
      ∀ (f : Fld) (at_ : Int) (W : World), fitI at_ → Tab W → 3 < W.heap.size →
        Calls Tryz.prog F #[.agg (nodeV (kn : Int) hd.field hd.text hd.n R), .agg #[.string f.nm, .int .i64 f.kd, .bool f.fold, .bool f.stop, .bool f.stem], .int .i64 at_] W (IsQ (leafQ f at_ hd).1 (leafQ f at_ hd).2 W) := by
  obtain ⟨kind, fn, T, N, lo, hi, occ⟩ := hd
  simp only at hk hlo hhi ⊢
  subst hk
  unfold nbulk at hbk
  simp only at hbk
  have hN : fitI N := hw.n
  have hwild : kn = 4 → wildB T = true := by
    intro e
    subst e
    unfold ownB at hown
    simp only [Bool.and_eq_true] at hown
    have := hown.2
    rw [if_neg (by decide), if_pos (by decide)] at this
    exact this
  rcases (by omega : kn = 1 ∨ kn = 2 ∨ kn = 3 ∨ kn = 4 ∨ kn = 5 ∨ kn = 6 ∨ kn = 7) with rfl | rfl | rfl | rfl | rfl | rfl | rfl
  · refine ⟨88, rfl, enters_of Tryz.func88 (by kernel_rfl) rfl, fun f at_ W hat ht h0 => ?_⟩
    unfold leafQ
    rw [if_pos (.inl rfl)]
    exact words_any 1 N at_ fn T R f W hat hN (by omega) ht h0
  · refine ⟨88, rfl, enters_of Tryz.func88 (by kernel_rfl) rfl, fun f at_ W hat ht h0 => ?_⟩
    unfold leafQ
    rw [if_pos (.inr rfl)]
    exact words_any 2 N at_ fn T R f W hat hN (by omega) ht h0
  · refine ⟨89, rfl, enters_of Tryz.func89 (by kernel_rfl) rfl, fun f at_ W hat ht h0 => ?_⟩
    exact prefix_any at_ f.kd N fn T f.nm R f.fold f.stop f.stem W hat (by omega)
  · refine ⟨90, rfl, enters_of Tryz.func90 (by kernel_rfl) rfl, fun f at_ W hat ht h0 => ?_⟩
    exact wildBind_any 4 at_ f.kd N fn T f.nm R f.fold f.stop f.stem W hat (by omega) (hwild rfl)
  · refine ⟨91, rfl, enters_of Tryz.func91 (by kernel_rfl) rfl, fun f at_ W hat ht h0 => ?_⟩
    exact fuzzy_any at_ f.kd N fn T f.nm R f.fold f.stop f.stem W hat hN (by omega)
  · refine ⟨92, rfl, enters_of Tryz.func92 (by kernel_rfl) rfl, fun f at_ W hat ht h0 => ?_⟩
    have := spanBind_any 6 at_ f.kd N fn T f.nm R f.fold f.stop f.stem W hat (by rw [hlo]; omega) (by rw [hhi]; omega)
    rw [hlo, hhi] at this
    exact this
  · refine ⟨93, rfl, enters_of Tryz.func93 (by kernel_rfl) rfl, fun f at_ W hat ht h0 => ?_⟩
    exact has_any fn T f.nm N R f.kd at_ f.fold f.stop f.stem W hat
end Go.Proofs.YtkcfgcdlnojaeaaGreatDoor.TreePlain
