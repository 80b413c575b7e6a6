/-
  A kid that is left out, put into a node with kids, changes nothing; in plain Lean.
-/
import Derived.Test.YtkcfgcdlnojaeaaGreatDoorMemOf
set_option linter.unusedVariables false
set_option linter.unusedSimpArgs false
namespace Go.Proofs.YtkcfgcdlnojaeaaGreatDoor.VanPlain
set_option maxRecDepth 100000
open Go.RowKit Go.PlainAid Base Query NodeTree NodePlain TextPlain OpenField FieldPlain SchemaCheck OfText OfAny WordsAny LeafBase TreePlain MemOf

def gone (nm T : ByteArray) : Nod := .mk ⟨1, nm, T, 0, bnd0, bnd0, []⟩ []
def over (k n : Int) (occ : List Int) (ks : List Nod) : Nod := .mk ⟨k, ⟨#[]⟩, ⟨#[]⟩, n, bnd0, bnd0, occ⟩ ks
def vans (nm T : ByteArray) : List Nod := [gone nm T, over 13 0 [] [gone nm T], over 14 5 [] [gone nm T], over 15 5 [] [gone nm T], over 12 0 [] [gone nm T, gone nm T], over 9 2 [1] [gone nm T]]

theorem gone_bind {fs : List Fld} {j : Nat} {f : Fld} {T : ByteArray} (h : schemaB fs = true) (hf : fs[j]? = some f) (hk : f.kd = 1) (hof : ofT f.kd f.fold f.stop f.stem T = []) : (bindT fs (gone f.nm T)).2 = false := by
  have h1 := find_self h hf
  have e : bindT fs (gone f.nm T) = leafQ f j ⟨1, f.nm, T, 0, bnd0, bnd0, []⟩ := by
    unfold gone
    rw [bindT, if_neg (by simp), if_pos (by simp)]
    unfold leafT atOf
    rw [if_neg h1.2.1, h1.1]
    show leafQ (fs.getD j fld0) j _ = _
    rw [List.getD_eq_getElem?_getD, hf]
    rfl
  rw [e]
  unfold leafQ
  rw [if_pos (.inl rfl)]
  unfold wordsQ
  rw [if_neg (by rw [hk]; decide), if_neg (by rw [hk]; decide)]
  simp only
  rw [hof]
theorem over_bind {fs : List Fld} {k n : Int} {occ : List Int} {ks : List Nod} (h9 : 9 ≤ k) (h : ∀ x ∈ ks, (bindT fs x).2 = false) : (bindT fs (over k n occ ks)).2 = false := by
  unfold over
  rw [bindT, if_neg (by simp only; omega), if_neg (by simp only; omega)]
  have e : keptQ (bindTs fs ks) = [] := by
    rw [bindTs_map]
    induction ks with
    | nil => rfl
    | cons x r ih =>
      have hx := h x (List.mem_cons_self ..)
      rw [List.map_cons]
      generalize bindT fs x = p at hx
      obtain ⟨q, b⟩ := p
      subst hx
      exact ih fun y hy => h y (List.mem_cons_of_mem _ hy)
  unfold innerT
  rw [if_pos e]
theorem vans_bind {fs : List Fld} {j : Nat} {f : Fld} {T : ByteArray} (h : schemaB fs = true) (hf : fs[j]? = some f) (hk : f.kd = 1) (hof : ofT f.kd f.fold f.stop f.stem T = []) : ∀ x ∈ vans f.nm T, (bindT fs x).2 = false := by
  have g := gone_bind h hf hk hof
  intro x hx
  simp only [vans, List.mem_cons, List.not_mem_nil, or_false] at hx
  rcases hx with rfl | rfl | rfl | rfl | rfl | rfl
  · exact g
  all_goals exact over_bind (by decide) (by intro y hy; simp only [List.mem_cons, List.not_mem_nil, or_false] at hy; first | (rcases hy with rfl | rfl <;> exact g) | (rw [hy]; exact g))
theorem vans_top {fs : List Fld} {j : Nat} {f : Fld} {T : ByteArray} (h : schemaB fs = true) (hf : fs[j]? = some f) (hk : f.kd = 1) (hof : ofT f.kd f.fold f.stop f.stem T = []) : ∀ x ∈ vans f.nm T, topQ fs x = noneQ := fun x hx => by
  unfold topQ
  rw [vans_bind h hf hk hof x hx]
  rfl
theorem gone_good {nm T : ByteArray} (h : T.size ≠ 0) : nodB (gone nm T) = true := by
  simp [gone, nodB, nodsB, ownB, askN, askOf, noEnd, bnd0, h]
  rfl
theorem vans_good {nm T : ByteArray} (h : T.size ≠ 0) : ∀ x ∈ vans nm T, nodB x = true := by
  have g := gone_good (nm := nm) h
  intro x hx
  simp only [vans, List.mem_cons, List.not_mem_nil, or_false] at hx
  rcases hx with rfl | rfl | rfl | rfl | rfl | rfl
  · exact g
  all_goals (simp [over, nodB, nodsB, ownB, askN, askOf, noEnd, bnd0, g, occB]; try rfl)
theorem vans_bulk {nm T : ByteArray} : ∀ x ∈ vans nm T, x.bulk ≤ 2 * (nm.size + T.size) + 4 := by
  intro x hx
  have e : bnd0.text.size = 0 := rfl
  have e2 : (⟨#[]⟩ : ByteArray).size = 0 := rfl
  simp only [vans, List.mem_cons, List.not_mem_nil, or_false] at hx
  rcases hx with rfl | rfl | rfl | rfl | rfl | rfl <;> simp only [over, gone, Nod.bulk, nbulks, nbulk, e, e2, List.length_nil, List.length_cons] <;> omega

def putOcc (hd : NHead) (a : Nat) (o : Int) : List Int := if hd.kind = 9 then hd.occur.take a ++ o :: hd.occur.drop a else hd.occur
def putN (hd : NHead) (ks : List Nod) (x : Nod) (a : Nat) (o : Int) : Nod := .mk ⟨hd.kind, hd.field, hd.text, hd.n, hd.lo, hd.hi, putOcc hd a o⟩ (ks.take a ++ x :: ks.drop a)
theorem keptO_congr (o o' : Nat → Int) : ∀ (i : Nat) (rs : List (Qry × Bool)), (∀ k, i ≤ k → k < i + rs.length → o k = o' k) → keptO o i rs = keptO o' i rs
  | _, [], _ => rfl
  | i, (q, b) :: r, h => by
    have h0 := h i (Nat.le_refl _) (by simp)
    have ih := keptO_congr o o' (i + 1) r fun k h1 h2 => h k (by omega) (by rw [List.length_cons]; omega)
    cases b
    · exact ih
    · show o i :: keptO o (i + 1) r = o' i :: keptO o' (i + 1) r
      rw [h0, ih]
theorem keptO_shift (o : Nat → Int) : ∀ (i : Nat) (rs : List (Qry × Bool)), keptO o (i + 1) rs = keptO (fun k => o (k + 1)) i rs
  | _, [] => rfl
  | i, (q, b) :: r => by
    have ih := keptO_shift o (i + 1) r
    cases b
    · exact ih
    · show o (i + 1) :: _ = o (i + 1) :: _
      rw [ih]
theorem kept_put {a b : List (Qry × Bool)} {p : Qry × Bool} (h : p.2 = false) : keptQ (a ++ p :: b) = keptQ (a ++ b) := by
  obtain ⟨q, c⟩ := p
  subst h
  rw [keptQ_app, keptQ_app]
  rfl
theorem keptO_put {o o' : Nat → Int} {a b : List (Qry × Bool)} {p : Qry × Bool} (h : p.2 = false) (h1 : ∀ k, k < a.length → o' k = o k) (h2 : ∀ k, a.length ≤ k → k < a.length + b.length → o' (k + 1) = o k) : keptO o' 0 (a ++ p :: b) = keptO o 0 (a ++ b) := by
  obtain ⟨q, c⟩ := p
  subst h
  rw [keptO_app, keptO_app, keptO_congr o' o 0 a (fun k _ hk => h1 k (by omega))]
  congr 1
  show keptO o' (0 + a.length + 1) b = _
  rw [keptO_shift]
  exact keptO_congr _ _ _ b fun k h3 h4 => h2 k (by omega) (by omega)
theorem getD_put_lt {l : List Int} {a k : Nat} {o : Int} (h : k < a) (ha : a ≤ l.length) : (l.take a ++ o :: l.drop a).getD k 0 = l.getD k 0 := by
  rw [List.getD_eq_getElem?_getD, List.getD_eq_getElem?_getD, List.getElem?_append_left (by rw [List.length_take]; omega), List.getElem?_take_of_lt h]
theorem getD_put_ge {l : List Int} {a k : Nat} {o : Int} (h : a ≤ k) (ha : a ≤ l.length) : (l.take a ++ o :: l.drop a).getD (k + 1) 0 = l.getD k 0 := by
  rw [List.getD_eq_getElem?_getD, List.getD_eq_getElem?_getD, List.getElem?_append_right (by rw [List.length_take]; omega), List.length_take, show k + 1 - min a l.length = (k - a) + 1 by omega, List.getElem?_cons_succ, List.getElem?_drop]
  congr 2
  omega
theorem put_bind {fs : List Fld} {hd : NHead} {ks : List Nod} {x : Nod} {a : Nat} {o : Int} (h9 : 9 ≤ hd.kind) (hx : (bindT fs x).2 = false) (ha : a ≤ ks.length) (hocc : hd.kind = 9 → hd.occur.length = ks.length) : bindT fs (putN hd ks x a o) = bindT fs (.mk hd ks) := by
  unfold putN
  rw [bindT, bindT, if_neg (by simp only; omega), if_neg (by simp only; omega), if_neg (by omega), if_neg (by omega)]
  have e : bindTs fs (ks.take a ++ x :: ks.drop a) = (bindTs fs ks).take a ++ bindT fs x :: (bindTs fs ks).drop a := by
    rw [bindTs_map, bindTs_map, List.map_append, List.map_cons, List.map_take, List.map_drop]
  have e2 := List.take_append_drop a (bindTs fs ks)
  have hl : ((bindTs fs ks).take a).length = a := by rw [List.length_take, bindTs_len]; omega
  have hl2 : ((bindTs fs ks).drop a).length = ks.length - a := by rw [List.length_drop, bindTs_len]
  have k1 : keptQ (bindTs fs (ks.take a ++ x :: ks.drop a)) = keptQ (bindTs fs ks) := by rw [e, kept_put hx, e2]
  have k2 : occsOf ⟨hd.kind, hd.field, hd.text, hd.n, hd.lo, hd.hi, putOcc hd a o⟩ (bindTs fs (ks.take a ++ x :: ks.drop a)) = occsOf hd (bindTs fs ks) := by
    unfold occsOf
    simp only
    split
    · rw [e]
      conv => rhs; rw [← e2]
      refine keptO_put hx (fun k hk => ?_) (fun k h1 h2 => ?_)
      · unfold occOf putOcc
        simp only
        split
        · rename_i h
          have := hocc h
          exact getD_put_lt (by omega) (by omega)
        · rfl
      · unfold occOf putOcc
        simp only
        split
        · rename_i h
          have := hocc h
          exact getD_put_ge (by omega) (by omega)
        · rfl
    · rfl
  unfold innerT
  rw [k1]
  split
  · rfl
  · unfold innerH
    rw [k2]
theorem put_top {fs : List Fld} {hd : NHead} {ks : List Nod} {x : Nod} {a : Nat} {o : Int} (h9 : 9 ≤ hd.kind) (hx : (bindT fs x).2 = false) (ha : a ≤ ks.length) (hocc : hd.kind = 9 → hd.occur.length = ks.length) : topQ fs (putN hd ks x a o) = topQ fs (.mk hd ks) := by
  unfold topQ
  rw [put_bind h9 hx ha hocc]
theorem good_occ {hd : NHead} {ks : List Nod} (h : nodB (.mk hd ks) = true) (h9 : hd.kind = 9) : hd.occur.length = ks.length := by
  unfold nodB at h
  rw [Bool.and_eq_true] at h
  have h1 := h.1
  unfold ownB askN at h1
  rw [h9] at h1
  simp [askOf] at h1
  omega
theorem good_kids {hd : NHead} {ks : List Nod} (h9 : 9 ≤ hd.kind) (h12 : hd.kind ≤ 12) (h : nodB (.mk hd ks) = true) : ks ≠ [] := by
  rintro rfl
  unfold nodB at h
  rw [Bool.and_eq_true] at h
  have h1 := h.1
  unfold ownB askN at h1
  rcases (by omega : hd.kind = 9 ∨ hd.kind = 10 ∨ hd.kind = 11 ∨ hd.kind = 12) with e | e | e | e <;> rw [e] at h1 <;> simp [askOf] at h1
theorem put_good {hd : NHead} {ks : List Nod} {x : Nod} {a : Nat} {o : Int} (h9 : 9 ≤ hd.kind) (h12 : hd.kind ≤ 12) (ha : a ≤ ks.length) (ho : occB o = true) (hx : nodB x = true) (h : nodB (.mk hd ks) = true) : nodB (putN hd ks x a o) = true := by
  have hocc := good_occ h
  unfold nodB at h
  rw [Bool.and_eq_true] at h
  obtain ⟨h1, h2⟩ := h
  unfold putN nodB
  rw [Bool.and_eq_true]
  refine ⟨?_, ?_⟩
  · have hl : (ks.take a ++ x :: ks.drop a).length = ks.length + 1 := by rw [List.length_append, List.length_cons, List.length_take, List.length_drop]; omega
    rw [hl]
    obtain ⟨k, fn, T, n, lo, hi, occ⟩ := hd
    simp only at h9 h12 hocc h1 ⊢
    unfold ownB at h1 ⊢
    simp only [Bool.and_eq_true] at h1 ⊢
    obtain ⟨⟨⟨⟨g1, g2⟩, g3⟩, g4⟩, g5⟩ := h1
    refine ⟨⟨⟨⟨g1, g2⟩, ?_⟩, ?_⟩, g5⟩
    · unfold askN at g3 ⊢
      simp only [Bool.and_eq_true] at g3 ⊢
      obtain ⟨⟨⟨⟨⟨⟨⟨f1, f2⟩, f3⟩, f4⟩, f5⟩, f6⟩, f7⟩, f8⟩ := g3
      rcases (by omega : k = 9 ∨ k = 10 ∨ k = 11 ∨ k = 12) with rfl | rfl | rfl | rfl
      · have := hocc rfl
        refine ⟨⟨⟨⟨⟨⟨⟨f1, f2⟩, f3⟩, f4⟩, f5⟩, ?_⟩, by simp [askOf]⟩, ?_⟩
        · have := of_decide_eq_true f6
          exact decide_eq_true (by omega)
        · simp only [putOcc, if_pos]
          simp [askOf]
          omega
      all_goals
        refine ⟨⟨⟨⟨⟨⟨⟨f1, f2⟩, f3⟩, f4⟩, f5⟩, ?_⟩, by simp [askOf]⟩, f8⟩
        have := of_decide_eq_true f6
        exact decide_eq_true (by omega)
    · unfold putOcc
      simp only
      split
      · rw [List.all_eq_true] at g4 ⊢
        intro y hy
        rw [List.mem_append, List.mem_cons] at hy
        rcases hy with hy | rfl | hy
        · exact g4 y (List.mem_of_mem_take hy)
        · exact ho
        · exact g4 y (List.mem_of_mem_drop hy)
      · exact g4
  · rw [nodsB_all] at h2 ⊢
    rw [List.all_eq_true] at h2 ⊢
    intro y hy
    rw [List.mem_append, List.mem_cons] at hy
    rcases hy with hy | rfl | hy
    · exact h2 y (List.mem_of_mem_take hy)
    · exact hx
    · exact h2 y (List.mem_of_mem_drop hy)
theorem nbulks_len : ∀ l : List Nod, l.length ≤ nbulks l
  | [] => Nat.zero_le _
  | .mk h k :: r => by
    have := nbulks_len r
    simp only [nbulks, Nod.bulk, nbulk, List.length_cons]
    omega
theorem nbulks_app : ∀ a b : List Nod, nbulks (a ++ b) = nbulks a + nbulks b
  | [], b => by simp [nbulks]
  | x :: r, b => by simp only [List.cons_append, nbulks, nbulks_app r b]; omega
theorem put_occ {hd : NHead} {ks : List Nod} {a : Nat} {o : Int} (ha : a ≤ ks.length) (hocc : hd.kind = 9 → hd.occur.length = ks.length) : (putOcc hd a o).length ≤ hd.occur.length + 1 := by
  unfold putOcc
  split
  · rename_i h
    have := hocc h
    rw [List.length_append, List.length_cons, List.length_take, List.length_drop]
    omega
  · omega
theorem occ_wf {o : Int} (h : occB o = true) : (Lit.int .i64 o).wf = true := by
  unfold occB at h
  simp at h
  rcases h with (rfl | rfl) | rfl <;> rfl
theorem put_wf {hd : NHead} {a : Nat} {o : Int} (h : ∀ o ∈ hd.occur, (Lit.int .i64 o).wf = true) (ho : (Lit.int .i64 o).wf = true) : ∀ y ∈ putOcc hd a o, (Lit.int .i64 y).wf = true := by
  intro y hy
  unfold putOcc at hy
  split at hy
  · rw [List.mem_append, List.mem_cons] at hy
    rcases hy with hy | rfl | hy
    · exact h y (List.mem_of_mem_take hy)
    · exact ho
    · exact h y (List.mem_of_mem_drop hy)
  · exact h y hy
theorem nbulk_occ (hd : NHead) (ks : List Nod) : hd.occur.length + 1 ≤ (Nod.mk hd ks).bulk := by
  simp only [Nod.bulk, nbulk]
  omega
theorem ints_len (l : List Int) : (ints l).length = l.length := by simp [ints]
theorem ints_take {l : List Int} {a j : Nat} {u : Value} (h : (ints (l.take a))[j]? = some u) : (ints l)[j]? = some u := by
  unfold ints at h ⊢
  rw [List.map_take] at h
  have hj := (List.getElem?_eq_some_iff.1 h).1
  rw [List.length_take] at hj
  rw [List.getElem?_take_of_lt (by omega)] at h
  exact h
theorem ints_drop {l : List Int} {a j : Nat} {u : Value} (h : (ints (l.drop a))[j]? = some u) : (ints l)[a + j]? = some u := by
  unfold ints at h ⊢
  rw [List.map_drop, List.getElem?_drop] at h
  exact h
theorem ints_one {l : List Int} : ∀ u ∈ ints l, u.oneCell' = true := fun u hu => by
  obtain ⟨i, _, rfl⟩ := List.mem_map.1 hu
  rfl
theorem put_bulk {hd : NHead} {ks : List Nod} {x : Nod} {a : Nat} {o : Int} (ha : a ≤ ks.length) (hocc : hd.kind = 9 → hd.occur.length = ks.length) : (putN hd ks x a o).bulk ≤ (Nod.mk hd ks).bulk + x.bulk + 1 := by
  have e := List.take_append_drop a ks
  have e2 : nbulks ks = nbulks (ks.take a) + nbulks (ks.drop a) := by rw [← nbulks_app, e]
  have e3 : (putOcc hd a o).length ≤ hd.occur.length + 1 := by
    unfold putOcc
    split
    · rename_i h
      have := hocc h
      rw [List.length_append, List.length_cons, List.length_take, List.length_drop]
      omega
    · omega
  unfold putN
  simp only [Nod.bulk, nbulk]
  rw [nbulks_app]
  simp only [nbulks]
  omega
end Go.Proofs.YtkcfgcdlnojaeaaGreatDoor.VanPlain
