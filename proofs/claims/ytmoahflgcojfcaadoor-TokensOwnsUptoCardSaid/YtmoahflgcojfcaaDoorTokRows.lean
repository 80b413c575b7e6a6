/-
  Lists of tokens, each in memory of its own: they are written over, grown, and told apart.
-/
import Derived.Test.YtmoahflgcojfcaaDoorOutRow
import Derived.Deep.RegionLawGrows
namespace Go.Proofs.YtmoahflgcojfcaaDoor.TokRows
set_option maxRecDepth 100000
open Go.RowKit Go.PlainAid WordPlain Base App OutRow

/-- The token that is written at place j of list i. -/
def stT (i j : Nat) : Tok := ⟨⟨#[]⟩, (i : Int) + 1, j, 0, 0⟩
def stamp (i n : Nat) : List Tok := (List.range n).map (stT i)
theorem stamp_len (i n : Nat) : (stamp i n).length = n := by simp [stamp]
theorem stamp_succ (i n : Nat) : stamp i (n + 1) = stamp i n ++ [stT i n] := by simp [stamp, List.range_succ]
theorem stamp_at {i n j : Nat} (h : j < n) : (stamp i n)[j]? = some (stT i j) := by simp [stamp, h]
theorem stamp_take {i m n : Nat} (h : m ≤ n) : (stamp i n).take m = stamp i m := by
  apply List.ext_getElem?
  intro j
  rw [List.getElem?_take]
  by_cases hj : j < m
  · rw [if_pos hj, stamp_at (by omega), stamp_at hj]
  · rw [if_neg hj]
    exact (List.getElem?_eq_none (by rw [stamp_len]; omega)).symm
/-- Half written over. -/
def mix (i j : Nat) (l : List Tok) : List Tok := stamp i j ++ l.drop j
theorem mix_zero (i : Nat) (l : List Tok) : mix i 0 l = l := by simp [mix, stamp]
theorem mix_all (i : Nat) (l : List Tok) : mix i l.length l = stamp i l.length := by simp [mix]
theorem mix_len {i j : Nat} {l : List Tok} (h : j ≤ l.length) : (mix i j l).length = l.length := by simp [mix, stamp_len]; omega
theorem mix_set {i j : Nat} {l : List Tok} (h : j < l.length) : (mix i j l).set j (stT i j) = mix i (j + 1) l := by
  unfold mix
  rw [List.set_append_right _ _ (by rw [stamp_len]; exact Nat.le_refl _), stamp_len, Nat.sub_self, List.drop_eq_getElem_cons h, List.set_cons_zero, stamp_succ, List.append_assoc]
  rfl
theorem tokCells_set : ∀ (l : List Tok) (j : Nat) (t : Tok), tokCells (l.set j t) = (((((tokCells l).set (j * 5) (.string t.text)).set (j * 5 + 1) (.int .i64 t.value)).set (j * 5 + 2) (.int .i64 t.pos)).set (j * 5 + 3) (.int .i64 t.start)).set (j * 5 + 4) (.int .i64 t.stop)
  | [], _, _ => rfl
  | x :: r, 0, t => rfl
  | x :: r, j + 1, t => by
    have ih := tokCells_set r j t
    show tokC x ++ tokCells (r.set j t) = _
    rw [ih]
    have e : ∀ (m : Nat) (L : List Value) (u : Value), (tokC x ++ L).set ((j + 1) * 5 + m) u = tokC x ++ L.set (j * 5 + m) u := fun m L u => by
      rw [List.set_append_right _ _ (by simp [tokC]; omega)]
      congr 2
      simp [tokC]; omega
    show _ = (((((tokC x ++ tokCells r).set ((j + 1) * 5 + 0) _).set ((j + 1) * 5 + 1) _).set ((j + 1) * 5 + 2) _).set ((j + 1) * 5 + 3) _).set ((j + 1) * 5 + 4) _
    rw [e, e, e, e, e]
    rfl

/-- Lists of tokens, each in a row of its own, no two in one block. -/
structure Lst (W : World) (B : Nat) (vs : List Value) (f : Nat → List Tok) : Prop where
  own : ∀ i v, vs[i]? = some v → W.ownsRow B 32 5 v (f i).length (tokCells (f i))
  apart : ∀ (i j : Nat) (u v : Value) (k : Nat), vs[i]? = some u → vs[j]? = some v → u.ownBlock = some k → v.ownBlock = some k → i = j

section
variable {W W' : World} {B : Nat} {vs : List Value} {f f' : Nat → List Tok}
theorem Lst.nil (W : World) (B : Nat) (f : Nat → List Tok) : Lst W B [] f := ⟨fun i v h => by simp at h, fun i j u v k h => by simp at h⟩
theorem Lst.lt (h : Lst W B vs f) {i : Nat} {v : Value} {k : Nat} (hv : vs[i]? = some v) (hk : v.ownBlock = some k) : B ≤ k ∧ k < W.heap.size := (h.own i v hv).lt k hk
theorem Lst.congr (h : Lst W B vs f) (he : ∀ i, i < vs.length → f i = f' i) : Lst W B vs f' := ⟨fun i v hv => by rw [← he i (List.getElem?_eq_some_iff.1 hv).1]; exact h.own i v hv, h.apart⟩
theorem Lst.foot {ok : Nat → Prop} (h : Lst W B vs f) (hf : Foot W W' ok) (ho : ∀ (i : Nat) (v : Value) (k : Nat), vs[i]? = some v → v.ownBlock = some k → ok k) : Lst W' B vs f :=
  ⟨fun i v hv => hf.own (h.own i v hv) fun k hk => ho i v k hv hk, h.apart⟩
theorem Lst.below (h : Lst W B vs f) (hb : Below W.heap.size W W') : Lst W' B vs f := h.foot (Foot.ofBelow hb (fun _ => True)) fun _ _ _ _ _ => trivial
/-- One list more. -/
theorem Lst.snoc {v : Value} {l : List Tok} (h : Lst W B vs f) (hown : W.ownsRow B 32 5 v l.length (tokCells l)) (hn : ∀ (i : Nat) (u : Value) (k : Nat), vs[i]? = some u → u.ownBlock = some k → v.ownBlock ≠ some k) : Lst W B (vs ++ [v]) (fun i => if i = vs.length then l else f i) := by
  have key : ∀ i u, (vs ++ [v])[i]? = some u → (vs[i]? = some u ∧ i ≠ vs.length) ∨ (i = vs.length ∧ u = v) := fun i u hu => by
    rcases Nat.lt_trichotomy i vs.length with hl | hl | hl
    · rw [List.getElem?_append_left hl] at hu; exact .inl ⟨hu, by omega⟩
    · subst hl; simp at hu; exact .inr ⟨rfl, hu.symm⟩
    · rw [List.getElem?_eq_none (by simp; omega)] at hu; cases hu
  refine ⟨fun i u hu => ?_, fun i j u w k hu hw hku hkw => ?_⟩
  · rcases key i u hu with ⟨h1, h2⟩ | ⟨rfl, rfl⟩
    · rw [if_neg h2]; exact h.own i u h1
    · rw [if_pos rfl]; exact hown
  · rcases key i u hu with ⟨h1, h2⟩ | ⟨rfl, rfl⟩ <;> rcases key j w hw with ⟨h3, h4⟩ | ⟨rfl, rfl⟩
    · exact h.apart i j u w k h1 h3 hku hkw
    · exact absurd hkw (hn i u k h1 hku)
    · exact absurd hku (hn j w k h3 hkw)
    · rfl
/-- List i alone has changed, and lies in its block or in a new one. -/
theorem Lst.step {i : Nat} {v v' : Value} {l : List Tok} {ok : Nat → Prop} (h : Lst W B vs f) (hv : vs[i]? = some v) (hf : Foot W W' ok) (hok : ∀ (j : Nat) (u : Value) (k : Nat), j ≠ i → vs[j]? = some u → u.ownBlock = some k → ok k) (hown : W'.ownsRow B 32 5 v' l.length (tokCells l))
    (hat : v'.ownBlock = v.ownBlock ∨ ∀ k, v'.ownBlock = some k → W.heap.size ≤ k) : Lst W' B (vs.set i v') (fun j => if j = i then l else f j) := by
  have hi := (List.getElem?_eq_some_iff.1 hv).1
  have key : ∀ j u, (vs.set i v')[j]? = some u → (j = i ∧ u = v') ∨ (j ≠ i ∧ vs[j]? = some u) := fun j u hu => by
    rw [List.getElem?_set] at hu
    by_cases e : i = j
    · subst e; simp [hi] at hu; exact .inl ⟨rfl, hu.symm⟩
    · rw [if_neg e] at hu; exact .inr ⟨fun e' => e e'.symm, hu⟩
  have far : ∀ j u k, j ≠ i → vs[j]? = some u → u.ownBlock = some k → v'.ownBlock = some k → False := fun j u k hne hu hku hkv => by
    rcases hat with h1 | h1
    · exact hne (h.apart j i u v k hu hv hku (h1 ▸ hkv))
    · have := (h.lt hu hku).2
      have := h1 k hkv
      omega
  refine ⟨fun j u hu => ?_, fun j j' u u' k hu hu' hk hk' => ?_⟩
  · rcases key j u hu with ⟨rfl, rfl⟩ | ⟨hne, hu⟩
    · rw [if_pos rfl]; exact hown
    · rw [if_neg hne]; exact hf.own (h.own j u hu) fun k hk => hok j u k hne hu hk
  · rcases key j u hu with ⟨rfl, rfl⟩ | ⟨hne, hu1⟩ <;> rcases key j' u' hu' with ⟨rfl, rfl⟩ | ⟨hne', hu1'⟩
    · rfl
    · exact (far j' u' k hne' hu1' hk' hk).elim
    · exact (far j u k hne hu1 hk hk').elim
    · exact h.apart j j' u u' k hu1 hu1' hk hk'
end

section
variable {W : World} {B g n cap : Nat} {l : List Tok}
/-- A token is stored at place j. -/
theorem own_store (h : W.ownsRow B 32 5 (.slice (some ⟨g, 0, none⟩) n cap) n (tokCells l)) (j : Nat) (t : Tok) {W' : World}
    (hW : W' = ((((W.setCell ⟨g, j * 5, none⟩ (.string t.text)).setCell ⟨g, j * 5 + 1, none⟩ (.int .i64 t.value)).setCell ⟨g, j * 5 + 2, none⟩ (.int .i64 t.pos)).setCell ⟨g, j * 5 + 3, none⟩ (.int .i64 t.start)).setCell ⟨g, j * 5 + 4, none⟩ (.int .i64 t.stop)) :
    W'.ownsRow B 32 5 (.slice (some ⟨g, 0, none⟩) n cap) n (tokCells (l.set j t)) ∧ Foot W W' (fun k => k ≠ g) := by
  obtain ⟨o1, g1⟩ := h.stored (j * 5) (.string t.text)
  obtain ⟨o2, g2⟩ := o1.stored (j * 5 + 1) (.int .i64 t.value)
  obtain ⟨o3, g3⟩ := o2.stored (j * 5 + 2) (.int .i64 t.pos)
  obtain ⟨o4, g4⟩ := o3.stored (j * 5 + 3) (.int .i64 t.start)
  obtain ⟨o5, g5⟩ := o4.stored (j * 5 + 4) (.int .i64 t.stop)
  subst hW
  refine ⟨by rw [tokCells_set]; exact o5, ?_⟩
  have hr : ∀ k, k < W.heap.size → some g = some k → ¬ k ≠ g := fun k _ e hk => hk (by cases e; rfl)
  exact (((((Foot.refl W (fun k => k ≠ g)).grown g1 hr).grown g2 hr).grown g3 hr).grown g4 hr).grown g5 hr
end

theorem own_lower {w : World} {B B' size n : Nat} {e : TypeId} {v : Value} {xs : List Value} (h : w.ownsRow B e size v n xs) (hB : B' ≤ B) : w.ownsRow B' e size v n xs := by
  refine ⟨h.1, ?_⟩
  rcases h.2 with h' | ⟨g, cap, cur, h1, h2, h3⟩
  · exact .inl h'
  · exact .inr ⟨g, cap, cur, h1, Nat.le_trans hB h2, h3⟩
/-- 'append' to a row of one's own: in place, or a new row and the old one as it was. -/
theorem step_append_kept {P : Program} {ops : Array Oper} {o : Oper} {a : Act} {w : World} {K : Act → World → Prop} {Q : Exit → Act → World → Prop} {E : Prop} (hgd : o.guard = none) (s x : Operand) (t : TypeId)
    (ho : o.op = .call { callee := .builtin .append, args := #[s, x], argTypes := #[t, t] })
    (base : Nat) (e : TypeId) (i : TypeInfo) (z : Value) (size bytes : Nat) (ht : P.underlying t = some (.slice e)) (hi : P.info? e = some i) (hz : i.zero = some z)
    (hsize : i.size = size) (hby : i.bytes = bytes) (hzs : z.cells.size = size) (hsz : 0 < size)
    (v : Value) (n : Nat) (xs : List Value) (hs : a.eval s = v) (hown : w.ownsRow base e size v n xs)
    (ad : Addr) (m c : Nat) (news : List Value) (hx : a.eval x = .slice (some ad) m c) (hl : news.length = m * size) (hnews : ∀ j u, news[j]? = some u → w.cell? (ad.add j) = some u) (h1 : ∀ u ∈ news, u.oneCell' = true)
    (hm : 0 < m) (h63 : n + m ≤ maxLen) (hbytes : (n + m) * bytes ≤ 140737488355328) (hbase : base ≤ w.heap.size)
    (h : ∀ g cap w', w'.ownsRow base e size (.slice (some ⟨g, 0, none⟩) (n + m) cap) (n + m) (xs ++ news) → ((v.ownBlock = some g ∧ w.grownBy w' (some g)) ∨ (w.heap.size ≤ g ∧ w.grownBy w' none)) → K (a.put o.dst (.slice (some ⟨g, 0, none⟩) (n + m) cap)) w') :
    if Region.wanted o (yielded ops a.tmps) = true then Oper.wp P o a w K Q else E := by
  have hlen := hown.1
  have low : ∀ {v' : Value} {w' : World}, w'.ownsRow w.heap.size e size v' (n + m) (xs ++ news) → w.grownBy w' none → K (a.put o.dst v') w' := fun {v' w'} h2 h3 => by
    obtain ⟨g, cap, rfl, hg, _⟩ := h2.form (by omega)
    exact h g cap w' (own_lower h2 hbase) (.inr ⟨hg, h3⟩)
  rcases hown.2 with ⟨rfl, rfl⟩ | ⟨g, cap, cur, rfl, hbg, hg, hnc, hcm, hcs, htk⟩
  · have : xs = [] := List.length_eq_zero_iff.1 (by simpa using hlen)
    subst this
    exact step_append_grows hgd s x t ho e i z size bytes ht hi hz hsize hby hzs hsz none 0 0 [] hs (fun _ => ⟨rfl, rfl⟩) (by simp) (fun b hb => by cases hb) ad m c news hx hl hnews h1 (by omega) (by omega) hbytes (fun v' w' h2 h3 => low h2 h3)
  · by_cases hroom : n + m ≤ cap
    · have hw : Region.wanted o (yielded ops a.tmps) = true := by simp [Region.wanted, hgd]
      rw [if_pos hw]
      obtain ⟨w', hrun, r1, r2⟩ := run_append_fits (P := P) (w := w) base t o.type e i size ht hi hsize g n cap xs hown ad m c news hl hnews h1 hroom
      unfold Oper.wp execOp
      simp only [ho, resolve, invoke, builtin, Sem.run_bind, Sem.run_pure, Result.andThen_ok, List.map_toArray, List.map_cons, List.map_nil, hs, hx, hrun]
      exact h g cap w' r1 (.inl ⟨rfl, r2⟩)
    · exact step_append_grows hgd s x t ho e i z size bytes ht hi hz hsize hby hzs hsz (some ⟨g, 0, none⟩) n cap xs hs (fun hn => by cases hn) hlen
        (fun b hb j u hu => by
          cases hb
          have := hown.cells (g := g) rfl j u hu
          exact this) ad m c news hx hl hnews h1 (by omega) h63 hbytes (fun v' w' h2 h3 => low h2 h3)
end Go.Proofs.YtmoahflgcojfcaaDoor.TokRows
