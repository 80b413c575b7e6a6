/-
  A phrase as it is built: two lists grown side by side in a query's fields.
-/
import Derived.Test.YtkcfgcdlnojaeaaGreatDoorWordsAny
import Derived.Deep.Cut
import Derived.Deep.RegionLawGrows
import Derived.Deep.AppendLies
set_option linter.unusedVariables false
set_option linter.unusedSimpArgs false
namespace Go.Proofs.YtkcfgcdlnojaeaaGreatDoor.PhraseBase
set_option maxRecDepth 100000
open Go.RowKit Go.PlainAid Base Query BindBase WordPlain OfText WordsAny

theorem own_lower {w : World} {B B' size n : Nat} {e : TypeId} {v : Value} {xs : List Value} (h : w.ownsRow B e size v n xs) (hB : B' ≤ B) : w.ownsRow B' e size v n xs := by
  refine ⟨h.1, ?_⟩
  rcases h.2 with h' | ⟨g, cap, cur, h1, h2, h3⟩
  · exact .inl h'
  · exact .inr ⟨g, cap, cur, h1, Nat.le_trans hB h2, h3⟩
/-- 'append' to a row of one's own: in place, or a new row and the old one as it was. -/
theorem step_append_kept {P : Program} {ops : Array Oper} {o : Oper} {a : Act} {w : World} {K : Act → World → Prop} {Q : Exit → Act → World → Prop} {E : Prop} (hgd : o.guard = none) (s x : Operand) (t : TypeId)
    (ho : o.op = .call { callee := .builtin .append, args := #[s, x], argTypes := #[t, t] })
    (base : Nat) (e : TypeId) (i : TypeInfo) (z : Value) (size bytes : Nat) (ht : P.underlying t = some (.slice e)) (hi : P.info? e = some i) (hz : i.zero = some z)
    (hsize : i.size = size) (hby : i.bytes = bytes) (hzs : z.cells.size = size) (hsz : 0 < size)
    (v : Value) (n : Nat) (xs : List Value) (hs : a.eval s = v) (hown : w.ownsRow base e size v n xs)
    (ad : Addr) (m c : Nat) (news : List Value) (hx : a.eval x = .slice (some ad) m c) (hl : news.length = m * size) (hnews : ∀ j u, news[j]? = some u → w.cell? (ad.add j) = some u) (h1 : ∀ u ∈ news, u.oneCell' = true)
    (hm : 0 < m) (h63 : n + m ≤ maxLen) (hbytes : (n + m) * bytes ≤ 140737488355328) (hbase : base ≤ w.heap.size)
    (h : ∀ g cap w', w'.ownsRow base e size (.slice (some ⟨g, 0, none⟩) (n + m) cap) (n + m) (xs ++ news) → ((v.ownBlock = some g ∧ w.grownBy w' (some g)) ∨ (w.heap.size ≤ g ∧ w.grownBy w' none)) → K (a.put o.dst (.slice (some ⟨g, 0, none⟩) (n + m) cap)) w') :
    if Region.wanted o (yielded ops a.tmps) = true then Oper.wp P o a w K Q else E := by
  have hlen := hown.1
  have low : ∀ {v' : Value} {w' : World}, w'.ownsRow w.heap.size e size v' (n + m) (xs ++ news) → w.grownBy w' none → K (a.put o.dst v') w' := fun {v' w'} h2 h3 => by
    obtain ⟨g, cap, rfl, hg, _⟩ := h2.form (by omega)
    exact h g cap w' (own_lower h2 hbase) (.inr ⟨hg, h3⟩)
  rcases hown.2 with ⟨rfl, rfl⟩ | ⟨g, cap, cur, rfl, hbg, hg, hnc, hcm, hcs, htk⟩
  · have : xs = [] := List.length_eq_zero_iff.1 (by simpa using hlen)
    subst this
    exact step_append_grows hgd s x t ho e i z size bytes ht hi hz hsize hby hzs hsz none 0 0 [] hs (fun _ => ⟨rfl, rfl⟩) (by simp) (fun b hb => by cases hb) ad m c news hx hl hnews h1 (by omega) (by omega) hbytes (fun v' w' h2 h3 => low h2 h3)
  · by_cases hroom : n + m ≤ cap
    · have hw : Region.wanted o (yielded ops a.tmps) = true := by simp [Region.wanted, hgd]
      rw [if_pos hw]
      obtain ⟨w', hrun, r1, r2⟩ := run_append_fits (P := P) (w := w) base t o.type e i size ht hi hsize g n cap xs hown ad m c news hl hnews h1 hroom
      unfold Oper.wp execOp
      simp only [ho, resolve, invoke, builtin, Sem.run_bind, Sem.run_pure, Result.andThen_ok, List.map_toArray, List.map_cons, List.map_nil, hs, hx, hrun]
      exact h g cap w' r1 (.inl ⟨rfl, r2⟩)
    · exact step_append_grows hgd s x t ho e i z size bytes ht hi hz hsize hby hzs hsz (some ⟨g, 0, none⟩) n cap xs hs (fun hn => by cases hn) hlen
        (fun b hb j u hu => by
          cases hb
          have := hown.cells (g := g) rfl j u hu
          exact this) ad m c news hx hl hnews h1 (by omega) h63 hbytes (fun v' w' h2 h3 => low h2 h3)

theorem own_setFar {w : World} {base size n : Nat} {e : TypeId} {v : Value} {xs : List Value} (h : w.ownsRow base e size v n xs) {p : Addr} (hp : v.ownBlock ≠ some p.block) (u : Value) : (w.setCell p u).ownsRow base e size v n xs :=
  h.kept (row := some p.block) ⟨rfl, rfl, rfl, by simp, fun k _ hk => Below.heap_setCell w p u k (fun e => hk (by rw [e]))⟩ (.inr hp)
theorem own_far {w : World} {base size n : Nat} {e : TypeId} {v : Value} {xs : List Value} (h : w.ownsRow base e size v n xs) {k : Nat} (hk : k < base) : v.ownBlock ≠ some k := fun e => by have := (h.lt k e).1; omega
/-- Rows of two types of cell lie in two blocks. -/
theorem rows_apart {w : World} {B B' s s' n n' : Nat} {e e' : TypeId} {v v' : Value} {xs ys : List Value} (h : w.ownsRow B e s v n xs) (h' : w.ownsRow B' e' s' v' n' ys) (hne : e ≠ e') : v'.ownBlock = none ∨ v'.ownBlock ≠ v.ownBlock := by
  rcases h'.2 with ⟨rfl, _⟩ | ⟨g', cap', cur', rfl, _, hg', _⟩
  · exact .inl rfl
  · refine .inr fun hk => ?_
    rcases h.2 with ⟨rfl, _⟩ | ⟨g, cap, cur, rfl, _, hg, _⟩
    · simp [Value.ownBlock] at hk
    · simp only [Value.ownBlock, Option.some.injEq] at hk
      subst hk
      rw [hg'] at hg
      exact hne (Obj.cells.inj (Option.some.inj hg)).2.1.symm
theorem strEl : Elem Tryz.prog 22 9 (.string ByteArray.empty) 1 16 := .mk_ (by kernel_rfl) (by kernel_rfl) rfl (by decide)
theorem intEl : Elem Tryz.prog 23 3 (.int .i64 0) 1 8 := .mk_ (by kernel_rfl) (by kernel_rfl) rfl (by decide)
def texts (ts : List Tok) : List ByteArray := ts.map Tok.text
def gaps (ts : List Tok) : List Int := ts.map fun t => t.pos - (ts.head?.getD ⟨⟨#[]⟩, 0, 0, 0, 0⟩).pos
theorem texts_take {ts : List Tok} {k : Nat} {t : Tok} (h : ts[k]? = some t) : strs ((texts ts).take (k + 1)) = strs ((texts ts).take k) ++ [.string t.text] := by
  rw [List.take_add_one]
  simp [texts, strs, h]
theorem gaps_take {ts : List Tok} {k : Nat} {t t0 : Tok} {r : List Tok} (h : ts[k]? = some t) (h0 : ts = t0 :: r) : ints ((gaps ts).take (k + 1)) = ints ((gaps ts).take k) ++ [.int .i64 (t.pos - t0.pos)] := by
  rw [List.take_add_one]
  simp only [gaps, List.getElem?_map, h]
  rw [show ts.head? = some t0 by rw [h0]; rfl]
  simp [ints]
/-- A phrase's cells. -/
def phC (at_ n : Int) (v1 v2 : Value) : Array Value := #[.int .i64 5, .int .i64 at_, .string ⟨#[]⟩, v1, v2, .int .i64 n, .int .u64 0, .bool false, .bool false, .string ⟨#[]⟩, .bool false, .bool false, .string ⟨#[]⟩, .slice none 0 0, .slice none 0 0]
/-- A phrase of k tokens so far, in the block that was made behind wS. -/
structure Ph (wS wr : World) (at_ n : Int) (ts : List Tok) (k : Nat) (v1 v2 : Value) : Prop where
  bel : Below wS.heap.size wS wr
  lt : wS.heap.size + 1 ≤ wr.heap.size
  blk : Blk wr wS.heap.size 29 (phC at_ n v1 v2)
  own1 : wr.ownsRow (wS.heap.size + 1) 9 1 v1 k (strs ((texts ts).take k))
  own2 : wr.ownsRow (wS.heap.size + 1) 3 1 v2 k (ints ((gaps ts).take k))
section
variable {wS wr : World} {at_ n : Int} {ts : List Tok} {k : Nat} {v1 v2 : Value}
theorem Ph.start (wS : World) (at_ n : Int) (ts : List Tok) : Ph wS (wS.alloc (.cells (phC at_ n (.slice none 0 0) (.slice none 0 0)) 29)) at_ n ts 0 (.slice none 0 0) (.slice none 0 0) :=
  ⟨by (repeat (first | exact Below.refl _ _ | assumption | refine balloc ?_ _ | refine bdrew ?_ | refine bdrewN ?_ _ | refine bchain ?_ (by assumption))), by simp, Blk.new wS _ _, World.ownsRow_nil _ _ _ _, World.ownsRow_nil _ _ _ _⟩
theorem Ph.alloc (h : Ph wS wr at_ n ts k v1 v2) (o : Obj) : Ph wS (wr.alloc o) at_ n ts k v1 v2 :=
  ⟨h.bel.alloc (by have := h.lt; omega) o, by have := h.lt; simp; omega, h.blk.alloc o, h.own1.alloc o, h.own2.alloc o⟩
theorem Ph.drew (h : Ph wS wr at_ n ts k v1 v2) : Ph wS wr.drew at_ n ts k v1 v2 := ⟨h.bel.drew, h.lt, h.blk, h.own1, h.own2⟩
/-- One text more. -/
theorem Ph.text {w5 : World} {v1' : Value} {t : Tok} (h : Ph wS wr at_ n ts k v1 v2) (ht : ts[k]? = some t) (ho : w5.ownsRow (wS.heap.size + 1) 9 1 v1' (k + 1) (strs ((texts ts).take k) ++ [.string t.text])) (hg : wr.grownBy w5 v1.ownBlock) :
    Below wS.heap.size wS w5 ∧ wS.heap.size + 1 ≤ w5.heap.size ∧ Blk w5 wS.heap.size 29 (phC at_ n v1 v2) ∧ w5.ownsRow (wS.heap.size + 1) 9 1 v1' (k + 1) (strs ((texts ts).take (k + 1))) ∧ w5.ownsRow (wS.heap.size + 1) 3 1 v2 k (ints ((gaps ts).take k)) := by
  have hs := h.lt
  refine ⟨below_own h.bel (own_lower h.own1 (Nat.le_succ _)) (by omega) hg, Nat.le_trans hs hg.size, h.blk.grown hg fun e => own_far h.own1 (Nat.lt_succ_self _) e.symm, ?_, h.own2.kept hg (rows_apart h.own1 h.own2 (by decide))⟩
  rw [texts_take ht]
  exact ho
/-- Behind the text, ahead of the gap. -/
structure Mid (wS wr : World) (at_ n : Int) (ts : List Tok) (k : Nat) (v1 v2 : Value) : Prop where
  bel : Below wS.heap.size wS wr
  lt : wS.heap.size + 1 ≤ wr.heap.size
  blk : Blk wr wS.heap.size 29 (phC at_ n v1 v2)
  own1 : wr.ownsRow (wS.heap.size + 1) 9 1 v1 (k + 1) (strs ((texts ts).take (k + 1)))
  own2 : wr.ownsRow (wS.heap.size + 1) 3 1 v2 k (ints ((gaps ts).take k))
theorem Mid.alloc (h : Mid wS wr at_ n ts k v1 v2) (o : Obj) : Mid wS (wr.alloc o) at_ n ts k v1 v2 :=
  ⟨h.bel.alloc (by have := h.lt; omega) o, by have := h.lt; simp; omega, h.blk.alloc o, h.own1.alloc o, h.own2.alloc o⟩
theorem Mid.drew (h : Mid wS wr at_ n ts k v1 v2) : Mid wS wr.drew at_ n ts k v1 v2 := ⟨h.bel.drew, h.lt, h.blk, h.own1, h.own2⟩
theorem Mid.of {w5 W6 : World} {v1' : Value} (hw : W6 = w5.setCell ⟨wS.heap.size, 3, none⟩ v1') (b5 : Below wS.heap.size wS w5) (s5 : wS.heap.size + 1 ≤ w5.heap.size) (K5 : Blk w5 wS.heap.size 29 (phC at_ n v1 v2)) (o1 : w5.ownsRow (wS.heap.size + 1) 9 1 v1' (k + 1) (strs ((texts ts).take (k + 1)))) (o2 : w5.ownsRow (wS.heap.size + 1) 3 1 v2 k (ints ((gaps ts).take k))) : Mid wS W6 at_ n ts k v1' v2 := by
  subst hw
  refine ⟨b5.setCell (p := ⟨wS.heap.size, 3, none⟩) (Nat.le_refl _) _, by simpa using s5, ?_, own_setFar o1 (p := ⟨wS.heap.size, 3, none⟩) (own_far o1 (Nat.lt_succ_self _)) _, own_setFar o2 (p := ⟨wS.heap.size, 3, none⟩) (own_far o2 (Nat.lt_succ_self _)) _⟩
  have := K5.set_ 3 v1'
  simpa [phC] using this
theorem Mid.grow {w7 : World} {gg cap : Nat} {t t0 : Tok} {r : List Tok} (h : Mid wS wr at_ n ts k v1 v2) (ht : ts[k]? = some t) (h0 : ts = t0 :: r)
    (ho : w7.ownsRow (wS.heap.size + 1) 3 1 (.slice (some ⟨gg, 0, none⟩) (k + 1) cap) (k + 1) (ints ((gaps ts).take k) ++ [.int .i64 (t.pos - t0.pos)])) (hat : (v2.ownBlock = some gg ∧ wr.grownBy w7 (some gg)) ∨ (wr.heap.size ≤ gg ∧ wr.grownBy w7 none)) :
    Below wS.heap.size wS w7 ∧ wS.heap.size + 1 ≤ w7.heap.size ∧ Blk w7 wS.heap.size 29 (phC at_ n v1 v2) ∧ w7.ownsRow (wS.heap.size + 1) 9 1 v1 (k + 1) (strs ((texts ts).take (k + 1))) ∧
      w7.ownsRow (wS.heap.size + 1) 3 1 (.slice (some ⟨gg, 0, none⟩) (k + 1) cap) (k + 1) (ints ((gaps ts).take (k + 1))) := by
  have hs := h.lt
  rw [gaps_take ht h0]
  rcases hat with ⟨e, hg⟩ | ⟨_, hg⟩
  · rw [← e] at hg
    exact ⟨below_own h.bel (own_lower h.own2 (Nat.le_succ _)) (by omega) hg, Nat.le_trans hs hg.size, h.blk.grown hg fun e => own_far h.own2 (Nat.lt_succ_self _) e.symm, h.own1.kept hg (rows_apart h.own2 h.own1 (by decide)), ho⟩
  · refine ⟨below_own h.bel (World.ownsRow_nil wr wS.heap.size 3 1) (by omega) hg, Nat.le_trans hs hg.size, h.blk.grown hg (by simp), h.own1.kept hg ?_, ho⟩
    cases e : v1.ownBlock with
    | none => exact .inl rfl
    | some k => exact .inr (by simp)
theorem Ph.of {w7 : World} {v2' : Value} (b : Below wS.heap.size wS w7) (s : wS.heap.size + 1 ≤ w7.heap.size) (K : Blk w7 wS.heap.size 29 (phC at_ n v1 v2)) (o1 : w7.ownsRow (wS.heap.size + 1) 9 1 v1 (k + 1) (strs ((texts ts).take (k + 1)))) (o2 : w7.ownsRow (wS.heap.size + 1) 3 1 v2' (k + 1) (ints ((gaps ts).take (k + 1)))) :
    Ph wS (w7.setCell ⟨wS.heap.size, 4, none⟩ v2') at_ n ts (k + 1) v1 v2' := by
  refine ⟨b.setCell (p := ⟨wS.heap.size, 4, none⟩) (Nat.le_refl _) _, by simpa using s, ?_, own_setFar o1 (p := ⟨wS.heap.size, 4, none⟩) (own_far o1 (Nat.lt_succ_self _)) _, own_setFar o2 (p := ⟨wS.heap.size, 4, none⟩) (own_far o2 (Nat.lt_succ_self _)) _⟩
  have := K.set_ 4 v2'
  simpa [phC] using this
end
end Go.Proofs.YtkcfgcdlnojaeaaGreatDoor.PhraseBase
