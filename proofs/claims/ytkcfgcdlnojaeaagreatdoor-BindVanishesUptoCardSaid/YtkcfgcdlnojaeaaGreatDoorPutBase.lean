/-
  Appends of many to a row of one's own, in a drawn region: what they leave alone.
-/
import Derived.Test.YtkcfgcdlnojaeaaGreatDoorDNodT
import Derived.Deep.RegionLawGrows
import Derived.Laws.OwnMore
import Derived.Deep.AppendLies
set_option linter.unusedVariables false
set_option linter.unusedSimpArgs false
namespace Go.Proofs.YtkcfgcdlnojaeaaGreatDoor.PutBase
set_option maxRecDepth 100000
open Go.RowKit Go.PlainAid Base NodeTree

theorem add_of {g o i : Nat} : (⟨g, o, none⟩ : Addr).add i = ⟨g, o + i, none⟩ := by
  unfold Addr.add
  by_cases h : i = 0
  · subst h; simp
  · simp [h]
theorem own_lower {w : World} {B B' size n : Nat} {e : TypeId} {v : Value} {xs : List Value} (h : w.ownsRow B e size v n xs) (hB : B' ≤ B) : w.ownsRow B' e size v n xs := by
  refine ⟨h.1, ?_⟩
  rcases h.2 with h' | ⟨g, cap, cur, h1, h2, h3⟩
  · exact .inl h'
  · exact .inr ⟨g, cap, cur, h1, Nat.le_trans hB h2, h3⟩
def Twelve (n : Nat) (wa wb : World) : Prop := wa.heap.size ≤ wb.heap.size ∧ ∀ k t xs, xs.size = n → Blk wa k t xs → Blk wb k t xs
theorem twelve_of {w w' : World} {size base g n m cap : Nat} {e : TypeId} {xs : List Value} (hsz : 0 < size) (hown : w.ownsRow base e size (.slice (some ⟨g, 0, none⟩) n cap) n xs) (h1 : n + m ≤ cap → cap ≠ 1)
    (h : (n + m ≤ cap ∧ w.grownBy w' (some g)) ∨ w.grownBy w' none) : Twelve size w w' := by
  rcases h with ⟨hc, hg⟩ | hg
  · refine ⟨hg.size, fun k t ys hy hb => hb.grown hg fun ek => ?_⟩
    cases ek
    rcases hown.2 with ⟨he, _⟩ | ⟨g', cap', cur, he, _, hgc, _, _, hcs, _⟩
    · cases he
    · cases he
      unfold Blk at hb
      rw [hb] at hgc
      simp only [Option.some.injEq, Obj.cells.injEq] at hgc
      obtain ⟨rfl, _⟩ := hgc
      rw [hy] at hcs
      refine h1 hc ?_
      have h2 : 1 * size = cap * size := by rw [Nat.one_mul]; exact hcs
      exact (Nat.eq_of_mul_eq_mul_right hsz h2).symm
  · exact ⟨hg.size, fun k t ys _ hb => hb.grown hg (by simp)⟩
theorem below_put {w0 wr w' : World} {base size g n m cap : Nat} {e : TypeId} {xs : List Value} (hb : Below base w0 wr) (hown : wr.ownsRow base e size (.slice (some ⟨g, 0, none⟩) n cap) n xs) (hbase : base ≤ wr.heap.size) (h : (n + m ≤ cap ∧ wr.grownBy w' (some g)) ∨ wr.grownBy w' none) : Below base w0 w' := by
  rcases h with ⟨_, hg⟩ | hg
  · exact below_own hb hown hbase hg
  · exact below_own hb hown hbase ⟨hg.os, hg.tape, hg.output, hg.size, fun j hj _ => hg.block j hj (by simp)⟩
theorem step_append_put {P : Program} {ops : Array Oper} {o : Oper} {a : Act} {w : World} {K : Act → World → Prop} {Q : Exit → Act → World → Prop} {E : Prop} (hgd : o.guard = none) (s x : Operand) (t : TypeId)
    (ho : o.op = .call { callee := .builtin .append, args := #[s, x], argTypes := #[t, t] })
    (base : Nat) (e : TypeId) (i : TypeInfo) (z : Value) (size bytes : Nat) (ht : P.underlying t = some (.slice e)) (hi : P.info? e = some i) (hz : i.zero = some z)
    (hsize : i.size = size) (hby : i.bytes = bytes) (hzs : z.cells.size = size) (hsz : 0 < size)
    (g n cap : Nat) (xs : List Value) (hs : a.eval s = .slice (some ⟨g, 0, none⟩) n cap) (hown : w.ownsRow base e size (.slice (some ⟨g, 0, none⟩) n cap) n xs)
    (ad : Addr) (m c : Nat) (news : List Value) (hx : a.eval x = .slice (some ad) m c) (hl : news.length = m * size) (hnews : ∀ j u, news[j]? = some u → w.cell? (ad.add j) = some u) (h1 : ∀ u ∈ news, u.oneCell' = true)
    (h63 : n + m ≤ maxLen) (hbytes : (n + m) * bytes ≤ 140737488355328) (hbase : base ≤ w.heap.size)
    (h : ∀ g' cap' w', w'.ownsRow base e size (.slice (some ⟨g', 0, none⟩) (n + m) cap') (n + m) (xs ++ news) → (cap' = cap ∨ n + m ≠ 0) → ((n + m ≤ cap ∧ w.grownBy w' (some g)) ∨ w.grownBy w' none) → K (a.put o.dst (.slice (some ⟨g', 0, none⟩) (n + m) cap')) w') :
    if Region.wanted o (yielded ops a.tmps) = true then Oper.wp P o a w K Q else E := by
  by_cases hroom : n + m ≤ cap
  · have hw : Region.wanted o (yielded ops a.tmps) = true := by simp [Region.wanted, hgd]
    rw [if_pos hw]
    obtain ⟨w', hrun, r1, r2⟩ := run_append_fits (P := P) (w := w) base t o.type e i size ht hi hsize g n cap xs hown ad m c news hl hnews h1 hroom
    unfold Oper.wp execOp
    simp only [ho, resolve, invoke, builtin, Sem.run_bind, Sem.run_pure, Result.andThen_ok, List.map_toArray, List.map_cons, List.map_nil, hs, hx, hrun]
    exact h g cap w' r1 (.inl rfl) (.inl ⟨hroom, r2⟩)
  · exact step_append_grows hgd s x t ho e i z size bytes ht hi hz hsize hby hzs hsz (some ⟨g, 0, none⟩) n cap xs hs (fun hn => by cases hn) hown.1
      (fun b hb j u hu => by
        cases hb
        have := hown.cells (g := g) rfl j u hu
        exact this) ad m c news hx hl hnews h1 (by omega) h63 hbytes (fun v' w' h2 h3 => by
          obtain ⟨g', cap', rfl, hg, _⟩ := h2.form (by omega)
          exact h g' cap' w' (own_lower h2 hbase) (.inr (by omega)) (.inr h3))

/-! A list with one more put in, in three appends to a row of one's own. -/
def Row (e : TypeId) (sz base n : Nat) (xs : List Value) (v : Value) (w : World) : Prop :=
  ∃ g cap, v = .slice (some ⟨g, 0, none⟩) n cap ∧ w.ownsRow base e sz (.slice (some ⟨g, 0, none⟩) n cap) n xs ∧ (n = 0 → cap = 0)
theorem Row.below {e : TypeId} {sz base n : Nat} {xs : List Value} {v : Value} {w w' : World} (h : Row e sz base n xs v w) (hb : Below w.heap.size w w') : Row e sz base n xs v w' := by
  obtain ⟨g, cap, e1, h1, h2⟩ := h
  refine ⟨g, cap, e1, ⟨h1.1, ?_⟩, h2⟩
  rcases h1.2 with ⟨he, _⟩ | ⟨g', cap', cur, he, hbg, hg, h3⟩
  · cases he
  · refine .inr ⟨g', cap', cur, he, hbg, ?_, h3⟩
    have hlt : g' < w.heap.size := by
      rcases Nat.lt_or_ge g' w.heap.size with h | h
      · exact h
      · rw [Array.getElem?_eq_none h] at hg; cases hg
    exact (hb.block g' hlt).trans hg
def PutG (e : TypeId) (sz base a len : Nat) (xs1 xs2 xs3 : List Value) : Nat → Value → World → Prop
  | 0 => fun _ _ => True
  | 1 => Row e sz base 0 []
  | 2 => Row e sz base a xs1
  | 3 => Row e sz base (a + 1) (xs1 ++ xs2)
  | _ => Row e sz base (len + 1) (xs1 ++ xs2 ++ xs3)
theorem PutG.below {e : TypeId} {sz base a len : Nat} {xs1 xs2 xs3 : List Value} : ∀ {t : Nat} {v : Value} {w w' : World}, Below w.heap.size w w' → PutG e sz base a len xs1 xs2 xs3 t v w → PutG e sz base a len xs1 xs2 xs3 t v w'
  | 0, _, _, _, _, _ => trivial
  | 1, _, _, _, hb, h => Row.below h hb
  | 2, _, _, _, hb, h => Row.below h hb
  | 3, _, _, _, hb, h => Row.below h hb
  | _ + 4, _, _, _, hb, h => Row.below h hb
theorem row_step {P : Program} {ops : Array Oper} {o : Oper} {a : Act} {w w0 : World} {K : Act → World → Prop} {Q : Exit → Act → World → Prop} {E : Prop} (hgd : o.guard = none) (s x : Operand) (t : TypeId)
    (ho : o.op = .call { callee := .builtin .append, args := #[s, x], argTypes := #[t, t] })
    {base : Nat} {e : TypeId} {i : TypeInfo} {z : Value} {size : Nat} (bytes : Nat) (ht : P.underlying t = some (.slice e)) (hi : P.info? e = some i) (hz : i.zero = some z)
    (hsize : i.size = size) (hby : i.bytes = bytes) (hzs : z.cells.size = size) (hsz : 0 < size)
    {v : Value} {n : Nat} {xs : List Value} (hr : Row e size base n xs v w) (hs : a.eval s = v)
    (ad : Addr) (m c : Nat) (news : List Value) (hx : a.eval x = .slice (some ad) m c) (hl : news.length = m * size) (hnews : ∀ j u, news[j]? = some u → w.cell? (ad.add j) = some u) (h1 : ∀ u ∈ news, u.oneCell' = true)
    (h63 : n + m ≤ maxLen) (hbytes : (n + m) * bytes ≤ 140737488355328) (hb : Below base w0 w) (hbase : base ≤ w.heap.size) (hne : n = 1 → 0 < m)
    (h : ∀ v' w', Below base w0 w' → Twelve size w w' → Row e size base (n + m) (xs ++ news) v' w' → K (a.put o.dst v') w') :
    if Region.wanted o (yielded ops a.tmps) = true then Oper.wp P o a w K Q else E := by
  obtain ⟨g, cap, rfl, hown, h0⟩ := hr
  exact step_append_put hgd s x t ho base e i z size bytes ht hi hz hsize hby hzs hsz g n cap xs hs hown ad m c news hx hl hnews h1 h63 hbytes hbase fun g' cap' w' r1 r2 r3 =>
    h _ w' (below_put hb hown hbase r3) (twelve_of hsz hown (fun hc he => by
      have := h0
      have := hne
      omega) r3) ⟨g', cap', rfl, r1, fun hz => by
        rcases r2 with r2 | r2
        · rw [r2]; exact h0 (by omega)
        · exact absurd hz r2⟩
def OneRow (e : TypeId) (cs : List Value) (v : Value) (w : World) : Prop := ∃ g, v = .slice (some ⟨g, 0, none⟩) 1 1 ∧ Blk w g e cs.toArray
theorem OneRow.stays {e : TypeId} {cs : List Value} {n : Nat} {v : Value} {w w' : World} (hn : cs.length = n) (hle : Below w.heap.size w w' ∨ Twelve n w w') (h : OneRow e cs v w) : OneRow e cs v w' := by
  obtain ⟨g, e1, hb⟩ := h
  rcases hle with hle | hle
  · exact ⟨g, e1, hb.below hle hb.lt⟩
  · exact ⟨g, e1, hle.2 g e _ (by simpa using hn) hb⟩
theorem OneRow.news {e : TypeId} {cs : List Value} {g : Nat} {w : World} (hb : Blk w g e cs.toArray) : ∀ j u, cs[j]? = some u → w.cell? ((⟨g, 0, none⟩ : Addr).add j) = some u := fun j u hu => by
  have hadd : (⟨g, 0, none⟩ : Addr).add j = ⟨g, j, none⟩ := by unfold Addr.add; split <;> simp_all
  rw [hadd, hb.cell j]
  simpa using hu

theorem twelve_alloc {n : Nat} (w : World) (o : Obj) : Twelve n w (w.alloc o) := ⟨by simp, fun _ _ _ _ hb => hb.alloc _⟩
theorem own_none {base sz : Nat} {e : TypeId} {w : World} (h : base ≤ w.heap.size) : (w.alloc (.cells #[] e)).ownsRow base e sz (.slice (some ⟨w.heap.size, 0, none⟩) 0 0) 0 [] :=
  ⟨by simp, .inr ⟨w.heap.size, 0, #[], rfl, h, Blk.new w e #[], Nat.le_refl _, Nat.zero_le _, by simp, by simp⟩⟩
theorem nodEl : Elem Tryz.prog 37 39 (.agg #[.int .i64 0, .string ⟨#[]⟩, .string ⟨#[]⟩, .int .i64 0, .bool false, .bool false, .string ⟨#[]⟩, .bool false, .bool false, .string ⟨#[]⟩, .slice none 0 0, .slice none 0 0]) 12 144 := .mk_ (by kernel_rfl) (by kernel_rfl) rfl (by decide)
theorem intEl2 : Elem Tryz.prog 23 3 (.int .i64 0) 1 8 := .mk_ (by kernel_rfl) (by kernel_rfl) rfl (by decide)
theorem nval_one {w : World} {B : Nat} {cs : List Value} {q : Nod} (h : NVal w B cs q) : ∀ u ∈ cs, u.oneCell' = true := by
  cases h with
  | mk hd ks A1 A2 c1 c2 kc hw hk h1 h2 h3 =>
    intro u hu
    simp only [List.mem_cons, List.not_mem_nil, or_false] at hu
    rcases hu with rfl | rfl | rfl | rfl | rfl | rfl | rfl | rfl | rfl | rfl | rfl | rfl <;> rfl
def fl (kc : Nat → List Value) : Nat → Nat → List Value
  | _, 0 => []
  | p, n + 1 => kc p ++ fl kc (p + 1) n
theorem fl_len {kc : Nat → List Value} {sz : Nat} : ∀ (n p : Nat), (∀ i, p ≤ i → i < p + n → (kc i).length = sz) → (fl kc p n).length = n * sz
  | 0, p, _ => by simp [fl]
  | n + 1, p, h => by
    simp only [fl, List.length_append]
    rw [h p (Nat.le_refl _) (by omega), fl_len n (p + 1) fun i h1 h2 => h i (by omega) (by omega), Nat.succ_mul]
    omega
theorem fl_congr {kc kc' : Nat → List Value} : ∀ (n p q : Nat), (∀ i, i < n → kc (p + i) = kc' (q + i)) → fl kc p n = fl kc' q n
  | 0, _, _, _ => rfl
  | n + 1, p, q, h => by
    simp only [fl]
    rw [show kc p = kc' q from h 0 (by omega), fl_congr n (p + 1) (q + 1) fun i hi => by
      have := h (i + 1) (by omega)
      rw [show p + (i + 1) = p + 1 + i by omega, show q + (i + 1) = q + 1 + i by omega] at this
      exact this]
theorem fl_add (kc : Nat → List Value) : ∀ (n m p : Nat), fl kc p (n + m) = fl kc p n ++ fl kc (p + n) m
  | 0, m, p => by simp [fl]
  | n + 1, m, p => by
    rw [show n + 1 + m = (n + m) + 1 by omega]
    simp only [fl]
    rw [fl_add kc n m (p + 1), List.append_assoc, show p + 1 + n = p + (n + 1) by omega]
theorem fl_at {kc : Nat → List Value} {sz : Nat} : ∀ (n p k j : Nat), (∀ i, p ≤ i → i < p + n → (kc i).length = sz) → k < n → j < sz → (fl kc p n)[k * sz + j]? = (kc (p + k))[j]?
  | n + 1, p, 0, j, h, _, hj => by
    simp only [fl]
    rw [List.getElem?_append_left (by rw [h p (Nat.le_refl _) (by omega)]; omega), Nat.zero_mul, Nat.zero_add]
    rfl
  | n + 1, p, k + 1, j, h, hk, hj => by
    simp only [fl]
    have e : (k + 1) * sz = k * sz + sz := Nat.succ_mul _ _
    rw [List.getElem?_append_right (by rw [h p (Nat.le_refl _) (by omega), e]; omega), h p (Nat.le_refl _) (by omega), show (k + 1) * sz + j - sz = k * sz + j by omega, fl_at n (p + 1) k j (fun i h1 h2 => h i (by omega) (by omega)) (by omega) hj, show p + 1 + k = p + (k + 1) by omega]
theorem fl_one {kc : Nat → List Value} : ∀ (n p : Nat), (∀ i, p ≤ i → i < p + n → ∀ u ∈ kc i, u.oneCell' = true) → ∀ u ∈ fl kc p n, u.oneCell' = true
  | 0, p, _, u, hu => by cases hu
  | n + 1, p, h, u, hu => by
    simp only [fl, List.mem_append] at hu
    rcases hu with hu | hu
    · exact h p (Nat.le_refl _) (by omega) u hu
    · exact fl_one n (p + 1) (fun i h1 h2 => h i (by omega) (by omega)) u hu
theorem fl_news {kc : Nat → List Value} {sz n p g o : Nat} {w : World} (hsz : 0 < sz) (hl : ∀ i, p ≤ i → i < p + n → (kc i).length = sz) (hc : ∀ i, p ≤ i → i < p + n → ∀ j u, (kc i)[j]? = some u → w.cell? ⟨g, o + i * sz + j, none⟩ = some u) :
    ∀ j u, (fl kc p n)[j]? = some u → w.cell? ((⟨g, o + p * sz, none⟩ : Addr).add j) = some u := fun j u hu => by
  have hadd : (⟨g, o + p * sz, none⟩ : Addr).add j = ⟨g, o + p * sz + j, none⟩ := by
    unfold Addr.add
    by_cases h : j = 0
    · subst h; simp
    · simp [h]
  have hj := (List.getElem?_eq_some_iff.1 hu).1
  rw [fl_len n p hl] at hj
  have hj2 : j / sz < n := (Nat.div_lt_iff_lt_mul hsz).2 hj
  have hjm : j / sz * sz + j % sz = j := by rw [Nat.mul_comm]; exact Nat.div_add_mod j sz
  have h2 := fl_at n p (j / sz) (j % sz) hl hj2 (Nat.mod_lt _ hsz)
  rw [hjm, hu] at h2
  have h3 := hc (p + j / sz) (Nat.le_add_right ..) (Nat.add_lt_add_left hj2 p) (j % sz) u h2.symm
  rw [hadd, ← h3]
  congr 2
  rw [Nat.add_mul]
  omega
def putC (kc : Nat → List Value) (x : List Value) (a i : Nat) : List Value := if i < a then kc i else if i = a then x else kc (i - 1)
theorem put_fl {kc : Nat → List Value} {x : List Value} {a len : Nat} (ha : a ≤ len) : fl kc 0 a ++ x ++ fl kc a (len - a) = fl (putC kc x a) 0 (len + 1) := by
  rw [show len + 1 = a + (1 + (len - a)) by omega, fl_add, fl_add, ← List.append_assoc, Nat.zero_add]
  congr 1
  · congr 1
    · exact fl_congr a 0 0 fun i hi => by unfold putC; rw [if_pos (by omega)]
    · show x = putC kc x a a ++ []
      unfold putC
      rw [if_neg (by omega), if_pos rfl, List.append_nil]
  · exact fl_congr (len - a) a (a + 1) fun i hi => by
      unfold putC
      rw [if_neg (by omega), if_neg (by omega), show a + 1 + i - 1 = a + i by omega]
theorem put_cells {kc : Nat → List Value} {x : List Value} {sz a len g cap base : Nat} {e : TypeId} {w : World} (hsz : 0 < sz) (ha : a ≤ len) (hl : ∀ i, i < len → (kc i).length = sz) (hx : x.length = sz)
    (h : w.ownsRow base e sz (.slice (some ⟨g, 0, none⟩) (len + 1) cap) (len + 1) (fl kc 0 a ++ x ++ fl kc a (len - a))) : ∀ i, i < len + 1 → ∀ j u, (putC kc x a i)[j]? = some u → w.cell? ⟨g, 0 + i * sz + j, none⟩ = some u := fun i hi j u hu => by
  rw [put_fl ha] at h
  have hpl : ∀ k, 0 ≤ k → k < 0 + (len + 1) → (putC kc x a k).length = sz := fun k _ hk => by
    unfold putC
    split
    · exact hl k (by omega)
    · split
      · exact hx
      · exact hl _ (by omega)
  have hj : j < sz := by have := (List.getElem?_eq_some_iff.1 hu).1; rw [hpl i (Nat.zero_le _) (by omega)] at this; exact this
  have h2 := fl_at (len + 1) 0 i j hpl hi hj
  rw [Nat.zero_add, hu] at h2
  have h3 := h.cells (g := g) rfl (i * sz + j) u h2
  have hadd : (⟨g, 0, none⟩ : Addr).add (i * sz + j) = ⟨g, 0 + i * sz + j, none⟩ := by
    unfold Addr.add
    by_cases h : i * sz + j = 0
    · rw [if_pos h, show 0 + i * sz + j = 0 by omega]
    · rw [if_neg h, show 0 + i * sz + j = 0 + (i * sz + j) by omega]
  rw [← hadd]
  exact h3
theorem put_get {ks : List Nod} {x : Nod} {a : Nat} (ha : a ≤ ks.length) (i : Nat) : (ks.take a ++ x :: ks.drop a)[i]? = if i < a then ks[i]? else if i = a then some x else ks[i - 1]? := by
  by_cases h1 : i < a
  · rw [if_pos h1, List.getElem?_append_left (by rw [List.length_take]; omega), List.getElem?_take_of_lt h1]
  · rw [if_neg h1, List.getElem?_append_right (by rw [List.length_take]; omega), List.length_take]
    by_cases h2 : i = a
    · rw [if_pos h2, show i - min a ks.length = 0 by omega]
      rfl
    · rw [if_neg h2, show i - min a ks.length = (i - a - 1) + 1 by omega, List.getElem?_cons_succ, List.getElem?_drop]
      congr 1
      omega
end Go.Proofs.YtkcfgcdlnojaeaaGreatDoor.PutBase
