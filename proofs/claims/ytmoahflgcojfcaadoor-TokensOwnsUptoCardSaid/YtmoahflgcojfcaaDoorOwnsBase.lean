/-
  For TokensOwns: lists of tokens in blocks of their own; whole slices appended to an empty one.
-/
import Derived.Test.YtmoahflgcojfcaaDoorOutRow
import Derived.Test.YtmoahflgcojfcaaDoorDChains
import Derived.Test.YtmoahflgcojfcaaDoorFieldPlain
import Derived.Test.YtmoahflgcojfcaaDoorRel
namespace Go.Proofs.YtmoahflgcojfcaaDoor.OwnsBase
set_option maxRecDepth 100000
open Go.RowKit Go.PlainAid WordPlain WordsWalk Base App OutRow OfText OpenField FieldPlain

theorem valElem : Elem Tryd.prog 44 48 (.agg #[.string ⟨#[]⟩, .string ⟨#[]⟩]) 2 32 := .mk_ (by kernel_rfl) (by kernel_rfl) rfl (by decide)
theorem fldElem : Elem Tryd.prog 41 26 (.agg #[.string ⟨#[]⟩, .int .i64 0, .bool false, .bool false, .bool false]) 5 32 := .mk_ (by kernel_rfl) (by kernel_rfl) rfl (by decide)
theorem lstElem : Elem Tryd.prog 49 28 (.slice none 0 0) 1 24 := .mk_ (by kernel_rfl) (by kernel_rfl) rfl (by decide)

/-- Another block than those. -/
def Away (l : List Value) (v : Value) : Prop := ∀ u ∈ l, ∀ g, u.ownBlock = some g → v.ownBlock ≠ some g
theorem away_nil (v : Value) : Away [] v := fun _ h => by cases h
theorem away_cons {l : List Value} {u v : Value} {wx wy : World} {B s s' n n' : Nat} {e e' : TypeId} {xs ys : List Value} (hu : wx.ownsRow B e s u n xs) (hv : wy.ownsRow wx.heap.size e' s' v n' ys) (hl : Away l v) : Away (u :: l) v := by
  intro a ha g e1 e2
  rcases List.mem_cons.1 ha with rfl | h
  · have := (hu.lt g e1).2; have := (hv.lt g e2).1; omega
  · exact hl a h g e1 e2
/-- Tokens in a row of their own, in another block than those of l. -/
def OwnT (W : Nat) (K : List Tok) (l : List Value) : Rel.Fact := fun v wx => ∃ A c, v = .slice A K.length c ∧ wx.ownsRow W 32 5 v K.length (tokCells K) ∧ Away l v
theorem ownT_stable {W : Nat} {K : List Tok} : ∀ (l : List Value) (v : Value) (wa wb : World), Below wa.heap.size wa wb → OwnT W K l v wa → OwnT W K l v wb :=
  fun _ _ _ _ hab ⟨A, c, e, h, ha⟩ => ⟨A, c, e, own_below h hab, ha⟩

/-- A row of these four lists. -/
def RowT (l : List Value) : Rel.Fact := fun v wx => ∃ g, v = .slice (some ⟨g, 0, none⟩) 4 4 ∧ Blk wx g 28 l.toArray
theorem rowT_stable : ∀ (l : List Value) (v : Value) (wa wb : World), Below wa.heap.size wa wb → RowT l v wa → RowT l v wb :=
  fun _ _ _ _ hab ⟨g, e, h⟩ => ⟨g, e, h.below hab h.lt⟩

section
variable {P : Program} {t e : TypeId} {z : Value} {size bytes : Nat}
/-- 'append(T{}, xs...)': a new row. -/
theorem wpList_append_all {wr : World} {ops : Array Oper} {rest : List Oper} {o : Oper} {a : Act} {Q : Exit → Act → World → Prop} (hgd : o.guard = none) (s x : Operand)
    (ho : o.op = .call { callee := .builtin .append, args := #[s, x], argTypes := #[t, t] })
    (I : Elem P t e z size bytes) (hs : a.eval s = .slice (some ⟨wr.heap.size, 0, none⟩) 0 0) {A : Option Addr} {n c B : Nat} {xs : List Value} (hx : a.eval x = .slice A n c) (hn : xs.length = n * size) (hS : Slc wr B A xs) (hB : B ≤ wr.heap.size)
    (hnil : A = none → n = 0 ∧ c = 0) (h1 : ∀ u ∈ xs, u.oneCell' = true) (h63 : n ≤ maxLen) (hby : n * bytes ≤ 140737488355328)
    (h : ∀ v' w', w'.ownsRow wr.heap.size e size v' n xs → Below wr.heap.size wr w' → wpList P ops Q rest (a.put o.dst v') w') :
    wpList P ops Q (o :: rest) a (wr.alloc (.cells #[] e)) := by
  obtain ⟨ht, ⟨i, hi, hz, hsz, hbytes⟩, hzs, hpos⟩ := I
  have hoe : (wr.alloc (.cells #[] e)).ownsRow wr.heap.size e size (.slice (some ⟨wr.heap.size, 0, none⟩) 0 0) 0 [] := World.ownsRow_lit (e := e) (size := size) (base := wr.heap.size) wr #[] 0 (Nat.le_refl _) (by decide) (by simp)
  have low : ∀ {w' : World} {row : Option Nat}, (∀ k, row = some k → wr.heap.size ≤ k) → (wr.alloc (.cells #[] e)).grownBy w' row → Below wr.heap.size wr w' := fun {w' row} hr hg =>
    ⟨hg.os, hg.tape, hg.output, by have := hg.size; simp only [World.size_alloc] at this; omega, fun k hk => (hg.block k (by simp only [World.size_alloc]; omega) (fun e' => by have := hr k e'.symm; omega)).trans (Below.heap_alloc wr _ k hk)⟩
  cases A with
  | none =>
    obtain ⟨rfl, rfl⟩ := hnil rfl
    have : xs = [] := List.length_eq_zero_iff.1 (by simpa using hn)
    subst this
    refine wpList_append_fits_any _ hgd s x t ho wr.heap.size e i size ht hi hsz wr.heap.size 0 0 [] hs hoe none 0 0 [] hx (by simp) (fun _ => ⟨rfl, rfl⟩) (fun ad had => by cases had) (fun u hu => by cases hu) (by omega) ?_
    intro w' h2 h3
    exact h _ w' (by simpa using h2) (low (fun k e' => by cases e'; exact Nat.le_refl _) h3)
  | some ad =>
    refine wpList_append_own _ hgd s x t ho wr.heap.size e i z size bytes ht hi hz hsz hbytes hzs hpos _ 0 [] hs hoe ad n c xs hx hn (fun j u hu => ?_) h1 (by omega) (by rw [Nat.zero_add]; exact hby) (by simp only [World.size_alloc]; omega) ?_
    · obtain ⟨g, o', e', hg, hc⟩ := hS (by intro hnx; rw [hnx] at hu; simp at hu)
      cases e'
      rw [Addr.add_lit]
      exact (World.cell?_of_block (Below.heap_alloc wr _ g (by omega))).trans (hc j u hu)
    · intro v' w' h2 h3 _
      simp only [Nat.zero_add, List.nil_append] at h2
      exact h v' w' h2 (low (fun k e' => by simp [Value.ownBlock] at e'; omega) h3)
end

/-- 'wpList_append_lies' for a guarded operation that is carried out. -/
theorem wpList_append_liesG {P : Program} {w : World} {ops : Array Oper} {rest : List Oper} {o : Oper} {a : Act} {Q : Exit → Act → World → Prop} (hw : Region.wanted o (yielded ops a.tmps) = true) (s x : Operand) (t : TypeId)
    (ho : o.op = .call { callee := .builtin .append, args := #[s, x], argTypes := #[t, t] })
    (base : Nat) (e : TypeId) (i : TypeInfo) (z : Value) (size bytes : Nat) (ht : P.underlying t = some (.slice e)) (hi : P.info? e = some i) (hz : i.zero = some z)
    (hsize : i.size = size) (hby : i.bytes = bytes) (hzs : z.cells.size = size) (hsz : 0 < size)
    (v : Value) (n : Nat) (xs : List Value) (hs : a.eval s = v) (hown : w.ownsRow base e size v n xs)
    (ad : Addr) (m c : Nat) (news : List Value) (hx : a.eval x = .slice (some ad) m c) (hl : news.length = m * size) (hnews : ∀ j u, news[j]? = some u → w.cell? (ad.add j) = some u) (h1 : ∀ u ∈ news, u.oneCell' = true)
    (hm : 0 < m) (h63 : n + m ≤ maxLen) (hbytes : (n + m) * bytes ≤ 140737488355328) (hbase : base ≤ w.heap.size)
    (h : ∀ g cap w', w'.ownsRow base e size (.slice (some ⟨g, 0, none⟩) (n + m) cap) (n + m) (xs ++ news) → w.grownBy w' v.ownBlock → (v.ownBlock = some g ∨ g = w.heap.size) → g < w'.heap.size → wpList P ops Q rest (a.put o.dst (.slice (some ⟨g, 0, none⟩) (n + m) cap)) w') : wpList P ops Q (o :: rest) a w :=
  wpList_step fun _ hK => by
    rw [if_pos hw]
    exact wp_append_lies w s x t ho base e i z size bytes ht hi hz hsize hby hzs hsz v n xs hs hown ad m c news hx hl hnews h1 hm h63 hbytes hbase w.heap.size rfl fun g cap w' h2 h3 h4 h5 => hK _ _ (h g cap w' h2 h3 h4 h5)

/-- 'append(T{}, nothing...)'. -/
theorem step_append_none {P : Program} {w : World} {ops : Array Oper} {o : Oper} {a : Act} {K : Act → World → Prop} {Q : Exit → Act → World → Prop} {E : Prop} (hgd : o.guard = none) (s x : Operand) (t e : TypeId) (i : TypeInfo)
    (ho : o.op = .call { callee := .builtin .append, args := #[s, x], argTypes := #[t, t] }) (ht : P.underlying t = some (.slice e)) (hi : P.info? e = some i) {g b : Addr} {c : Nat} (hs : a.eval s = .slice (some g) 0 0) (hx : a.eval x = .slice (some b) 0 c)
    (hK : K (a.put o.dst (.slice (some g) 0 0)) w) : if Region.wanted o (yielded ops a.tmps) = true then Oper.wp P o a w K Q else E := by
  have hw : Region.wanted o (yielded ops a.tmps) = true := by simp [Region.wanted, hgd]
  rw [if_pos hw]
  have hrun : (Builtin.append_ #[t, t] o.type #[.slice (some g) 0 0, .slice (some b) 0 c]).run P w = .ok (.slice (some g) 0 0) w := by
    simp [Builtin.append_, run_underlying ht, sizeOf, typeInfo, hi, Builtin.lenOf, Builtin.firstCells, storeCells, loadCells, loadCellsFrom]
  unfold Oper.wp execOp
  simp only [ho, resolve, invoke, builtin, Sem.run_bind, Sem.run_pure, Result.andThen_ok, List.map_toArray, List.map_cons, List.map_nil, hs, hx, hrun]
  exact hK

/-- Rows of two kinds lie in two blocks. -/
theorem own_off {W : World} {B B' n m s s' : Nat} {e e' : TypeId} {u v : Value} {xs ys : List Value} {k : Nat} (h1 : W.ownsRow B e s u n xs) (h2 : W.ownsRow B' e' s' v m ys) (he : e ≠ e') (hk : v.ownBlock = some k) : u.ownBlock ≠ some k := by
  intro e0
  rcases h1.2 with ⟨rfl, _⟩ | ⟨g, c, cur, rfl, _, hg, _⟩
  · simp [Value.ownBlock] at e0
  · rcases h2.2 with ⟨rfl, _⟩ | ⟨g', c', cur', rfl, _, hg', _⟩
    · simp [Value.ownBlock] at hk
    · simp only [Value.ownBlock, Option.some.injEq] at e0 hk
      subst e0
      subst hk
      rw [hg] at hg'
      simp only [Option.some.injEq, Obj.cells.injEq] at hg'
      exact he hg'.2.1

theorem val_one (vs : List Val) : ∀ u ∈ valCells vs, u.oneCell' = true := by
  induction vs with
  | nil => intro u hu; cases hu
  | cons v r ih =>
    intro u hu
    simp only [valCells, List.mem_append] at hu
    rcases hu with hu | hu
    · simp only [valC, List.mem_cons, List.not_mem_nil, or_false] at hu
      rcases hu with rfl | rfl <;> rfl
    · exact ih u hu
theorem fld_one (fs : List Fld) : ∀ u ∈ fldCells fs, u.oneCell' = true := by
  induction fs with
  | nil => intro u hu; cases hu
  | cons v r ih =>
    intro u hu
    simp only [fldCells, List.mem_append] at hu
    rcases hu with hu | hu
    · simp only [fldC, List.mem_cons, List.not_mem_nil, or_false] at hu
      rcases hu with rfl | rfl | rfl | rfl | rfl <;> rfl
    · exact ih u hu
end Go.Proofs.YtmoahflgcojfcaaDoor.OwnsBase
