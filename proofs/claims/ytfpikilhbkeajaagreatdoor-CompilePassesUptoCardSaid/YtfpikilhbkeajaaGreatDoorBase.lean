/-
  Small laws over any program: rows of bytes that the call owns.
-/
import Derived.PlainAid
import Derived.WalkKit
import Derived.Handy
import Derived.Lib.Hide
import Derived.Outline
import Derived.WalkLawsBesides
import Derived.WalkSpells
import Derived.BigGuardPart
import Derived.Laws.IdiomStrings
import Derived.Deep.QuietTactic
import Derived.BigQuiet
set_option linter.unusedVariables false
set_option linter.unusedSimpArgs false
namespace Go.Proofs.YtfpikilhbkeajaaGreatDoor.Base
open Go.RowKit Go.PlainAid

def byteCells (l : List UInt8) : List Value := l.map fun b => .int .u8 b.toNat

theorem run_string_own {P : Program} {w : World} {base : Nat} {S B E : TypeId} {v : Value} {n : Nat} {l : List UInt8} (h1 : P.underlying B = some (.slice E)) (h2 : P.underlying E = some (.int .u8)) (h3 : P.underlying S = some .string)
    (h : w.ownsRow base E 1 v n (byteCells l)) : (convert B S v).run P w = .ok (.string ⟨l.toArray⟩) w := by
  have hl : l.length = n := by have := h.1; simpa [byteCells] using this
  rcases h.2 with ⟨rfl, rfl⟩ | ⟨g, cap, cur, rfl, hb, hg, hnc, hcm, hcs, htake⟩
  · have : l = [] := List.eq_nil_of_length_eq_zero hl
    subst this
    rw [run_convert_bytes_string w B S E none 0 0 h1 h2 h3]
    simp [Conv.bytesToString]
    rfl
  · subst hl
    exact run_convert_bytes_back w B S E ⟨g, 0, none⟩ cap l h1 h2 h3 (fun j hj => h.cells (g := g) rfl j _ (by simp [byteCells, hj]))

def Elem (P : Program) (t e : TypeId) (z : Value) (size bytes : Nat) : Prop :=
  P.underlying t = some (.slice e) ∧ (∃ i, P.info? e = some i ∧ i.zero = some z ∧ i.size = size ∧ i.bytes = bytes) ∧ z.cells.size = size ∧ 0 < size

theorem Elem.mk_ {P : Program} {t e : TypeId} {z : Value} {size bytes : Nat} (h : P.underlying t = some (.slice e)) (hi : (P.info? e).map (fun i => (i.zero, i.size, i.bytes)) = some (some z, size, bytes))
    (hz : z.cells.size = size) (hs : 0 < size) : Elem P t e z size bytes := ⟨h, info_parts hi, hz, hs⟩

section
variable {P : Program} {base : Nat} {t e : TypeId} {z : Value} {size bytes : Nat}

theorem below_own {w0 wr w' : World} {v : Value} {n : Nat} {xs : List Value} (hb : Below base w0 wr) (hown : wr.ownsRow base e size v n xs) (hbase : base ≤ wr.heap.size) (hg : wr.grownBy w' v.ownBlock) : Below base w0 w' :=
  hb.grown hg hbase fun k hk => (hown.lt k hk).1

theorem wpList_append1 {wr : World} {ops : Array Oper} {rest : List Oper} {o : Oper} {a : Act} {Q : Exit → Act → World → Prop} (hgd : o.guard = none) (s x : Operand)
    (ho : o.op = .call { callee := .builtin .append, args := #[s, x], argTypes := #[t, t] })
    (I : Elem P t e z size bytes) {v : Value} {n : Nat} {xs : List Value} (hown : wr.ownsRow base e size v n xs) (hs : a.eval s = v)
    {cs : Array Value} (hx : a.eval x = .slice (some ⟨wr.heap.size, 0, none⟩) 1 1) (hl : cs.size = size) (h1 : cs.toList.all Value.oneCell' = true)
    (hbytes : (n + 1) * bytes ≤ 140737488355328) (h63 : n + 1 ≤ maxLen) (hbase : base ≤ wr.heap.size)
    (h : ∀ v' w', w'.ownsRow base e size v' (n + 1) (xs ++ cs.toList) → wr.grownBy w' v.ownBlock → (∀ w0, Below base w0 wr → Below base w0 w') → wpList P ops Q rest (a.put o.dst v') w') :
    wpList P ops Q (o :: rest) a (wr.alloc (.cells cs e)) := by
  obtain ⟨ht, ⟨i, hi, hz, hsz, hby⟩, hzs, hpos⟩ := I
  refine wpList_append_own _ hgd s x t ho base e i z size bytes ht hi hz hsz hby hzs hpos v n xs hs (hown.alloc _) ⟨wr.heap.size, 0, none⟩ 1 1 cs.toList hx (by simpa using hl) ?_ ?_ h63 hbytes (by simp; omega) ?_
  · intro j u hu
    rw [Addr.add_lit, World.cell?_alloc_mark, Nat.zero_add]
    simpa using hu
  · intro u hu
    exact (List.all_eq_true.1 h1) u hu
  · intro v' w' hown' hg _
    have hg' : wr.grownBy w' v.ownBlock :=
      ⟨hg.os, hg.tape, hg.output, by have := hg.size; simp at this; omega, fun k hk hne => (hg.block k (by simp; omega) hne).trans (Below.heap_alloc wr _ k hk)⟩
    exact h v' w' hown' hg' fun w0 hb => below_own hb hown hbase hg'
end

theorem own_slice {w : World} {base : Nat} {e : TypeId} {size : Nat} {v : Value} {n : Nat} {xs : List Value} (h : w.ownsRow base e size v n xs) : ∃ A c, v = .slice A n c := by
  rcases h.2 with ⟨rfl, rfl⟩ | ⟨g, cap, cur, rfl, _⟩
  · exact ⟨_, _, rfl⟩
  · exact ⟨_, _, rfl⟩

theorem own_below {w w' : World} {base : Nat} {e : TypeId} {size : Nat} {v : Value} {n : Nat} {xs : List Value} (h : w.ownsRow base e size v n xs) (hb : Below w.heap.size w w') : w'.ownsRow base e size v n xs :=
  h.kept (row := none) ⟨hb.os, hb.tape, hb.output, hb.size, fun k hk _ => hb.block k hk⟩ (by cases v.ownBlock <;> simp)

theorem below_drewN {w : World} (B n : Nat) : Below B w (w.drewN n) := ⟨rfl, rfl, rfl, Nat.le_refl _, fun _ _ => rfl⟩

def Slc (w : World) (B : Nat) (A : Option Addr) (xs : List Value) : Prop :=
  xs ≠ [] → ∃ g o, A = some ⟨g, o, none⟩ ∧ g < B ∧ ∀ j u, xs[j]? = some u → w.cell? ⟨g, o + j, none⟩ = some u

section
variable {w w' : World} {B B' : Nat} {A : Option Addr} {xs : List Value}
theorem Slc.nil (A : Option Addr) : Slc w B A [] := fun h => absurd rfl h
theorem Slc.below (h : Slc w B A xs) (hb : Below B' w w') (hB : B ≤ B') : Slc w' B A xs := fun hx => by
  obtain ⟨g, o, e, hg, hc⟩ := h hx
  exact ⟨g, o, e, hg, fun j u hu => (hb.cell (p := ⟨g, o + j, none⟩) (show g < B' by omega)).trans (hc j u hu)⟩
theorem Slc.mono (h : Slc w B A xs) (hB : B ≤ B') : Slc w B' A xs := fun hx => by
  obtain ⟨g, o, e, hg, hc⟩ := h hx
  exact ⟨g, o, e, by omega, hc⟩
theorem Slc.drewN (h : Slc w B A xs) (n : Nat) : Slc (w.drewN n) B A xs := h
theorem slc_own {base : Nat} {e : TypeId} {size n : Nat} {A : Option Addr} {c : Nat} (h : w.ownsRow base e size (.slice A n c) n xs) : Slc w w.heap.size A xs := fun hx => by
  rcases h.2 with ⟨h', rfl⟩ | ⟨g, cap, cur, h', _, hg, _⟩
  · have := h.1
    simp at this
    exact absurd this hx
  · have hh := h.cells (g := g) (by rw [h']; rfl)
    simp only [Value.slice.injEq] at h'
    obtain ⟨rfl, _, rfl⟩ := h'
    have hlt : g < w.heap.size := (Array.getElem?_eq_some_iff.1 hg).1
    refine ⟨g, 0, rfl, hlt, fun j u hu => ?_⟩
    have := hh j u hu
    rw [Addr.add_lit] at this
    exact this
end

theorem Slc.at_ {w : World} {B : Nat} {A : Option Addr} {n : Nat} {f : Nat → Value} (h : Slc w B A ((List.range n).map f)) (hn : 0 < n) :
    ∃ g o, A = some ⟨g, o, none⟩ ∧ g < B ∧ ∀ j, j < n → w.cell? ⟨g, o + j, none⟩ = some (f j) := by
  obtain ⟨g, o, e, hg, hc⟩ := h (by intro hx; have := congrArg List.length hx; simp at this; omega)
  exact ⟨g, o, e, hg, fun j hj => hc j _ (by simp [hj])⟩

theorem slc_new (w : World) (cs : Array Value) (t : TypeId) : Slc (w.alloc (.cells cs t)) (w.heap.size + 1) (some ⟨w.heap.size, 0, none⟩) cs.toList := fun _ =>
  ⟨w.heap.size, 0, rfl, by omega, fun j u hu => by
    rw [World.cell?_alloc_mark, Nat.zero_add]
    simpa using hu⟩

structure Bw (B : Nat) (w : World) where
  at_ : World
  below : Below B w at_

instance (B : Nat) (w : World) : Nonempty (Bw B w) := ⟨⟨w, Below.refl _ _⟩⟩

section
variable {P : Program} {B : Nat} {w : World}

theorem wp_region_bw (B : Nat) {id : Nat} {Q : Exit → Act → World → Prop} {a : Act} {l : List Oper} (hm : P.follows .mixedOrders = true) (hB : Region.lexB .any l.toArray = true)
    (h : wpQuiet P l.toArray (fun w' => ∃ b : Bw B w, w' = b.at_) (fun a' => ∀ w', (∃ b : Bw B w, w' = b.at_) → Q .normal a' w') l a) : (Code.region id l.toArray true).wp P Q a w :=
  wp_region_quiet (C := fun w' => ∃ b : Bw B w, w' = b.at_) hm hB ⟨⟨{ w with drawn := w.drawn + 1 }, ⟨rfl, rfl, rfl, Nat.le_refl _, fun _ _ => rfl⟩⟩, rfl⟩ (by simpa using h)

theorem calls_bw {f : FuncId} {args : Array Value} {b : Bw B w} {v : Value} (hB : B ≤ w.heap.size) (h : Calls P f args b.at_ fun e w' => e = .returned v ∧ Below b.at_.heap.size b.at_ w') :
    Calls P f args b.at_ fun e w'' => e = .returned v ∧ ∃ b' : Bw B w, w'' = b'.at_ :=
  h.mono fun _ w' ⟨he, hw⟩ => ⟨he, ⟨w', b.below.trans (hw.mono (Nat.le_trans hB b.below.size))⟩, rfl⟩

theorem calls_bw_same {f : FuncId} {args : Array Value} {b : Bw B w} {v : Value} (h : Calls P f args b.at_ fun e w' => e = .returned v ∧ w' = b.at_) :
    Calls P f args b.at_ fun e w'' => e = .returned v ∧ ∃ b' : Bw B w, w'' = b'.at_ :=
  h.mono fun _ _ ⟨he, hw⟩ => ⟨he, b, hw⟩

theorem Bw.cell {p : Addr} {v : Value} (h : w.cell? p = some v) (hp : p.block < B) : ∀ b : Bw B w, b.at_.cell? p = some v := fun b => (b.below.cell hp).trans h
end

theorem bchain {a b c : World} (h : Below a.heap.size a b) (k : Below b.heap.size b c) : Below a.heap.size a c := h.trans (k.mono h.size)
theorem balloc {a b : World} (h : Below a.heap.size a b) (o : Obj) : Below a.heap.size a (b.alloc o) := h.alloc h.size o
theorem bdrew {a b : World} (h : Below a.heap.size a b) : Below a.heap.size a b.drew := h.drew
theorem bdrewN {a b : World} (h : Below a.heap.size a b) (n : Nat) : Below a.heap.size a (b.drewN n) := ⟨h.os, h.tape, h.output, h.size, h.block⟩
theorem bel {a b : World} (h : Below a.heap.size a b := by (repeat (first | exact Below.refl _ _ | assumption | refine balloc ?_ _ | refine bdrew ?_ | refine bdrewN ?_ _ | refine bchain ?_ (by assumption)))) : Below a.heap.size a b := h

def Blk (w : World) (g : Nat) (t : TypeId) (cs : Array Value) : Prop := w.heap[g]? = some (.cells cs t (0, 0))

section
variable {w w' : World} {g : Nat} {t : TypeId} {cs : Array Value}
theorem Blk.lt (h : Blk w g t cs) : g < w.heap.size := by
  rcases Nat.lt_or_ge g w.heap.size with hlt | hge
  · exact hlt
  · unfold Blk at h; rw [Array.getElem?_eq_none hge] at h; cases h
theorem Blk.cell (h : Blk w g t cs) (i : Nat) : w.cell? ⟨g, i, none⟩ = cs[i]? := cell_of_row w g i cs t (0, 0) h
theorem Blk.frozen (h : Blk w g t cs) (i : Nat) : w.frozen? ⟨g, i, none⟩ = false := by
  unfold Blk at h
  simp [World.frozen?, h]
theorem Blk.new (w : World) (t : TypeId) (cs : Array Value) : Blk (w.alloc (.cells cs t)) w.heap.size t cs := heap_alloc_new w _
theorem Blk.drew (h : Blk w g t cs) : Blk w.drew g t cs := h
theorem Blk.drewN (h : Blk w g t cs) (n : Nat) : Blk (w.drewN n) g t cs := h
theorem Blk.alloc (h : Blk w g t cs) (o : Obj) : Blk (w.alloc o) g t cs := (Below.heap_alloc w o g h.lt).trans h
theorem Blk.set_ (h : Blk w g t cs) (i : Nat) (u : Value) : Blk (w.setCell ⟨g, i, none⟩ u) g t (cs.setIfInBounds i u) := by
  unfold Blk at h ⊢
  simp [World.setCell, Array.getElem?_modify, h]
theorem Blk.far (h : Blk w g t cs) {p : Addr} (hp : g ≠ p.block) (u : Value) : Blk (w.setCell p u) g t cs := (Below.heap_setCell w p u g hp).trans h
theorem Blk.below {B : Nat} (h : Blk w g t cs) (hb : Below B w w') (hg : g < B) : Blk w' g t cs := (hb.block g hg).trans h
theorem Blk.grown {row : Option Nat} (h : Blk w g t cs) (hb : w.grownBy w' row) (hg : some g ≠ row) : Blk w' g t cs := (hb.block g h.lt hg).trans h
end

theorem s1 {α : Type} (l : List α) (i : Nat) (a : α) : l.toArray.setIfInBounds i a = (l.set i a).toArray := by simp
theorem s2 {α : Type} (a b : α) (l : List α) : (a :: l).set 0 b = b :: l := rfl
theorem s3 {α : Type} (a b : α) (l : List α) (n : Nat) : (a :: l).set (n + 1) b = a :: l.set n b := rfl
end Go.Proofs.YtfpikilhbkeajaaGreatDoor.Base
