/-
  Small laws over any program: rows of bytes that the call owns.
-/
import Derived.PlainAid
import Derived.WalkKit
import Derived.Handy
import Derived.Lib.Hide
import Derived.Outline
import Derived.WalkLawsBesides
import Derived.WalkSpells
import Derived.BigGuardPart
import Derived.Laws.IdiomStrings
namespace Go.Proofs.Ytnlgenjfijpcpaa.Base
open Go.RowKit Go.PlainAid

/-- A list of bytes as cells. -/
def byteCells (l : List UInt8) : List Value := l.map fun b => .int .u8 b.toNat

theorem run_string_own {P : Program} {w : World} {base : Nat} {S B E : TypeId} {v : Value} {n : Nat} {l : List UInt8} (h1 : P.underlying B = some (.slice E)) (h2 : P.underlying E = some (.int .u8)) (h3 : P.underlying S = some .string)
    (h : w.ownsRow base E 1 v n (byteCells l)) : (convert B S v).run P w = .ok (.string ⟨l.toArray⟩) w := by
  have hl : l.length = n := by have := h.1; simpa [byteCells] using this
  rcases h.2 with ⟨rfl, rfl⟩ | ⟨g, cap, cur, rfl, hb, hg, hnc, hcm, hcs, htake⟩
  · have : l = [] := List.eq_nil_of_length_eq_zero hl
    subst this
    rw [run_convert_bytes_string w B S E none 0 0 h1 h2 h3]
    simp [Conv.bytesToString, loadCells, loadCellsFrom, ByteArray.empty, ByteArray.emptyWithCapacity]
    rfl
  · subst hl
    exact run_convert_bytes_back w B S E ⟨g, 0, none⟩ cap l h1 h2 h3 (fun j hj => h.cells (g := g) rfl j _ (by simp [byteCells, hj]))

/-- What an append asks of the element's type. -/
def Elem (P : Program) (t e : TypeId) (z : Value) (size bytes : Nat) : Prop :=
  P.underlying t = some (.slice e) ∧ (∃ i, P.info? e = some i ∧ i.zero = some z ∧ i.size = size ∧ i.bytes = bytes) ∧ z.cells.size = size ∧ 0 < size

theorem Elem.mk_ {P : Program} {t e : TypeId} {z : Value} {size bytes : Nat} (h : P.underlying t = some (.slice e)) (hi : (P.info? e).map (fun i => (i.zero, i.size, i.bytes)) = some (some z, size, bytes))
    (hz : z.cells.size = size) (hs : 0 < size) : Elem P t e z size bytes := ⟨h, info_parts hi, hz, hs⟩

section
variable {P : Program} {base : Nat} {t e : TypeId} {z : Value} {size bytes : Nat}

theorem below_own {w0 wr w' : World} {v : Value} {n : Nat} {xs : List Value} (hb : Below base w0 wr) (hown : wr.ownsRow base e size v n xs) (hbase : base ≤ wr.heap.size) (hg : wr.grownBy w' v.ownBlock) : Below base w0 w' :=
  hb.grown hg hbase fun k hk => (hown.lt k hk).1

/-- 'append(out, x)' of ONE element whose cells lie in the block just made. -/
theorem wpList_append1 {wr : World} {ops : Array Oper} {rest : List Oper} {o : Oper} {a : Act} {Q : Exit → Act → World → Prop} (hgd : o.guard = none) (s x : Operand)
    (ho : o.op = .call { callee := .builtin .append, args := #[s, x], argTypes := #[t, t] })
    (I : Elem P t e z size bytes) {v : Value} {n : Nat} {xs : List Value} (hown : wr.ownsRow base e size v n xs) (hs : a.eval s = v)
    {cs : Array Value} (hx : a.eval x = .slice (some ⟨wr.heap.size, 0, none⟩) 1 1) (hl : cs.size = size) (h1 : cs.toList.all Value.oneCell' = true)
    (hbytes : (n + 1) * bytes ≤ 140737488355328) (h63 : n + 1 ≤ maxLen) (hbase : base ≤ wr.heap.size)
    (h : ∀ v' w', w'.ownsRow base e size v' (n + 1) (xs ++ cs.toList) → wr.grownBy w' v.ownBlock → (∀ w0, Below base w0 wr → Below base w0 w') → wpList P ops Q rest (a.put o.dst v') w') :
    wpList P ops Q (o :: rest) a (wr.alloc (.cells cs e)) := by
  obtain ⟨ht, ⟨i, hi, hz, hsz, hby⟩, hzs, hpos⟩ := I
  refine wpList_append_own _ hgd s x t ho base e i z size bytes ht hi hz hsz hby hzs hpos v n xs hs (hown.alloc _) ⟨wr.heap.size, 0, none⟩ 1 1 cs.toList hx (by simpa using hl) ?_ ?_ h63 hbytes (by simp; omega) ?_
  · intro j u hu
    rw [Addr.add_lit, World.cell?_alloc_mark, Nat.zero_add]
    simpa using hu
  · intro u hu
    exact (List.all_eq_true.1 h1) u hu
  · intro v' w' hown' hg _
    have hg' : wr.grownBy w' v.ownBlock :=
      ⟨hg.os, hg.tape, hg.output, by have := hg.size; simp at this; omega, fun k hk hne => (hg.block k (by simp; omega) hne).trans (Below.heap_alloc wr _ k hk)⟩
    exact h v' w' hown' hg' fun w0 hb => below_own hb hown hbase hg'
end

end Go.Proofs.Ytnlgenjfijpcpaa.Base
