/-
  The walk of concordlaw16.BindVanishes.
-/
import Derived.Test.YtkcfgcdlnojaeaaGreatDoorDVanH
set_option linter.unusedVariables false
set_option linter.unusedSimpArgs false
namespace Go.Proofs.YtkcfgcdlnojaeaaGreatDoor.BindVanishesWalk
set_option maxRecDepth 100000
open Go.RowKit Go.PlainAid Base Query NodeTree NodePlain OpenField FieldPlain SchemaCheck MemOf Small KeepsAny

theorem walk (fs : List Fld) (fgo : Option Addr) (c B B0 : Nat) (q : Nod) (csn : List Value) (field : Int) (T : ByteArray) (at_ oc : Int) (a1 a2 : Addr) (w : World) (m : Mem fs fgo B0 a1 a2 w) (hlen : fs.length ≤ 1099511627776) (hnm : ∀ f ∈ fs, f.nm.size ≤ 9223372036854775807) (hn : NVal w B csn q) (hcap : Caps csn) (hB : B ≤ w.heap.size) (hbk : q.bulk ≤ 1048576) (hs : T.size ≤ 1048576) (hbk2 : ∀ f ∈ fs, 2 * (f.nm.size + T.size) + q.bulk + 10 ≤ 2097152) :
    Calls Tryz.prog 7 #[.agg #[.slice fgo fs.length c], .agg csn.toArray, .int .i64 field, .string T, .int .i64 at_, .int .i64 oc] w fun e w' => e = .returned (.bool true) ∧ Below w.heap.size w w' := by
  obtain ⟨nk, nf, nT, nn, nR, ex⟩ := nod_cells hn
  obtain rfl : csn = [.int .i64 nk, .string nf, .string nT, .int .i64 nn, .bool nR.lo.op, .bool nR.lo.inn, .string nR.lo.text, .bool nR.hi.op, .bool nR.hi.inn, .string nR.hi.text, .slice nR.A1 nR.n1 nR.c1, .slice nR.A2 nR.n2 nR.c2] := by have := congrArg Array.toList ex; simpa [nodeV] using this
  have hcase : (schemaB fs = true ∧ nodB q = true ∧ 0 ≤ field ∧ field < (fs.length : Int)) ∨ (schemaB fs = false ∨ field < 0 ∨ (fs.length : Int) ≤ field ∨ nodB q = false) := by
    cases hb : schemaB fs
    · exact .inr (.inl rfl)
    · cases hq : nodB q
      · exact .inr (.inr (.inr (.inr rfl)))
      · rcases (by omega : (0 ≤ field ∧ field < (fs.length : Int)) ∨ (field < 0 ∨ (fs.length : Int) ≤ field)) with h | h
        · exact .inl ⟨rfl, rfl, h⟩
        · exact .inr (.inr (h.imp id .inl))
  rcases hcase with ⟨hg, gq, q1, q2⟩ | h
  · exact VanHead.late fs fgo c B B0 q nk nn nf nT nR field T at_ oc a1 a2 w m hlen hnm hn hB hbk hcap hs hbk2 hg q1 q2 gq
  · exact VanEarly.early fs fgo c B B0 q nk nn nf nT nR field T at_ oc a1 a2 w m hlen hnm hn hB hbk h
end Go.Proofs.YtkcfgcdlnojaeaaGreatDoor.BindVanishesWalk
