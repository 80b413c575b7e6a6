/-
  concordlaw16.keeps over any node: true.
-/
import Derived.Test.YtkcfgcdlnojaeaaGreatDoorKeepsWalk
set_option linter.unusedVariables false
set_option linter.unusedSimpArgs false
namespace Go.Proofs.YtkcfgcdlnojaeaaGreatDoor.KeepsAny
set_option maxRecDepth 100000
open Go.RowKit Go.PlainAid Base Query BindBase NodeTerm NodeTree NodePlain TextPlain NodeWalk NodeCheck TermCheck Binder WordPlain WordsWalk StopsWalk OfText OfAny WordsOne OpenField FieldPlain GoodName SchemaCheck WordsAny WordsMany LeafBase TreePlain BindTop MemOf Small VanPlain KeepsRest KeepsWalk

set_option maxHeartbeats 2000000 in
theorem keeps_out (fgo : Option Addr) (fl c : Nat) (nk nn : Int) (nf nT : ByteArray) (nR : NRest) (xq xn : Int) (xf xT : ByteArray) (xR : NRest) (at_ oc : Int) (w : World) (h : nk < 9 ∨ 12 < nk) :
    Calls Tryz.prog 36 #[.agg #[.slice fgo fl c], .agg #[.int .i64 nk, .string nf, .string nT, .int .i64 nn, .bool nR.lo.op, .bool nR.lo.inn, .string nR.lo.text, .bool nR.hi.op, .bool nR.hi.inn, .string nR.hi.text, .slice nR.A1 nR.n1 nR.c1, .slice nR.A2 nR.n2 nR.c2], .agg #[.int .i64 xq, .string xf, .string xT, .int .i64 xn, .bool xR.lo.op, .bool xR.lo.inn, .string xR.lo.text, .bool xR.hi.op, .bool xR.hi.inn, .string xR.hi.text, .slice xR.A1 xR.n1 xR.c1, .slice xR.A2 xR.n2 xR.c2], .int .i64 at_, .int .i64 oc] w fun e w' => e = .returned (.bool true) ∧ Below w.heap.size w w' := by
  obtain ⟨W3, hW3⟩ : ∃ W, W = ((w.alloc (.cells #[.slice fgo fl c] 36)).alloc (.cells #[.int .i64 nk, .string nf, .string nT, .int .i64 nn, .bool nR.lo.op, .bool nR.lo.inn, .string nR.lo.text, .bool nR.hi.op, .bool nR.hi.inn, .string nR.hi.text, .slice nR.A1 nR.n1 nR.c1, .slice nR.A2 nR.n2 nR.c2] 39)).alloc (.cells #[.int .i64 xq, .string xf, .string xT, .int .i64 xn, .bool xR.lo.op, .bool xR.lo.inn, .string xR.lo.text, .bool xR.hi.op, .bool xR.hi.inn, .string xR.hi.text, .slice xR.A1 xR.n1 xR.c1, .slice xR.A2 xR.n2 xR.c2] 39) := ⟨_, rfl⟩
  have KN : Blk W3 (w.heap.size + 1) 39 #[.int .i64 nk, .string nf, .string nT, .int .i64 nn, .bool nR.lo.op, .bool nR.lo.inn, .string nR.lo.text, .bool nR.hi.op, .bool nR.hi.inn, .string nR.hi.text, .slice nR.A1 nR.n1 nR.c1, .slice nR.A2 nR.n2 nR.c2] := by
    rw [hW3]
    have := (Blk.new (w.alloc (.cells #[.slice fgo fl c] 36)) 39 #[.int .i64 nk, .string nf, .string nT, .int .i64 nn, .bool nR.lo.op, .bool nR.lo.inn, .string nR.lo.text, .bool nR.hi.op, .bool nR.hi.inn, .string nR.hi.text, .slice nR.A1 nR.n1 nR.c1, .slice nR.A2 nR.n2 nR.c2]).alloc (.cells #[.int .i64 xq, .string xf, .string xT, .int .i64 xn, .bool xR.lo.op, .bool xR.lo.inn, .string xR.lo.text, .bool xR.hi.op, .bool xR.hi.inn, .string xR.hi.text, .slice xR.A1 xR.n1 xR.c1, .slice xR.A2 xR.n2 xR.c2] 39)
    rwa [World.size_alloc] at this
  have hbW : Below w.heap.size w W3 := by rw [hW3]; exact Base.bel
  have k0 : W3.cell? ⟨w.heap.size + 1, 0, none⟩ = some (.int .i64 nk) := KN.cell 0
  have HW := Lib.hid hW3
  clear hW3
  go_enter Tryz.func36, Tryz.ntmps36
  go_upto_region 1 with fail
  rw [← HW.out]
  rcases (by omega : nk < 9 ∨ (9 ≤ nk ∧ 12 < nk)) with h | ⟨h1, h2⟩
  · have d1 : decide (nk < 9) = true := decide_eq_true h
    clear h
    go_wp2_with fail
    go_ret
    exact ⟨rfl, hbW⟩
  · have d1 : decide (nk < 9) = false := decide_eq_false (by omega)
    have d2 : decide (12 < nk) = true := decide_eq_true h2
    clear h1 h2
    go_wp2_with fail
    go_ret
    exact ⟨rfl, hbW⟩
def Caps (cs : List Value) : Prop := ∀ A m c, (cs[10]? = some (.slice A m c) ∨ cs[11]? = some (.slice A m c)) → m ≤ c
theorem keeps_any {fs : List Fld} {fgo : Option Addr} {c B B0 : Nat} {a1 a2 : Addr} {w : World} {q x : Nod} {csn csx : List Value} (at_ oc : Int) (m : Mem fs fgo B0 a1 a2 w) (hnm : ∀ f ∈ fs, f.nm.size ≤ 9223372036854775807) (hlen : fs.length ≤ 9223372036854775807) (hg : schemaB fs = true)
    (hn : NVal w B csn q) (hcap : Caps csn) (hx : NVal w B csx x) (hB : B ≤ w.heap.size) (gn : nodB q = true) (gx : nodB x = true) (vx : (bindT fs x).2 = false) (hbk : q.bulk + x.bulk + 1 ≤ 2097152) :
    Calls Tryz.prog 36 #[.agg #[.slice fgo fs.length c], .agg csn.toArray, .agg csx.toArray, .int .i64 at_, .int .i64 oc] w fun e w' => e = .returned (.bool true) ∧ Below w.heap.size w w' := by
  obtain ⟨xq, xf, xT, xn, xR, ex⟩ := nod_cells hx
  obtain rfl : csx = [.int .i64 xq, .string xf, .string xT, .int .i64 xn, .bool xR.lo.op, .bool xR.lo.inn, .string xR.lo.text, .bool xR.hi.op, .bool xR.hi.inn, .string xR.hi.text, .slice xR.A1 xR.n1 xR.c1, .slice xR.A2 xR.n2 xR.c2] := by have := congrArg Array.toList ex; simpa [nodeV] using this
  obtain ⟨hd, ks, A1, A2, c1, c2, kc, hw, hk, h1, h2, h3⟩ := hn
  obtain ⟨k, fn, T, n, lo, hi, occ⟩ := hd
  by_cases h9 : 9 ≤ k ∧ k ≤ 12
  · exact keeps_in k n fn T lo hi occ ks A1 A2 c1 c2 kc x xq xn xf xT xR at_ oc m hnm hlen hg hw h1 h2 h3 (hcap _ _ _ (.inl rfl)) (hcap _ _ _ (.inr rfl)) hx hB h9.1 h9.2 gn gx vx hbk
  · exact keeps_out fgo fs.length c k n fn T ⟨lo, hi, A1, occ.length, c1, A2, ks.length, c2⟩ xq xn xf xT xR at_ oc w (by omega)
end Go.Proofs.YtkcfgcdlnojaeaaGreatDoor.KeepsAny
