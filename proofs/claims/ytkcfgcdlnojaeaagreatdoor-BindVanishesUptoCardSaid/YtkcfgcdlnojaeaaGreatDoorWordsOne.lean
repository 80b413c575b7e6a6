/-
  The walk of bind.words over a term's node whose text leaves one token.
-/
import Derived.Test.YtkcfgcdlnojaeaaGreatDoorDNode
import Derived.Test.YtkcfgcdlnojaeaaGreatDoorDChains
import Derived.Laws.ResultCell
set_option linter.unusedVariables false
set_option linter.unusedSimpArgs false
namespace Go.Proofs.YtkcfgcdlnojaeaaGreatDoor.WordsOne
set_option maxRecDepth 100000
open Go.RowKit Go.PlainAid Base Query BindBase NodeTerm Binder WordPlain WordsWalk StopsWalk OfText OfAny

theorem results_blk {P : Program} {fn : Func} {p u : Tmp} {ty t : TypeId} (h : fn.results = #[.cell p ty, .tmp u]) {tmps : Array Value} {w : World} {g : Nat} {cs : Array Value} {d : TypeDesc} (hp : tmps.getD p undef = .pointer (some ⟨g, 0, none⟩)) (hb : Blk w g t cs)
    (hu : P.underlying ty = some d) (hd : (match d with | .struct _ | .array _ _ => true | _ => false) = true) (hi : (P.info? ty).map (·.size) = some cs.size) :
    (results fn tmps).run P w = .ok (.tuple #[.agg cs, tmps.getD u undef]) w := by
  have hl := run_loadVar_row (P := P) w g t ty cs (0, 0) d hb hu hd hi
  rw [results_cell_tmp h, hp]
  simp [asAddr, Result.andThen, hl]
theorem qInfo : (Tryz.prog.info? 29).map (·.size) = some 15 := by kernel_rfl

theorem blk_term {w2 : World} {g : Nat} {ty : TypeId} {at_ : Int} {x : ByteArray} (KZ : Blk w2 g ty (bareQ 0 0 ⟨#[]⟩)) : Blk (((((((((((((((w2.setCell ⟨g, 0, none⟩ (.int .i64 4)).setCell ⟨g, 1, none⟩ (.int .i64 at_)).setCell ⟨g, 2, none⟩ (.string x)).setCell ⟨g, 3, none⟩ (.slice none 0 0)).setCell ⟨g, 4, none⟩ (.slice none 0 0)).setCell ⟨g, 5, none⟩ (.int .i64 0)).setCell ⟨g, 6, none⟩ (.int .u64 0)).setCell ⟨g, 7, none⟩ (.bool false)).setCell ⟨g, 8, none⟩ (.bool false)).setCell ⟨g, 9, none⟩ (.string ⟨#[]⟩)).setCell ⟨g, 10, none⟩ (.bool false)).setCell ⟨g, 11, none⟩ (.bool false)).setCell ⟨g, 12, none⟩ (.string ⟨#[]⟩)).setCell ⟨g, 13, none⟩ (.slice none 0 0)).setCell ⟨g, 14, none⟩ (.slice none 0 0)) g ty (bareQ 4 at_ x) := by
  have h := (((((((((((((((KZ.set_ 0 (.int .i64 4)).set_ 1 (.int .i64 at_)).set_ 2 (.string x)).set_ 3 (.slice none 0 0)).set_ 4 (.slice none 0 0)).set_ 5 (.int .i64 0)).set_ 6 (.int .u64 0)).set_ 7 (.bool false)).set_ 8 (.bool false)).set_ 9 (.string ⟨#[]⟩)).set_ 10 (.bool false)).set_ 11 (.bool false)).set_ 12 (.string ⟨#[]⟩)).set_ 13 (.slice none 0 0)).set_ 14 (.slice none 0 0))
  simpa [bareQ] using h

set_option maxHeartbeats 600000 in
theorem words_one (fn T nm : ByteArray) (a b c : Bool) (at_ : Int) (tk : Tok) (w : World) (hof : ofT 1 a b c T = [tk]) (hs : T.size ≤ 1048576) (ht : Tab w) (h0 : 3 < w.heap.size) :
    Calls Tryz.prog 88 #[.agg (nodeT fn T), .agg #[.string nm, .int .i64 1, .bool a, .bool b, .bool c], .int .i64 at_] w fun e w' => e = .returned (.tuple #[.agg (bareQ 4 at_ tk.text), .bool true]) ∧ Below w.heap.size w w' := by
  have OA := Lib.hid (fun W (hW : Below w.heap.size w W) => (hof ▸ of_any nm 1 a b c T W (by omega) (tab_below ht hW h0) (Nat.lt_of_lt_of_le h0 hW.size) : Calls Tryz.prog 35 #[.agg #[.string nm, .int .i64 1, .bool a, .bool b, .bool c], .string T] W (Toks [tk] W)))
  obtain ⟨W3, hW3⟩ : ∃ W, W = ((w.alloc (.cells (nodeT fn T) 39)).alloc (.cells #[.string nm, .int .i64 1, .bool a, .bool b, .bool c] 67)).alloc (.cells (bareQ 0 0 ⟨#[]⟩) 29) := ⟨_, rfl⟩
  have K3 : Blk W3 (w.heap.size + 1 + 1) 29 (bareQ 0 0 ⟨#[]⟩) := by
    rw [hW3]
    have := Blk.new ((w.alloc (.cells (nodeT fn T) 39)).alloc (.cells #[.string nm, .int .i64 1, .bool a, .bool b, .bool c] 67)) 29 (bareQ 0 0 ⟨#[]⟩)
    rwa [World.size_alloc, World.size_alloc] at this
  have hbW : Below w.heap.size w W3 := by rw [hW3]; exact Base.bel
  have hsz : w.heap.size + 3 = W3.heap.size := by rw [hW3]; simp
  have HW := Lib.hid hW3
  have HZ := Lib.hid hsz
  have hbt : tokCells [tk] ≠ [] := by simp [tokCells, tokC]
  clear hW3 hsz hof
  unfold nodeT
  go_enter Tryz.func88, Tryz.ntmps88
  go_wp2_with (go_at_call 35; refine (OA.out _ (by exact Base.bel)).mono ?_; rintro e w2 ⟨A2, c2, rfl, hown, hb2⟩; have hb32 : Below W3.heap.size W3 w2 := (by rw [HW.out]; exact hb2); have KZ := K3.below hb32 (by have := HZ.out; omega); obtain ⟨tg, tq, rfl, htg, htc⟩ := (slc_own hown) hbt; have t0 : w2.cell? ⟨tg, tq, none⟩ = some (.string tk.text) := htc 0 _ rfl; have z0 : w2.cell? ⟨w.heap.size + 1 + 1, 0, none⟩ = some (.int .i64 0) := KZ.cell 0; have y0 : w2.frozen? ⟨w.heap.size + 1 + 1, 0, none⟩ = false := KZ.frozen 0; have z1 : w2.cell? ⟨w.heap.size + 1 + 1, 1, none⟩ = some (.int .i64 0) := KZ.cell 1; have y1 : w2.frozen? ⟨w.heap.size + 1 + 1, 1, none⟩ = false := KZ.frozen 1; have z2 : w2.cell? ⟨w.heap.size + 1 + 1, 2, none⟩ = some (.string ⟨#[]⟩) := KZ.cell 2; have y2 : w2.frozen? ⟨w.heap.size + 1 + 1, 2, none⟩ = false := KZ.frozen 2; have z3 : w2.cell? ⟨w.heap.size + 1 + 1, 3, none⟩ = some (.slice none 0 0) := KZ.cell 3; have y3 : w2.frozen? ⟨w.heap.size + 1 + 1, 3, none⟩ = false := KZ.frozen 3; have z4 : w2.cell? ⟨w.heap.size + 1 + 1, 4, none⟩ = some (.slice none 0 0) := KZ.cell 4; have y4 : w2.frozen? ⟨w.heap.size + 1 + 1, 4, none⟩ = false := KZ.frozen 4; have z5 : w2.cell? ⟨w.heap.size + 1 + 1, 5, none⟩ = some (.int .i64 0) := KZ.cell 5; have y5 : w2.frozen? ⟨w.heap.size + 1 + 1, 5, none⟩ = false := KZ.frozen 5; have z6 : w2.cell? ⟨w.heap.size + 1 + 1, 6, none⟩ = some (.int .u64 0) := KZ.cell 6; have y6 : w2.frozen? ⟨w.heap.size + 1 + 1, 6, none⟩ = false := KZ.frozen 6; have z7 : w2.cell? ⟨w.heap.size + 1 + 1, 7, none⟩ = some (.bool false) := KZ.cell 7; have y7 : w2.frozen? ⟨w.heap.size + 1 + 1, 7, none⟩ = false := KZ.frozen 7; have z8 : w2.cell? ⟨w.heap.size + 1 + 1, 8, none⟩ = some (.bool false) := KZ.cell 8; have y8 : w2.frozen? ⟨w.heap.size + 1 + 1, 8, none⟩ = false := KZ.frozen 8; have z9 : w2.cell? ⟨w.heap.size + 1 + 1, 9, none⟩ = some (.string ⟨#[]⟩) := KZ.cell 9; have y9 : w2.frozen? ⟨w.heap.size + 1 + 1, 9, none⟩ = false := KZ.frozen 9; have z10 : w2.cell? ⟨w.heap.size + 1 + 1, 10, none⟩ = some (.bool false) := KZ.cell 10; have y10 : w2.frozen? ⟨w.heap.size + 1 + 1, 10, none⟩ = false := KZ.frozen 10; have z11 : w2.cell? ⟨w.heap.size + 1 + 1, 11, none⟩ = some (.bool false) := KZ.cell 11; have y11 : w2.frozen? ⟨w.heap.size + 1 + 1, 11, none⟩ = false := KZ.frozen 11; have z12 : w2.cell? ⟨w.heap.size + 1 + 1, 12, none⟩ = some (.string ⟨#[]⟩) := KZ.cell 12; have y12 : w2.frozen? ⟨w.heap.size + 1 + 1, 12, none⟩ = false := KZ.frozen 12; have z13 : w2.cell? ⟨w.heap.size + 1 + 1, 13, none⟩ = some (.slice none 0 0) := KZ.cell 13; have y13 : w2.frozen? ⟨w.heap.size + 1 + 1, 13, none⟩ = false := KZ.frozen 13; have z14 : w2.cell? ⟨w.heap.size + 1 + 1, 14, none⟩ = some (.slice none 0 0) := KZ.cell 14; have y14 : w2.frozen? ⟨w.heap.size + 1 + 1, 14, none⟩ = false := KZ.frozen 14; clear htc hown; simp only [List.length_cons, List.length_nil])
  have hfin : Below w.heap.size w w2 := bchain hbW hb32
  have hb := blk_term (at_ := at_) (x := tk.text) KZ
  clear z0 z1 z2 z3 z4 z5 z6 z7 z8 z9 z10 z11 z12 z13 z14 y0 y1 y2 y3 y4 y5 y6 y7 y8 y9 y10 y11 y12 y13 y14
  refine bodyPost_ret (results_blk (p := 6) (u := 7) (ty := 29) (t := 29) (g := w.heap.size + 1 + 1) (cs := bareQ 4 at_ tk.text) ?_ ?_ hb Tryz.underlying29 ?_ ?_) ?_ ⟨?_, ?_⟩
  · rfl
  · rfl
  · rfl
  · rw [qInfo]; rfl
  · rfl
  · rfl
  · have hle : w.heap.size ≤ w.heap.size + 1 + 1 := Nat.le_succ_of_le (Nat.le_succ _)
    exact (((((((((((((((hfin.setCell (p := ⟨w.heap.size + 1 + 1, 0, none⟩) hle _).setCell (p := ⟨w.heap.size + 1 + 1, 1, none⟩) hle _).setCell (p := ⟨w.heap.size + 1 + 1, 2, none⟩) hle _).setCell (p := ⟨w.heap.size + 1 + 1, 3, none⟩) hle _).setCell (p := ⟨w.heap.size + 1 + 1, 4, none⟩) hle _).setCell (p := ⟨w.heap.size + 1 + 1, 5, none⟩) hle _).setCell (p := ⟨w.heap.size + 1 + 1, 6, none⟩) hle _).setCell (p := ⟨w.heap.size + 1 + 1, 7, none⟩) hle _).setCell (p := ⟨w.heap.size + 1 + 1, 8, none⟩) hle _).setCell (p := ⟨w.heap.size + 1 + 1, 9, none⟩) hle _).setCell (p := ⟨w.heap.size + 1 + 1, 10, none⟩) hle _).setCell (p := ⟨w.heap.size + 1 + 1, 11, none⟩) hle _).setCell (p := ⟨w.heap.size + 1 + 1, 12, none⟩) hle _).setCell (p := ⟨w.heap.size + 1 + 1, 13, none⟩) hle _).setCell (p := ⟨w.heap.size + 1 + 1, 14, none⟩) hle _)
end Go.Proofs.YtkcfgcdlnojaeaaGreatDoor.WordsOne
