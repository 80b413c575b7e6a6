/-
  The walk of a binder's bind over a leaf of kind 7, with a name that is none.
-/
import Derived.Test.YtkcfgcdlnojaeaaGreatDoorLeafBase
set_option linter.unusedVariables false
set_option linter.unusedSimpArgs false
namespace Go.Proofs.YtkcfgcdlnojaeaaGreatDoor.BindLeaf7N
set_option maxRecDepth 100000
open Go.RowKit Go.PlainAid Base Query OpenField FieldPlain BindBase NodeTerm NodeLeaf Binder WordPlain WordsWalk StopsWalk OfText OfAny WordsOne WordsAny SchFind BindTerm LeafBase Rel Relb RelbT RelbA

set_option maxHeartbeats 4000000 in
theorem bind_leaf (fn : ByteArray) (hfn0 : fn.size ≠ 0) (fs : List Fld) (fg fo c g B : Nat) (w : World) (hBw : B ≤ w.heap.size) (h1 : Slc w B (some ⟨fg, fo, none⟩) (fldCells fs)) (hlen : fs.length ≤ 9223372036854775807) (hfind : findS fs fn = none)
    (hB : Blk w g 147 (binderC (some ⟨fg, fo, none⟩) fs.length c))  :
    Calls Tryz.prog 50 #[.pointer (some ⟨g, 0, none⟩), .agg (nodeK 7 fn ⟨#[]⟩ 0)] w (IsQ noneQ true w) := by
  obtain ⟨W1, hW1⟩ : ∃ W, W = (w.alloc (.cells (nodeK 7 fn ⟨#[]⟩ 0) 39)).alloc (.cells (bareQ 0 0 ⟨#[]⟩) 29) := ⟨_, rfl⟩
  have KN : Blk W1 w.heap.size 39 (nodeK 7 fn ⟨#[]⟩ 0) := by rw [hW1]; exact (Blk.new w _ _).alloc _
  have KQ : Blk W1 (w.heap.size + 1) 29 (bareQ 0 0 ⟨#[]⟩) := by
    rw [hW1]
    have := Blk.new (w.alloc (.cells (nodeK 7 fn ⟨#[]⟩ 0) 39)) 29 (bareQ 0 0 ⟨#[]⟩)
    rwa [World.size_alloc] at this
  have hbW : Below w.heap.size w W1 := by rw [hW1]; (repeat (first | exact Below.refl _ _ | assumption | refine balloc ?_ _ | refine bdrew ?_ | refine bdrewN ?_ _ | refine bchain ?_ (by assumption)))
  have hsz : w.heap.size + 2 = W1.heap.size := by rw [hW1]; simp
  have ncell : ∀ {wx : World} (hx : Below W1.heap.size W1 wx) (j : Nat) (u : Value) (_ : (nodeK 7 fn ⟨#[]⟩ 0)[j]? = some u), wx.cell? ⟨w.heap.size, j, none⟩ = some u := fun hx j u hu => ((KN.below hx (by omega)).cell j).trans hu
  have bcell : ∀ {wx : World} (hx : Below W1.heap.size W1 wx) (j : Nat) (u : Value) (_ : (binderC (some ⟨fg, fo, none⟩) fs.length c)[j]? = some u), wx.cell? ⟨g, j, none⟩ = some u := fun hx j u hu => (((hB.below hbW hB.lt).below hx (by have := hB.lt; omega)).cell j).trans hu
  have k0 : W1.cell? ⟨w.heap.size, 0, none⟩ = some (.int .i64 7) := KN.cell 0
  have k1 : W1.cell? ⟨w.heap.size, 1, none⟩ = some (.string fn) := KN.cell 1
  have kb : W1.cell? ⟨g, 8, none⟩ = some (fnV 93) := bcell (Below.refl _ _) 8 _ rfl
  have FK := Lib.hid (fun W (hW : Below w.heap.size w W) => find_any fs fn (some ⟨fg, fo, none⟩) c B W (Nat.le_trans hBw hW.size) (h1.below hW hBw) hlen)
  simp only [hfind, Option.getD_none, Option.isSome_none] at FK
  have HW := Lib.hid hW1
  have HZ := Lib.hid hsz
  have hfn := fn_ne_nil 93
  unfold nodeK bareQ at hW1
  have HW2 := Lib.hid hW1
  unfold nodeK
  unfold fnV at kb
  rw [hW1] at k0 k1 kb
  clear hW1 hsz h1 hfind hlen hBw
  go_enter Tryz.func50, Tryz.ntmps50
  go_upto_region 3 with fail
  go_quiet (fail)
  have e_fn : fn.toList.isEmpty = false := by rw [tl_empty]; exact beq_eq_false_iff_ne.2 hfn0
  obtain ⟨WA, hWA⟩ : ∃ W, W = W1.drewN nq := ⟨_, rfl⟩
  have hbA : Below W1.heap.size W1 WA := by rw [hWA]; exact bdrewN (Below.refl _ _) _
  have m1 : WA.cell? ⟨w.heap.size, 1, none⟩ = some (.string fn) := ncell hbA 1 _ rfl
  have m0 : WA.cell? ⟨g, 0, none⟩ = some (.slice (some ⟨fg, fo, none⟩) fs.length c) := bcell hbA 0 _ rfl
  rw [← HW2.out, ← hWA]
  have HWA := Lib.hid hWA
  clear hWA
  go_upto_region 7 with fail
  have FK2 := FK.out
  have C1 := fun b : Bw WA.heap.size WA => calls_bw (Nat.le_refl _) (FK2 b.at_ (bchain hbW (bchain hbA b.below)))
  have n1 := Bw.cell (B := WA.heap.size) m1 (by show w.heap.size < _; have := hbA.size; have := HZ.out; omega)
  have n0 := Bw.cell (B := WA.heap.size) m0 (by show g < _; have := hbA.size; have := HZ.out; have := hB.lt; omega)
  clear m0 m1
  refine wp_region_bw WA.heap.size (by kernel_rfl) (by kernel_rfl) ?_
  repeat (go_big_quiet_step ((go_at_call 94; with_reducible exact C1 _)))
  refine wpQuiet_nil ?_
  intro wq hw'
  obtain ⟨⟨wz, hbq⟩, hw''⟩ := hw'
  subst hw''
  have hb10 : Below W1.heap.size W1 wq := bchain hbA hbq
  clear C1 n0 n1
  go_wp2_with (go_at_call 51; refine (none_lit _).mono ?_; rintro e w2 ⟨rfl, hb2⟩; have KZ := KQ.below (bchain hb10 hb2) (by have := HZ.out; omega); unfold bareQ at KZ; obtain ⟨z0, z1, z2, z3, z4, z5, z6, z7, z8, z9, z10, z11, z12, z13, z14⟩ := qrow KZ; obtain ⟨y0, y1, y2, y3, y4, y5, y6, y7, y8, y9, y10, y11, y12, y13, y14⟩ := qfz KZ)
  refine bodyPost_ret (results_blk (p := 4) (u := 5) (ty := 29) (t := 29) (g := w.heap.size + 1) (cs := bareQ 1 0 ⟨#[]⟩) ?_ ?_ (blk15 KZ) Tryz.underlying29 ?_ ?_) ?_ ?_
  · rfl
  · rfl
  · rfl
  · rw [qInfo]; rfl
  · rfl
  · exact isq_bare (k := 1) (f := 0) (t := ⟨#[]⟩) rfl rfl (Nat.zero_le _) rfl (below15 (bchain hbW (bchain hb10 hb2)) (Nat.le_succ _))
end Go.Proofs.YtkcfgcdlnojaeaaGreatDoor.BindLeaf7N
