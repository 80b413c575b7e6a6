/-
  The walk of a binder's bind over a leaf of any kind, without a name.
  The walk of a binder's bind over a leaf of any kind, with a name that is found.
  The walk of a binder's bind over a leaf of any kind, with a name that is none.
-/
import Derived.Test.YtkcfgcdlnojaeaaGreatDoorDLeafB
set_option linter.unusedVariables false
set_option linter.unusedSimpArgs false
namespace Go.Proofs.YtkcfgcdlnojaeaaGreatDoor.BindLeafE
set_option maxRecDepth 100000
open Go.RowKit Go.PlainAid Base Query OpenField FieldPlain BindBase NodeTerm NodeTree Binder WordPlain WordsWalk StopsWalk OfText OfAny WordsOne WordsAny SchFind BindTerm LeafBase Rel Relb RelbT RelbA

set_option maxHeartbeats 4000000 in
theorem bind_leaf (kn F : Nat) (T : ByteArray) (n : Int) (R : NRest) (hK1 : 1 ≤ kn) (hK7 : kn ≤ 7) (fs : List Fld) (nm : ByteArray) (kd : Int) (a b d : Bool) (fg fo c g B : Nat) (w : World) (q : Qry) (bq : Bool) (hBw : B ≤ w.heap.size) (h1 : Slc w B (some ⟨fg, fo, none⟩) (fldCells fs)) (hlen : fs.length ≤ 9223372036854775807) (hat : fs[0]? = some ⟨nm, kd, a, b, d⟩)
    (hB : Blk w g 147 (binderC (some ⟨fg, fo, none⟩) fs.length c)) (hKF : (binderC (some ⟨fg, fo, none⟩) fs.length c)[1 + kn]? = some (fnV F)) (EF : ∀ args W, (callFunc F args).run Tryz.prog W = .ok (.enter F args) W) (LK : ∀ W, Below w.heap.size w W → Calls Tryz.prog F #[.agg (nodeV (kn : Int) ⟨#[]⟩ T n R), .agg #[.string nm, .int .i64 kd, .bool a, .bool b, .bool d], .int .i64 0] W (IsQ q bq W)) :
    Calls Tryz.prog 50 #[.pointer (some ⟨g, 0, none⟩), .agg (nodeV (kn : Int) ⟨#[]⟩ T n R)] w (IsQ q bq w) := by
  obtain ⟨W1, hW1⟩ : ∃ W, W = (w.alloc (.cells (nodeV (kn : Int) ⟨#[]⟩ T n R) 39)).alloc (.cells (bareQ 0 0 ⟨#[]⟩) 29) := ⟨_, rfl⟩
  have KN : Blk W1 w.heap.size 39 (nodeV (kn : Int) ⟨#[]⟩ T n R) := by rw [hW1]; exact (Blk.new w _ _).alloc _
  have KQ : Blk W1 (w.heap.size + 1) 29 (bareQ 0 0 ⟨#[]⟩) := by
    rw [hW1]
    have := Blk.new (w.alloc (.cells (nodeV (kn : Int) ⟨#[]⟩ T n R) 39)) 29 (bareQ 0 0 ⟨#[]⟩)
    rwa [World.size_alloc] at this
  have hbW : Below w.heap.size w W1 := by rw [hW1]; exact Base.bel
  have hsz : w.heap.size + 2 = W1.heap.size := by rw [hW1]; simp
  have ncell : ∀ {wx : World} (hx : Below W1.heap.size W1 wx) (j : Nat) (u : Value) (_ : (nodeV (kn : Int) ⟨#[]⟩ T n R)[j]? = some u), wx.cell? ⟨w.heap.size, j, none⟩ = some u := fun hx j u hu => ((KN.below hx (by omega)).cell j).trans hu
  have bcell : ∀ {wx : World} (hx : Below W1.heap.size W1 wx) (j : Nat) (u : Value) (_ : (binderC (some ⟨fg, fo, none⟩) fs.length c)[j]? = some u), wx.cell? ⟨g, j, none⟩ = some u := fun hx j u hu => (((hB.below hbW hB.lt).below hx (by have := hB.lt; omega)).cell j).trans hu
  have hfl : fs ≠ [] := by intro h; rw [h] at hat; simp at hat
  obtain ⟨fg', fo', efg, hfg, hcf⟩ := h1 (by intro e; have := congrArg List.length e; rw [fldCells_len] at this; simp at this; exact hfl (List.eq_nil_of_length_eq_zero (by omega)))
  obtain ⟨rfl, rfl⟩ : fg = fg' ∧ fo = fo' := by simpa using efg
  have hq5 := fun j (hj : j < 5) => fldCells_at fs 0 j _ hat hj
  have fcell : ∀ {wx : World} (hx : Below W1.heap.size W1 wx) (j : Nat) (u : Value) (_ : (fldC ⟨nm, kd, a, b, d⟩)[j]? = some u), wx.cell? ⟨fg, fo + j, none⟩ = some u := fun {wx} hx j u hu => by
    have hj : j < 5 := (List.getElem?_eq_some_iff.1 hu).1
    have h5 := hcf (0 * 5 + j) u ((hq5 j hj).trans hu)
    rw [show fo + (0 * 5 + j) = fo + j by omega] at h5
    exact (hx.cell (p := ⟨fg, fo + j, none⟩) (by show fg < _; have := hbW.size; omega)).trans ((hbW.cell (p := ⟨fg, fo + j, none⟩) (by show fg < _; omega)).trans h5)
  have hlt : 0 < fs.length := (List.getElem?_eq_some_iff.1 hat).1
  have k0 : W1.cell? ⟨w.heap.size, 0, none⟩ = some (.int .i64 (kn : Int)) := KN.cell 0
  have k1 : W1.cell? ⟨w.heap.size, 1, none⟩ = some (.string ⟨#[]⟩) := KN.cell 1
  have kb : W1.cell? ⟨g, 1 + kn, none⟩ = some (fnV F) := bcell (Below.refl _ _) (1 + kn) _ hKF
  have LK := Lib.hid LK
  have i1 : (0 : Int) < (fs.length : Int) := by omega
  have HW := Lib.hid hW1
  have HZ := Lib.hid hsz
  have hfn := fn_ne_nil F
  have bk8 : ((kn : Int) == 8) = false := beq_eq_false_iff_ne.2 (by omega)
  have bk0 : (0 : Int) ≤ (kn : Int) := by omega
  have bk16 : (kn : Int) < 16 := by omega
  have bkn : kn < 16 := by omega
  unfold nodeV bareQ at hW1
  have HW2 := Lib.hid hW1
  unfold nodeV
  unfold fnV at kb
  rw [hW1] at k0 k1 kb
  clear hW1 hsz h1 hcf hq5 hat hlen hfl hBw
  go_enter Tryz.func50, Tryz.ntmps50
  go_upto_region 3 with fail
  go_quiet (fail)
  go_upto_region 10 with fail
  have hb10 : Below W1.heap.size W1 (W1.drewN nq) := bdrewN (Below.refl _ _) _
  rw [← HW2.out]
  generalize (W1.drewN nq) = W10 at hb10 ⊢
  refine RelbA.wp_region_relba 11 (fun wx => Below W10.heap.size W10 wx) (fun wa wb => Below wa.heap.size wa wb) (by kernel_rfl) (by kernel_rfl) (by kernel_rfl) (by simp) (bdrew (Below.refl _ _)) ?_
  simp only [List.take_succ_cons, List.take_zero, List.drop_succ_cons, List.drop_zero]
  apply Relb.relb_one [] [] (by kernel_rfl) (by kernel_rfl) (by kernel_rfl)
  case hs =>
    intro vv wx hx hf
    clear hf
    try simp only [Relb.putD, Act.put, Base.s1, Base.s2, Base.s3]
    intro KK hK
    go_simp
    exact hK _ _ hx (Below.refl _ _) rfl
  apply Relb.relb_one [] [] (by kernel_rfl) (by kernel_rfl) (by kernel_rfl)
  case hs =>
    intro vv wx hx hf
    clear hf
    have y0 := ncell (bchain hb10 hx) 0 (.int .i64 (kn : Int)) rfl
    have y1 := ncell (bchain hb10 hx) 1 (.string ⟨#[]⟩) rfl
    have y2 := ncell (bchain hb10 hx) 2 (.string T) rfl
    have y3 := ncell (bchain hb10 hx) 3 (.int .i64 n) rfl
    have y4 := ncell (bchain hb10 hx) 4 (.bool R.lo.op) rfl
    have y5 := ncell (bchain hb10 hx) 5 (.bool R.lo.inn) rfl
    have y6 := ncell (bchain hb10 hx) 6 (.string R.lo.text) rfl
    have y7 := ncell (bchain hb10 hx) 7 (.bool R.hi.op) rfl
    have y8 := ncell (bchain hb10 hx) 8 (.bool R.hi.inn) rfl
    have y9 := ncell (bchain hb10 hx) 9 (.string R.hi.text) rfl
    have y10 := ncell (bchain hb10 hx) 10 (.slice R.A1 R.n1 R.c1) rfl
    have y11 := ncell (bchain hb10 hx) 11 (.slice R.A2 R.n2 R.c2) rfl
    have b0 := bcell (bchain hb10 hx) 0 (.slice (some ⟨fg, fo, none⟩) fs.length c) rfl
    have f0 := (show wx.cell? ⟨fg, fo, none⟩ = some (.string nm) from fcell (bchain hb10 hx) 0 (.string nm) rfl)
    have f1 := (show wx.cell? ⟨fg, fo + 1, none⟩ = some (.int .i64 kd) from fcell (bchain hb10 hx) 1 (.int .i64 kd) rfl)
    have f2 := (show wx.cell? ⟨fg, fo + 2, none⟩ = some (.bool a) from fcell (bchain hb10 hx) 2 (.bool a) rfl)
    have f3 := (show wx.cell? ⟨fg, fo + 3, none⟩ = some (.bool b) from fcell (bchain hb10 hx) 3 (.bool b) rfl)
    have f4 := (show wx.cell? ⟨fg, fo + 4, none⟩ = some (.bool d) from fcell (bchain hb10 hx) 4 (.bool d) rfl)
    try simp only [Relb.putD, Act.put, Base.s1, Base.s2, Base.s3]
    intro KK hK
    go_simp
    exact hK _ _ hx (Below.refl _ _) rfl
  apply Relb.relb_one [] [] (by kernel_rfl) (by kernel_rfl) (by kernel_rfl)
  case hs =>
    intro vv wx hx hf
    clear hf
    try simp only [Relb.putD, Act.put, Base.s1, Base.s2, Base.s3]
    intro KK hK
    go_simp
    exact hK _ _ hx (Below.refl _ _) rfl
  apply Relb.relb_one [(2, 45)] [2] (by kernel_rfl) (by kernel_rfl) (by kernel_rfl)
  case hs =>
    intro vv wx hx hf
    have e45 : vv 2 = _ := hf 2 (by simp)
    clear hf
    try simp only [Relb.putD, e45, Act.put, Base.s1, Base.s2, Base.s3]
    intro KK hK
    go_simp
    exact hK _ _ hx (Below.refl _ _) rfl
  apply Relb.relb_one [(3, 46)] [3] (by kernel_rfl) (by kernel_rfl) (by kernel_rfl)
  case hs =>
    intro vv wx hx hf
    have e46 : vv 3 = _ := hf 3 (by simp)
    clear hf
    try simp only [Relb.putD, e46, Act.put, Base.s1, Base.s2, Base.s3]
    intro KK hK
    go_simp
    exact hK _ _ hx (Below.refl _ _) rfl
  apply Relb.relb_one [(4, 47)] [4] (by kernel_rfl) (by kernel_rfl) (by kernel_rfl)
  case hs =>
    intro vv wx hx hf
    have e47 : vv 4 = _ := hf 4 (by simp)
    clear hf
    try simp only [Relb.putD, e47, Act.put, Base.s1, Base.s2, Base.s3]
    intro KK hK
    go_simp
    exact hK _ _ hx (Below.refl _ _) rfl
  apply Relb.relb_one [(5, 48)] [5] (by kernel_rfl) (by kernel_rfl) (by kernel_rfl)
  case hs =>
    intro vv wx hx hf
    have e48 : vv 5 = _ := hf 5 (by simp)
    clear hf
    have y0 := ncell (bchain hb10 hx) 0 (.int .i64 (kn : Int)) rfl
    have y1 := ncell (bchain hb10 hx) 1 (.string ⟨#[]⟩) rfl
    have y2 := ncell (bchain hb10 hx) 2 (.string T) rfl
    have y3 := ncell (bchain hb10 hx) 3 (.int .i64 n) rfl
    have y4 := ncell (bchain hb10 hx) 4 (.bool R.lo.op) rfl
    have y5 := ncell (bchain hb10 hx) 5 (.bool R.lo.inn) rfl
    have y6 := ncell (bchain hb10 hx) 6 (.string R.lo.text) rfl
    have y7 := ncell (bchain hb10 hx) 7 (.bool R.hi.op) rfl
    have y8 := ncell (bchain hb10 hx) 8 (.bool R.hi.inn) rfl
    have y9 := ncell (bchain hb10 hx) 9 (.string R.hi.text) rfl
    have y10 := ncell (bchain hb10 hx) 10 (.slice R.A1 R.n1 R.c1) rfl
    have y11 := ncell (bchain hb10 hx) 11 (.slice R.A2 R.n2 R.c2) rfl
    have b0 := bcell (bchain hb10 hx) 0 (.slice (some ⟨fg, fo, none⟩) fs.length c) rfl
    have f0 := (show wx.cell? ⟨fg, fo, none⟩ = some (.string nm) from fcell (bchain hb10 hx) 0 (.string nm) rfl)
    have f1 := (show wx.cell? ⟨fg, fo + 1, none⟩ = some (.int .i64 kd) from fcell (bchain hb10 hx) 1 (.int .i64 kd) rfl)
    have f2 := (show wx.cell? ⟨fg, fo + 2, none⟩ = some (.bool a) from fcell (bchain hb10 hx) 2 (.bool a) rfl)
    have f3 := (show wx.cell? ⟨fg, fo + 3, none⟩ = some (.bool b) from fcell (bchain hb10 hx) 3 (.bool b) rfl)
    have f4 := (show wx.cell? ⟨fg, fo + 4, none⟩ = some (.bool d) from fcell (bchain hb10 hx) 4 (.bool d) rfl)
    try simp only [Relb.putD, e48, Act.put, Base.s1, Base.s2, Base.s3]
    intro KK hK
    go_simp
    exact hK _ _ hx (Below.refl _ _) rfl
  apply Relb.relb_one [] [] (by kernel_rfl) (by kernel_rfl) (by kernel_rfl)
  case hs =>
    intro vv wx hx hf
    clear hf
    try simp only [Relb.putD, Act.put, Base.s1, Base.s2, Base.s3]
    intro KK hK
    go_simp
    exact hK _ _ hx (Below.refl _ _) rfl
  apply Relb.relb_one [(6, 49), (7, 50)] [6, 7] (by kernel_rfl) (by kernel_rfl) (by kernel_rfl)
  case hs =>
    intro vv wx hx hf
    have e49 : vv 6 = _ := hf 6 (by simp)
    have e50 : vv 7 = _ := hf 7 (by simp)
    clear hf
    try simp only [Relb.putD, e49, e50, Act.put, Base.s1, Base.s2, Base.s3]
    intro KK hK
    go_simp
    exact hK _ _ hx (Below.refl _ _) rfl
  apply Relb.relb_one [(8, 51)] [8] (by kernel_rfl) (by kernel_rfl) (by kernel_rfl)
  case hs =>
    intro vv wx hx hf
    have e51 : vv 8 = _ := hf 8 (by simp)
    clear hf
    have y0 := ncell (bchain hb10 hx) 0 (.int .i64 (kn : Int)) rfl
    have y1 := ncell (bchain hb10 hx) 1 (.string ⟨#[]⟩) rfl
    have y2 := ncell (bchain hb10 hx) 2 (.string T) rfl
    have y3 := ncell (bchain hb10 hx) 3 (.int .i64 n) rfl
    have y4 := ncell (bchain hb10 hx) 4 (.bool R.lo.op) rfl
    have y5 := ncell (bchain hb10 hx) 5 (.bool R.lo.inn) rfl
    have y6 := ncell (bchain hb10 hx) 6 (.string R.lo.text) rfl
    have y7 := ncell (bchain hb10 hx) 7 (.bool R.hi.op) rfl
    have y8 := ncell (bchain hb10 hx) 8 (.bool R.hi.inn) rfl
    have y9 := ncell (bchain hb10 hx) 9 (.string R.hi.text) rfl
    have y10 := ncell (bchain hb10 hx) 10 (.slice R.A1 R.n1 R.c1) rfl
    have y11 := ncell (bchain hb10 hx) 11 (.slice R.A2 R.n2 R.c2) rfl
    have b0 := bcell (bchain hb10 hx) 0 (.slice (some ⟨fg, fo, none⟩) fs.length c) rfl
    have f0 := (show wx.cell? ⟨fg, fo, none⟩ = some (.string nm) from fcell (bchain hb10 hx) 0 (.string nm) rfl)
    have f1 := (show wx.cell? ⟨fg, fo + 1, none⟩ = some (.int .i64 kd) from fcell (bchain hb10 hx) 1 (.int .i64 kd) rfl)
    have f2 := (show wx.cell? ⟨fg, fo + 2, none⟩ = some (.bool a) from fcell (bchain hb10 hx) 2 (.bool a) rfl)
    have f3 := (show wx.cell? ⟨fg, fo + 3, none⟩ = some (.bool b) from fcell (bchain hb10 hx) 3 (.bool b) rfl)
    have f4 := (show wx.cell? ⟨fg, fo + 4, none⟩ = some (.bool d) from fcell (bchain hb10 hx) 4 (.bool d) rfl)
    try simp only [Relb.putD, e51, Act.put, Base.s1, Base.s2, Base.s3]
    intro KK hK
    go_simp
    exact hK _ _ hx (Below.refl _ _) rfl
  apply Relb.relb_one [] [] (by kernel_rfl) (by kernel_rfl) (by kernel_rfl)
  case hs =>
    intro vv wx hx hf
    clear hf
    try simp only [Relb.putD, Act.put, Base.s1, Base.s2, Base.s3]
    intro KK hK
    go_simp
    exact hK _ _ hx (Below.refl _ _) rfl
  refine RelbA.relba_end (N := 5) [(0, 43), (1, 44), (2, 45), (3, 46), (4, 47), (5, 48), (6, 49), (7, 50), (8, 51), (9, 52), (10, 53)] (by kernel_rfl) (by kernel_rfl) ?_
  intro vv wx hx hf
  have e43 : vv 0 = _ := hf 0 (by decide)
  have e44 : vv 1 = _ := hf 1 (by decide)
  have e45 : vv 2 = _ := hf 2 (by decide)
  have e46 : vv 3 = _ := hf 3 (by decide)
  have e47 : vv 4 = _ := hf 4 (by decide)
  have e48 : vv 5 = _ := hf 5 (by decide)
  have e49 : vv 6 = _ := hf 6 (by decide)
  have e50 : vv 7 = _ := hf 7 (by decide)
  have e51 : vv 8 = _ := hf 8 (by decide)
  have e52 : vv 9 = _ := hf 9 (by decide)
  have e53 : vv 10 = _ := hf 10 (by decide)
  clear hf
  simp only [Relb.putD, e43, e44, e45, e46, e47, e48, e49, e50, e51, e52, e53, Act.put, Base.s1, Base.s2, Base.s3]
  clear e43 e44 e45 e46 e47 e48 e49 e50 e51 e52 e53
  refine wpAny_ready (rs := [11]) (by kernel_rfl) (by simp) ?_
  refine AllReady.cons (by rw [List.getElem?_toArray]; rfl) (fun K hK => ?_) AllReady.nil
  go_simp
  refine (LK.out _ (bchain hbW (bchain hb10 hx))).mono ?_
  rintro e w2 ⟨cs, rfl, hv, hb2⟩
  obtain ⟨hd, ks, A1, A2, A3, A4, c1, c2, c3, c4, kc, hw, hkl, h1', h2', h3', h4', h5'⟩ := hv.val
  clear h1' h2' h3' h4' h5' hw hkl
  refine hK _ _ ?_
  clear hK K
  try simp only [Act.put, Base.s1, Base.s2, Base.s3]
  have hfin : Below w.heap.size w w2 := bchain (bchain hbW (bchain hb10 hx)) hb2
  have KZ := KQ.below (bchain (bchain hb10 hx) hb2) (by have := HZ.out; omega)
  unfold bareQ at KZ
  obtain ⟨z0, z1, z2, z3, z4, z5, z6, z7, z8, z9, z10, z11, z12, z13, z14⟩ := qrow KZ
  obtain ⟨y0, y1, y2, y3, y4, y5, y6, y7, y8, y9, y10, y11, y12, y13, y14⟩ := qfz KZ
  (refine wpAny_take (i := 12) (v := ?v12) (by rw [List.getElem?_toArray]; rfl) (by kernel_rfl) (by kernel_rfl) (by kernel_rfl) (by exact fun _ _ _ h => h) (Or.inl ⟨by rfl, ?y12⟩) ?r12)
  case y12 => (intro w'; go_simp; try with_reducible rfl)
  try simp only [Act.put, Base.s1, Base.s2, Base.s3]
  (refine wpAny_take (i := 13) (v := ?v13) (by rw [List.getElem?_toArray]; rfl) (by kernel_rfl) (by kernel_rfl) (by kernel_rfl) (by exact fun _ _ _ h => h) (Or.inl ⟨by rfl, ?y13⟩) ?r13)
  case y13 => (intro w'; go_simp; try with_reducible rfl)
  try simp only [Act.put, Base.s1, Base.s2, Base.s3]
  refine wpAny_ready (rs := [14]) (by kernel_rfl) (by simp) ?_
  refine AllReady.cons (by rw [List.getElem?_toArray]; rfl) (fun K hK => ?_) AllReady.nil
  go_simp
  refine hK _ _ ?_
  clear hK K
  try simp only [Act.put, Base.s1, Base.s2, Base.s3]
  refine wpAny_ready (rs := [15]) (by kernel_rfl) (by simp) ?_
  refine AllReady.cons (by rw [List.getElem?_toArray]; rfl) (fun K hK => ?_) AllReady.nil
  go_simp
  refine hK _ _ ?_
  clear hK K
  try simp only [Act.put, Base.s1, Base.s2, Base.s3]
  refine wpAny_done (by kernel_rfl) ?_ _
  clear z0 y0 z1 y1 z2 y2 z3 y3 z4 y4 z5 y5 z6 y6 z7 y7 z8 y8 z9 y9 z10 y10 z11 y11 z12 y12 z13 y13 z14 y14
  go_wp2_with fail
  refine bodyPost_ret (results_blk (p := 4) (u := 5) (ty := 29) (t := 29) (g := w.heap.size + 1) (cs := #[.int .i64 hd.kind, .int .i64 hd.field, .string hd.text, .slice A1 hd.terms.length c1, .slice A2 hd.offs.length c2, .int .i64 hd.n, .int .u64 hd.weight, .bool hd.lo.op, .bool hd.lo.inn, .string hd.lo.text, .bool hd.hi.op, .bool hd.hi.inn, .string hd.hi.text, .slice A3 hd.occur.length c3, .slice A4 ks.length c4]) ?_ ?_ (blk15 KZ) Tryz.underlying29 ?_ ?_) ?_ ?_
  · rfl
  · rfl
  · rfl
  · rw [qInfo]; rfl
  · rfl
  · exact ⟨[.int .i64 hd.kind, .int .i64 hd.field, .string hd.text, .slice A1 hd.terms.length c1, .slice A2 hd.offs.length c2, .int .i64 hd.n, .int .u64 hd.weight, .bool hd.lo.op, .bool hd.lo.inn, .string hd.lo.text, .bool hd.hi.op, .bool hd.hi.inn, .string hd.hi.text, .slice A3 hd.occur.length c3, .slice A4 ks.length c4], rfl, (fresh15 hv (by have := HZ.out; have := (bchain hb10 hx).size; omega)).mono (by have := (bchain hbW (bchain hb10 hx)).size; omega), below15 hfin (Nat.le_succ _)⟩
end Go.Proofs.YtkcfgcdlnojaeaaGreatDoor.BindLeafE

namespace Go.Proofs.YtkcfgcdlnojaeaaGreatDoor.BindLeafF
set_option maxRecDepth 100000
open Go.RowKit Go.PlainAid Base Query OpenField FieldPlain BindBase NodeTerm NodeTree Binder WordPlain WordsWalk StopsWalk OfText OfAny WordsOne WordsAny SchFind BindTerm LeafBase Rel Relb RelbT RelbA

set_option maxHeartbeats 4000000 in
theorem bind_leaf (kn F : Nat) (T : ByteArray) (n : Int) (R : NRest) (hK1 : 1 ≤ kn) (hK7 : kn ≤ 7) (fn : ByteArray) (hfn0 : fn.size ≠ 0) (fs : List Fld) (nm : ByteArray) (kd : Int) (a b d : Bool) (fg fo c g B : Nat) (w : World) (q : Qry) (bq : Bool) (hBw : B ≤ w.heap.size) (h1 : Slc w B (some ⟨fg, fo, none⟩) (fldCells fs)) (hlen : fs.length ≤ 9223372036854775807) (at_ : Nat) (hfind : findS fs fn = some at_) (hat : fs[at_]? = some ⟨nm, kd, a, b, d⟩)
    (hB : Blk w g 147 (binderC (some ⟨fg, fo, none⟩) fs.length c)) (hKF : (binderC (some ⟨fg, fo, none⟩) fs.length c)[1 + kn]? = some (fnV F)) (EF : ∀ args W, (callFunc F args).run Tryz.prog W = .ok (.enter F args) W) (LK : ∀ W, Below w.heap.size w W → Calls Tryz.prog F #[.agg (nodeV (kn : Int) fn T n R), .agg #[.string nm, .int .i64 kd, .bool a, .bool b, .bool d], .int .i64 (at_ : Int)] W (IsQ q bq W)) :
    Calls Tryz.prog 50 #[.pointer (some ⟨g, 0, none⟩), .agg (nodeV (kn : Int) fn T n R)] w (IsQ q bq w) := by
  obtain ⟨W1, hW1⟩ : ∃ W, W = (w.alloc (.cells (nodeV (kn : Int) fn T n R) 39)).alloc (.cells (bareQ 0 0 ⟨#[]⟩) 29) := ⟨_, rfl⟩
  have KN : Blk W1 w.heap.size 39 (nodeV (kn : Int) fn T n R) := by rw [hW1]; exact (Blk.new w _ _).alloc _
  have KQ : Blk W1 (w.heap.size + 1) 29 (bareQ 0 0 ⟨#[]⟩) := by
    rw [hW1]
    have := Blk.new (w.alloc (.cells (nodeV (kn : Int) fn T n R) 39)) 29 (bareQ 0 0 ⟨#[]⟩)
    rwa [World.size_alloc] at this
  have hbW : Below w.heap.size w W1 := by rw [hW1]; exact Base.bel
  have hsz : w.heap.size + 2 = W1.heap.size := by rw [hW1]; simp
  have ncell : ∀ {wx : World} (hx : Below W1.heap.size W1 wx) (j : Nat) (u : Value) (_ : (nodeV (kn : Int) fn T n R)[j]? = some u), wx.cell? ⟨w.heap.size, j, none⟩ = some u := fun hx j u hu => ((KN.below hx (by omega)).cell j).trans hu
  have bcell : ∀ {wx : World} (hx : Below W1.heap.size W1 wx) (j : Nat) (u : Value) (_ : (binderC (some ⟨fg, fo, none⟩) fs.length c)[j]? = some u), wx.cell? ⟨g, j, none⟩ = some u := fun hx j u hu => (((hB.below hbW hB.lt).below hx (by have := hB.lt; omega)).cell j).trans hu
  have hfl : fs ≠ [] := by intro h; rw [h] at hat; simp at hat
  obtain ⟨fg', fo', efg, hfg, hcf⟩ := h1 (by intro e; have := congrArg List.length e; rw [fldCells_len] at this; simp at this; exact hfl (List.eq_nil_of_length_eq_zero (by omega)))
  obtain ⟨rfl, rfl⟩ : fg = fg' ∧ fo = fo' := by simpa using efg
  have hq5 := fun j (hj : j < 5) => fldCells_at fs at_ j _ hat hj
  have fcell : ∀ {wx : World} (hx : Below W1.heap.size W1 wx) (j : Nat) (u : Value) (_ : (fldC ⟨nm, kd, a, b, d⟩)[j]? = some u), wx.cell? ⟨fg, fo + at_ * 5 + j, none⟩ = some u := fun {wx} hx j u hu => by
    have hj : j < 5 := (List.getElem?_eq_some_iff.1 hu).1
    have h5 := hcf (at_ * 5 + j) u ((hq5 j hj).trans hu)
    rw [show fo + (at_ * 5 + j) = fo + at_ * 5 + j by omega] at h5
    exact (hx.cell (p := ⟨fg, fo + at_ * 5 + j, none⟩) (by show fg < _; have := hbW.size; omega)).trans ((hbW.cell (p := ⟨fg, fo + at_ * 5 + j, none⟩) (by show fg < _; omega)).trans h5)
  have hlt : at_ < fs.length := (List.getElem?_eq_some_iff.1 hat).1
  have k0 : W1.cell? ⟨w.heap.size, 0, none⟩ = some (.int .i64 (kn : Int)) := KN.cell 0
  have k1 : W1.cell? ⟨w.heap.size, 1, none⟩ = some (.string fn) := KN.cell 1
  have kb : W1.cell? ⟨g, 1 + kn, none⟩ = some (fnV F) := bcell (Below.refl _ _) (1 + kn) _ hKF
  have LK := Lib.hid LK
  have i1 : (at_ : Int) < (fs.length : Int) := by omega
  have FK := Lib.hid (fun W (hW : Below w.heap.size w W) => find_any fs fn (some ⟨fg, fo, none⟩) c B W (Nat.le_trans hBw hW.size) (h1.below hW hBw) hlen)
  simp only [hfind, Option.getD_some, Option.isSome_some] at FK
  have HW := Lib.hid hW1
  have HZ := Lib.hid hsz
  have hfn := fn_ne_nil F
  have bk8 : ((kn : Int) == 8) = false := beq_eq_false_iff_ne.2 (by omega)
  have bk0 : (0 : Int) ≤ (kn : Int) := by omega
  have bk16 : (kn : Int) < 16 := by omega
  have bkn : kn < 16 := by omega
  unfold nodeV bareQ at hW1
  have HW2 := Lib.hid hW1
  unfold nodeV
  unfold fnV at kb
  rw [hW1] at k0 k1 kb
  clear hW1 hsz h1 hcf hq5 hat hfind hlen hfl hlt hBw
  go_enter Tryz.func50, Tryz.ntmps50
  go_upto_region 3 with fail
  go_quiet (fail)
  have e_fn : fn.toList.isEmpty = false := by rw [tl_empty]; exact beq_eq_false_iff_ne.2 hfn0
  obtain ⟨WA, hWA⟩ : ∃ W, W = W1.drewN nq := ⟨_, rfl⟩
  have hbA : Below W1.heap.size W1 WA := by rw [hWA]; exact bdrewN (Below.refl _ _) _
  have m1 : WA.cell? ⟨w.heap.size, 1, none⟩ = some (.string fn) := ncell hbA 1 _ rfl
  have m0 : WA.cell? ⟨g, 0, none⟩ = some (.slice (some ⟨fg, fo, none⟩) fs.length c) := bcell hbA 0 _ rfl
  rw [← HW2.out, ← hWA]
  have HWA := Lib.hid hWA
  clear hWA
  go_upto_region 7 with fail
  have FK2 := FK.out
  have C1 := fun b : Bw WA.heap.size WA => calls_bw (Nat.le_refl _) (FK2 b.at_ (bchain hbW (bchain hbA b.below)))
  have n1 := Bw.cell (B := WA.heap.size) m1 (by show w.heap.size < _; have := hbA.size; have := HZ.out; omega)
  have n0 := Bw.cell (B := WA.heap.size) m0 (by show g < _; have := hbA.size; have := HZ.out; have := hB.lt; omega)
  clear m0 m1
  refine wp_region_bw WA.heap.size (by kernel_rfl) (by kernel_rfl) ?_
  repeat (go_big_quiet_step ((go_at_call 94; with_reducible exact C1 _)))
  refine wpQuiet_nil ?_
  intro wq hw'
  obtain ⟨⟨wz, hbq⟩, hw''⟩ := hw'
  subst hw''
  have hb10 : Below W1.heap.size W1 wq := bchain hbA hbq
  clear C1 n0 n1
  go_upto_region 10 with fail
  generalize hW10 : wq = W10 at hb10 ⊢
  refine RelbA.wp_region_relba 11 (fun wx => Below W10.heap.size W10 wx) (fun wa wb => Below wa.heap.size wa wb) (by kernel_rfl) (by kernel_rfl) (by kernel_rfl) (by simp) (bdrew (Below.refl _ _)) ?_
  simp only [List.take_succ_cons, List.take_zero, List.drop_succ_cons, List.drop_zero]
  apply Relb.relb_one [] [] (by kernel_rfl) (by kernel_rfl) (by kernel_rfl)
  case hs =>
    intro vv wx hx hf
    clear hf
    try simp only [Relb.putD, Act.put, Base.s1, Base.s2, Base.s3]
    intro KK hK
    go_simp
    exact hK _ _ hx (Below.refl _ _) rfl
  apply Relb.relb_one [] [] (by kernel_rfl) (by kernel_rfl) (by kernel_rfl)
  case hs =>
    intro vv wx hx hf
    clear hf
    have y0 := ncell (bchain hb10 hx) 0 (.int .i64 (kn : Int)) rfl
    have y1 := ncell (bchain hb10 hx) 1 (.string fn) rfl
    have y2 := ncell (bchain hb10 hx) 2 (.string T) rfl
    have y3 := ncell (bchain hb10 hx) 3 (.int .i64 n) rfl
    have y4 := ncell (bchain hb10 hx) 4 (.bool R.lo.op) rfl
    have y5 := ncell (bchain hb10 hx) 5 (.bool R.lo.inn) rfl
    have y6 := ncell (bchain hb10 hx) 6 (.string R.lo.text) rfl
    have y7 := ncell (bchain hb10 hx) 7 (.bool R.hi.op) rfl
    have y8 := ncell (bchain hb10 hx) 8 (.bool R.hi.inn) rfl
    have y9 := ncell (bchain hb10 hx) 9 (.string R.hi.text) rfl
    have y10 := ncell (bchain hb10 hx) 10 (.slice R.A1 R.n1 R.c1) rfl
    have y11 := ncell (bchain hb10 hx) 11 (.slice R.A2 R.n2 R.c2) rfl
    have b0 := bcell (bchain hb10 hx) 0 (.slice (some ⟨fg, fo, none⟩) fs.length c) rfl
    have f0 := (show wx.cell? ⟨fg, fo + at_ * 5, none⟩ = some (.string nm) from fcell (bchain hb10 hx) 0 (.string nm) rfl)
    have f1 := (show wx.cell? ⟨fg, fo + at_ * 5 + 1, none⟩ = some (.int .i64 kd) from fcell (bchain hb10 hx) 1 (.int .i64 kd) rfl)
    have f2 := (show wx.cell? ⟨fg, fo + at_ * 5 + 2, none⟩ = some (.bool a) from fcell (bchain hb10 hx) 2 (.bool a) rfl)
    have f3 := (show wx.cell? ⟨fg, fo + at_ * 5 + 3, none⟩ = some (.bool b) from fcell (bchain hb10 hx) 3 (.bool b) rfl)
    have f4 := (show wx.cell? ⟨fg, fo + at_ * 5 + 4, none⟩ = some (.bool d) from fcell (bchain hb10 hx) 4 (.bool d) rfl)
    try simp only [Relb.putD, Act.put, Base.s1, Base.s2, Base.s3]
    intro KK hK
    go_simp
    exact hK _ _ hx (Below.refl _ _) rfl
  apply Relb.relb_one [] [] (by kernel_rfl) (by kernel_rfl) (by kernel_rfl)
  case hs =>
    intro vv wx hx hf
    clear hf
    try simp only [Relb.putD, Act.put, Base.s1, Base.s2, Base.s3]
    intro KK hK
    go_simp
    exact hK _ _ hx (Below.refl _ _) rfl
  apply Relb.relb_one [(2, 45)] [2] (by kernel_rfl) (by kernel_rfl) (by kernel_rfl)
  case hs =>
    intro vv wx hx hf
    have e45 : vv 2 = _ := hf 2 (by simp)
    clear hf
    try simp only [Relb.putD, e45, Act.put, Base.s1, Base.s2, Base.s3]
    intro KK hK
    go_simp
    exact hK _ _ hx (Below.refl _ _) rfl
  apply Relb.relb_one [(3, 46)] [3] (by kernel_rfl) (by kernel_rfl) (by kernel_rfl)
  case hs =>
    intro vv wx hx hf
    have e46 : vv 3 = _ := hf 3 (by simp)
    clear hf
    try simp only [Relb.putD, e46, Act.put, Base.s1, Base.s2, Base.s3]
    intro KK hK
    go_simp
    exact hK _ _ hx (Below.refl _ _) rfl
  apply Relb.relb_one [(4, 47)] [4] (by kernel_rfl) (by kernel_rfl) (by kernel_rfl)
  case hs =>
    intro vv wx hx hf
    have e47 : vv 4 = _ := hf 4 (by simp)
    clear hf
    try simp only [Relb.putD, e47, Act.put, Base.s1, Base.s2, Base.s3]
    intro KK hK
    go_simp
    exact hK _ _ hx (Below.refl _ _) rfl
  apply Relb.relb_one [(5, 48)] [5] (by kernel_rfl) (by kernel_rfl) (by kernel_rfl)
  case hs =>
    intro vv wx hx hf
    have e48 : vv 5 = _ := hf 5 (by simp)
    clear hf
    have y0 := ncell (bchain hb10 hx) 0 (.int .i64 (kn : Int)) rfl
    have y1 := ncell (bchain hb10 hx) 1 (.string fn) rfl
    have y2 := ncell (bchain hb10 hx) 2 (.string T) rfl
    have y3 := ncell (bchain hb10 hx) 3 (.int .i64 n) rfl
    have y4 := ncell (bchain hb10 hx) 4 (.bool R.lo.op) rfl
    have y5 := ncell (bchain hb10 hx) 5 (.bool R.lo.inn) rfl
    have y6 := ncell (bchain hb10 hx) 6 (.string R.lo.text) rfl
    have y7 := ncell (bchain hb10 hx) 7 (.bool R.hi.op) rfl
    have y8 := ncell (bchain hb10 hx) 8 (.bool R.hi.inn) rfl
    have y9 := ncell (bchain hb10 hx) 9 (.string R.hi.text) rfl
    have y10 := ncell (bchain hb10 hx) 10 (.slice R.A1 R.n1 R.c1) rfl
    have y11 := ncell (bchain hb10 hx) 11 (.slice R.A2 R.n2 R.c2) rfl
    have b0 := bcell (bchain hb10 hx) 0 (.slice (some ⟨fg, fo, none⟩) fs.length c) rfl
    have f0 := (show wx.cell? ⟨fg, fo + at_ * 5, none⟩ = some (.string nm) from fcell (bchain hb10 hx) 0 (.string nm) rfl)
    have f1 := (show wx.cell? ⟨fg, fo + at_ * 5 + 1, none⟩ = some (.int .i64 kd) from fcell (bchain hb10 hx) 1 (.int .i64 kd) rfl)
    have f2 := (show wx.cell? ⟨fg, fo + at_ * 5 + 2, none⟩ = some (.bool a) from fcell (bchain hb10 hx) 2 (.bool a) rfl)
    have f3 := (show wx.cell? ⟨fg, fo + at_ * 5 + 3, none⟩ = some (.bool b) from fcell (bchain hb10 hx) 3 (.bool b) rfl)
    have f4 := (show wx.cell? ⟨fg, fo + at_ * 5 + 4, none⟩ = some (.bool d) from fcell (bchain hb10 hx) 4 (.bool d) rfl)
    try simp only [Relb.putD, e48, Act.put, Base.s1, Base.s2, Base.s3]
    intro KK hK
    go_simp
    exact hK _ _ hx (Below.refl _ _) rfl
  apply Relb.relb_one [] [] (by kernel_rfl) (by kernel_rfl) (by kernel_rfl)
  case hs =>
    intro vv wx hx hf
    clear hf
    try simp only [Relb.putD, Act.put, Base.s1, Base.s2, Base.s3]
    intro KK hK
    go_simp
    exact hK _ _ hx (Below.refl _ _) rfl
  apply Relb.relb_one [(6, 49), (7, 50)] [6, 7] (by kernel_rfl) (by kernel_rfl) (by kernel_rfl)
  case hs =>
    intro vv wx hx hf
    have e49 : vv 6 = _ := hf 6 (by simp)
    have e50 : vv 7 = _ := hf 7 (by simp)
    clear hf
    try simp only [Relb.putD, e49, e50, Act.put, Base.s1, Base.s2, Base.s3]
    intro KK hK
    go_simp
    exact hK _ _ hx (Below.refl _ _) rfl
  apply Relb.relb_one [(8, 51)] [8] (by kernel_rfl) (by kernel_rfl) (by kernel_rfl)
  case hs =>
    intro vv wx hx hf
    have e51 : vv 8 = _ := hf 8 (by simp)
    clear hf
    have y0 := ncell (bchain hb10 hx) 0 (.int .i64 (kn : Int)) rfl
    have y1 := ncell (bchain hb10 hx) 1 (.string fn) rfl
    have y2 := ncell (bchain hb10 hx) 2 (.string T) rfl
    have y3 := ncell (bchain hb10 hx) 3 (.int .i64 n) rfl
    have y4 := ncell (bchain hb10 hx) 4 (.bool R.lo.op) rfl
    have y5 := ncell (bchain hb10 hx) 5 (.bool R.lo.inn) rfl
    have y6 := ncell (bchain hb10 hx) 6 (.string R.lo.text) rfl
    have y7 := ncell (bchain hb10 hx) 7 (.bool R.hi.op) rfl
    have y8 := ncell (bchain hb10 hx) 8 (.bool R.hi.inn) rfl
    have y9 := ncell (bchain hb10 hx) 9 (.string R.hi.text) rfl
    have y10 := ncell (bchain hb10 hx) 10 (.slice R.A1 R.n1 R.c1) rfl
    have y11 := ncell (bchain hb10 hx) 11 (.slice R.A2 R.n2 R.c2) rfl
    have b0 := bcell (bchain hb10 hx) 0 (.slice (some ⟨fg, fo, none⟩) fs.length c) rfl
    have f0 := (show wx.cell? ⟨fg, fo + at_ * 5, none⟩ = some (.string nm) from fcell (bchain hb10 hx) 0 (.string nm) rfl)
    have f1 := (show wx.cell? ⟨fg, fo + at_ * 5 + 1, none⟩ = some (.int .i64 kd) from fcell (bchain hb10 hx) 1 (.int .i64 kd) rfl)
    have f2 := (show wx.cell? ⟨fg, fo + at_ * 5 + 2, none⟩ = some (.bool a) from fcell (bchain hb10 hx) 2 (.bool a) rfl)
    have f3 := (show wx.cell? ⟨fg, fo + at_ * 5 + 3, none⟩ = some (.bool b) from fcell (bchain hb10 hx) 3 (.bool b) rfl)
    have f4 := (show wx.cell? ⟨fg, fo + at_ * 5 + 4, none⟩ = some (.bool d) from fcell (bchain hb10 hx) 4 (.bool d) rfl)
    try simp only [Relb.putD, e51, Act.put, Base.s1, Base.s2, Base.s3]
    intro KK hK
    go_simp
    exact hK _ _ hx (Below.refl _ _) rfl
  apply Relb.relb_one [] [] (by kernel_rfl) (by kernel_rfl) (by kernel_rfl)
  case hs =>
    intro vv wx hx hf
    clear hf
    try simp only [Relb.putD, Act.put, Base.s1, Base.s2, Base.s3]
    intro KK hK
    go_simp
    exact hK _ _ hx (Below.refl _ _) rfl
  refine RelbA.relba_end (N := 5) [(0, 43), (1, 44), (2, 45), (3, 46), (4, 47), (5, 48), (6, 49), (7, 50), (8, 51), (9, 52), (10, 53)] (by kernel_rfl) (by kernel_rfl) ?_
  intro vv wx hx hf
  have e43 : vv 0 = _ := hf 0 (by decide)
  have e44 : vv 1 = _ := hf 1 (by decide)
  have e45 : vv 2 = _ := hf 2 (by decide)
  have e46 : vv 3 = _ := hf 3 (by decide)
  have e47 : vv 4 = _ := hf 4 (by decide)
  have e48 : vv 5 = _ := hf 5 (by decide)
  have e49 : vv 6 = _ := hf 6 (by decide)
  have e50 : vv 7 = _ := hf 7 (by decide)
  have e51 : vv 8 = _ := hf 8 (by decide)
  have e52 : vv 9 = _ := hf 9 (by decide)
  have e53 : vv 10 = _ := hf 10 (by decide)
  clear hf
  simp only [Relb.putD, e43, e44, e45, e46, e47, e48, e49, e50, e51, e52, e53, Act.put, Base.s1, Base.s2, Base.s3]
  clear e43 e44 e45 e46 e47 e48 e49 e50 e51 e52 e53
  refine wpAny_ready (rs := [11]) (by kernel_rfl) (by simp) ?_
  refine AllReady.cons (by rw [List.getElem?_toArray]; rfl) (fun K hK => ?_) AllReady.nil
  go_simp
  refine (LK.out _ (bchain hbW (bchain hb10 hx))).mono ?_
  rintro e w2 ⟨cs, rfl, hv, hb2⟩
  obtain ⟨hd, ks, A1, A2, A3, A4, c1, c2, c3, c4, kc, hw, hkl, h1', h2', h3', h4', h5'⟩ := hv.val
  clear h1' h2' h3' h4' h5' hw hkl
  refine hK _ _ ?_
  clear hK K
  try simp only [Act.put, Base.s1, Base.s2, Base.s3]
  have hfin : Below w.heap.size w w2 := bchain (bchain hbW (bchain hb10 hx)) hb2
  have KZ := KQ.below (bchain (bchain hb10 hx) hb2) (by have := HZ.out; omega)
  unfold bareQ at KZ
  obtain ⟨z0, z1, z2, z3, z4, z5, z6, z7, z8, z9, z10, z11, z12, z13, z14⟩ := qrow KZ
  obtain ⟨y0, y1, y2, y3, y4, y5, y6, y7, y8, y9, y10, y11, y12, y13, y14⟩ := qfz KZ
  (refine wpAny_take (i := 12) (v := ?v12) (by rw [List.getElem?_toArray]; rfl) (by kernel_rfl) (by kernel_rfl) (by kernel_rfl) (by exact fun _ _ _ h => h) (Or.inl ⟨by rfl, ?y12⟩) ?r12)
  case y12 => (intro w'; go_simp; try with_reducible rfl)
  try simp only [Act.put, Base.s1, Base.s2, Base.s3]
  (refine wpAny_take (i := 13) (v := ?v13) (by rw [List.getElem?_toArray]; rfl) (by kernel_rfl) (by kernel_rfl) (by kernel_rfl) (by exact fun _ _ _ h => h) (Or.inl ⟨by rfl, ?y13⟩) ?r13)
  case y13 => (intro w'; go_simp; try with_reducible rfl)
  try simp only [Act.put, Base.s1, Base.s2, Base.s3]
  refine wpAny_ready (rs := [14]) (by kernel_rfl) (by simp) ?_
  refine AllReady.cons (by rw [List.getElem?_toArray]; rfl) (fun K hK => ?_) AllReady.nil
  go_simp
  refine hK _ _ ?_
  clear hK K
  try simp only [Act.put, Base.s1, Base.s2, Base.s3]
  refine wpAny_ready (rs := [15]) (by kernel_rfl) (by simp) ?_
  refine AllReady.cons (by rw [List.getElem?_toArray]; rfl) (fun K hK => ?_) AllReady.nil
  go_simp
  refine hK _ _ ?_
  clear hK K
  try simp only [Act.put, Base.s1, Base.s2, Base.s3]
  refine wpAny_done (by kernel_rfl) ?_ _
  clear z0 y0 z1 y1 z2 y2 z3 y3 z4 y4 z5 y5 z6 y6 z7 y7 z8 y8 z9 y9 z10 y10 z11 y11 z12 y12 z13 y13 z14 y14
  go_wp2_with fail
  refine bodyPost_ret (results_blk (p := 4) (u := 5) (ty := 29) (t := 29) (g := w.heap.size + 1) (cs := #[.int .i64 hd.kind, .int .i64 hd.field, .string hd.text, .slice A1 hd.terms.length c1, .slice A2 hd.offs.length c2, .int .i64 hd.n, .int .u64 hd.weight, .bool hd.lo.op, .bool hd.lo.inn, .string hd.lo.text, .bool hd.hi.op, .bool hd.hi.inn, .string hd.hi.text, .slice A3 hd.occur.length c3, .slice A4 ks.length c4]) ?_ ?_ (blk15 KZ) Tryz.underlying29 ?_ ?_) ?_ ?_
  · rfl
  · rfl
  · rfl
  · rw [qInfo]; rfl
  · rfl
  · exact ⟨[.int .i64 hd.kind, .int .i64 hd.field, .string hd.text, .slice A1 hd.terms.length c1, .slice A2 hd.offs.length c2, .int .i64 hd.n, .int .u64 hd.weight, .bool hd.lo.op, .bool hd.lo.inn, .string hd.lo.text, .bool hd.hi.op, .bool hd.hi.inn, .string hd.hi.text, .slice A3 hd.occur.length c3, .slice A4 ks.length c4], rfl, (fresh15 hv (by have := HZ.out; have := (bchain hb10 hx).size; omega)).mono (by have := (bchain hbW (bchain hb10 hx)).size; omega), below15 hfin (Nat.le_succ _)⟩
end Go.Proofs.YtkcfgcdlnojaeaaGreatDoor.BindLeafF

namespace Go.Proofs.YtkcfgcdlnojaeaaGreatDoor.BindLeafN
set_option maxRecDepth 100000
open Go.RowKit Go.PlainAid Base Query OpenField FieldPlain BindBase NodeTerm NodeTree Binder WordPlain WordsWalk StopsWalk OfText OfAny WordsOne WordsAny SchFind BindTerm LeafBase Rel Relb RelbT RelbA

set_option maxHeartbeats 4000000 in
theorem bind_leaf (kn F : Nat) (T : ByteArray) (n : Int) (R : NRest) (hK1 : 1 ≤ kn) (hK7 : kn ≤ 7) (fn : ByteArray) (hfn0 : fn.size ≠ 0) (fs : List Fld) (fg fo c g B : Nat) (w : World) (hBw : B ≤ w.heap.size) (h1 : Slc w B (some ⟨fg, fo, none⟩) (fldCells fs)) (hlen : fs.length ≤ 9223372036854775807) (hfind : findS fs fn = none)
    (hB : Blk w g 147 (binderC (some ⟨fg, fo, none⟩) fs.length c)) (hKF : (binderC (some ⟨fg, fo, none⟩) fs.length c)[1 + kn]? = some (fnV F)) (EF : ∀ args W, (callFunc F args).run Tryz.prog W = .ok (.enter F args) W)  :
    Calls Tryz.prog 50 #[.pointer (some ⟨g, 0, none⟩), .agg (nodeV (kn : Int) fn T n R)] w (IsQ noneQ true w) := by
  obtain ⟨W1, hW1⟩ : ∃ W, W = (w.alloc (.cells (nodeV (kn : Int) fn T n R) 39)).alloc (.cells (bareQ 0 0 ⟨#[]⟩) 29) := ⟨_, rfl⟩
  have KN : Blk W1 w.heap.size 39 (nodeV (kn : Int) fn T n R) := by rw [hW1]; exact (Blk.new w _ _).alloc _
  have KQ : Blk W1 (w.heap.size + 1) 29 (bareQ 0 0 ⟨#[]⟩) := by
    rw [hW1]
    have := Blk.new (w.alloc (.cells (nodeV (kn : Int) fn T n R) 39)) 29 (bareQ 0 0 ⟨#[]⟩)
    rwa [World.size_alloc] at this
  have hbW : Below w.heap.size w W1 := by rw [hW1]; exact Base.bel
  have hsz : w.heap.size + 2 = W1.heap.size := by rw [hW1]; simp
  have ncell : ∀ {wx : World} (hx : Below W1.heap.size W1 wx) (j : Nat) (u : Value) (_ : (nodeV (kn : Int) fn T n R)[j]? = some u), wx.cell? ⟨w.heap.size, j, none⟩ = some u := fun hx j u hu => ((KN.below hx (by omega)).cell j).trans hu
  have bcell : ∀ {wx : World} (hx : Below W1.heap.size W1 wx) (j : Nat) (u : Value) (_ : (binderC (some ⟨fg, fo, none⟩) fs.length c)[j]? = some u), wx.cell? ⟨g, j, none⟩ = some u := fun hx j u hu => (((hB.below hbW hB.lt).below hx (by have := hB.lt; omega)).cell j).trans hu
  have k0 : W1.cell? ⟨w.heap.size, 0, none⟩ = some (.int .i64 (kn : Int)) := KN.cell 0
  have k1 : W1.cell? ⟨w.heap.size, 1, none⟩ = some (.string fn) := KN.cell 1
  have kb : W1.cell? ⟨g, 1 + kn, none⟩ = some (fnV F) := bcell (Below.refl _ _) (1 + kn) _ hKF
  have FK := Lib.hid (fun W (hW : Below w.heap.size w W) => find_any fs fn (some ⟨fg, fo, none⟩) c B W (Nat.le_trans hBw hW.size) (h1.below hW hBw) hlen)
  simp only [hfind, Option.getD_none, Option.isSome_none] at FK
  have HW := Lib.hid hW1
  have HZ := Lib.hid hsz
  have hfn := fn_ne_nil F
  have bk8 : ((kn : Int) == 8) = false := beq_eq_false_iff_ne.2 (by omega)
  have bk0 : (0 : Int) ≤ (kn : Int) := by omega
  have bk16 : (kn : Int) < 16 := by omega
  have bkn : kn < 16 := by omega
  unfold nodeV bareQ at hW1
  have HW2 := Lib.hid hW1
  unfold nodeV
  unfold fnV at kb
  rw [hW1] at k0 k1 kb
  clear hW1 hsz h1 hfind hlen hBw
  go_enter Tryz.func50, Tryz.ntmps50
  go_upto_region 3 with fail
  go_quiet (fail)
  have e_fn : fn.toList.isEmpty = false := by rw [tl_empty]; exact beq_eq_false_iff_ne.2 hfn0
  obtain ⟨WA, hWA⟩ : ∃ W, W = W1.drewN nq := ⟨_, rfl⟩
  have hbA : Below W1.heap.size W1 WA := by rw [hWA]; exact bdrewN (Below.refl _ _) _
  have m1 : WA.cell? ⟨w.heap.size, 1, none⟩ = some (.string fn) := ncell hbA 1 _ rfl
  have m0 : WA.cell? ⟨g, 0, none⟩ = some (.slice (some ⟨fg, fo, none⟩) fs.length c) := bcell hbA 0 _ rfl
  rw [← HW2.out, ← hWA]
  have HWA := Lib.hid hWA
  clear hWA
  go_upto_region 7 with fail
  have FK2 := FK.out
  have C1 := fun b : Bw WA.heap.size WA => calls_bw (Nat.le_refl _) (FK2 b.at_ (bchain hbW (bchain hbA b.below)))
  have n1 := Bw.cell (B := WA.heap.size) m1 (by show w.heap.size < _; have := hbA.size; have := HZ.out; omega)
  have n0 := Bw.cell (B := WA.heap.size) m0 (by show g < _; have := hbA.size; have := HZ.out; have := hB.lt; omega)
  clear m0 m1
  refine wp_region_bw WA.heap.size (by kernel_rfl) (by kernel_rfl) ?_
  repeat (go_big_quiet_step ((go_at_call 94; with_reducible exact C1 _)))
  refine wpQuiet_nil ?_
  intro wq hw'
  obtain ⟨⟨wz, hbq⟩, hw''⟩ := hw'
  subst hw''
  have hb10 : Below W1.heap.size W1 wq := bchain hbA hbq
  clear C1 n0 n1
  go_wp2_with (go_at_call 51; refine (none_lit _).mono ?_; rintro e w2 ⟨rfl, hb2⟩; have KZ := KQ.below (bchain hb10 hb2) (by have := HZ.out; omega); unfold bareQ at KZ; obtain ⟨z0, z1, z2, z3, z4, z5, z6, z7, z8, z9, z10, z11, z12, z13, z14⟩ := qrow KZ; obtain ⟨y0, y1, y2, y3, y4, y5, y6, y7, y8, y9, y10, y11, y12, y13, y14⟩ := qfz KZ)
  refine bodyPost_ret (results_blk (p := 4) (u := 5) (ty := 29) (t := 29) (g := w.heap.size + 1) (cs := bareQ 1 0 ⟨#[]⟩) ?_ ?_ (blk15 KZ) Tryz.underlying29 ?_ ?_) ?_ ?_
  · rfl
  · rfl
  · rfl
  · rw [qInfo]; rfl
  · rfl
  · exact isq_bare (k := 1) (f := 0) (t := ⟨#[]⟩) rfl rfl (Nat.zero_le _) rfl (below15 (bchain hbW (bchain hb10 hb2)) (Nat.le_succ _))
end Go.Proofs.YtkcfgcdlnojaeaaGreatDoor.BindLeafN
