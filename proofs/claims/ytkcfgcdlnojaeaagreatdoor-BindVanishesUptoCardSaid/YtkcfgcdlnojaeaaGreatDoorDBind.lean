/-
  The walk of a binder's bind over a term's node without a field.
  The walk of bind.Bind over a good schema and a term's node without a field.
-/
import Derived.Test.YtkcfgcdlnojaeaaGreatDoorWordsOne
import Derived.Test.YtkcfgcdlnojaeaaGreatDoorDRel
import Derived.RegionTactic
import Derived.Deep.Cut
import Derived.Test.YtkcfgcdlnojaeaaGreatDoorDSchema
set_option linter.unusedVariables false
set_option linter.unusedSimpArgs false
namespace Go.Proofs.YtkcfgcdlnojaeaaGreatDoor.BindTerm
set_option maxRecDepth 100000
open Go.RowKit Go.PlainAid Base Query BindBase NodeTerm Binder WordPlain WordsWalk StopsWalk OfText OfAny WordsOne Rel Relb RelbT RelbA

theorem fn_ne_nil (f : Nat) (W : World) : (binOp .neq 144 (.func (.func f) #[] #[]) .nilFunc).run Tryz.prog W = .ok (.bool true) W := by rfl

set_option maxHeartbeats 4000000 in
theorem bind_term (T nm : ByteArray) (a b d : Bool) (tk : Tok) (fg fo n c : Nat) (g : Nat) (w : World) (hof : ofT 1 a b d T = [tk]) (hs : T.size ≤ 1048576) (ht : Tab w) (h0 : 3 < w.heap.size)
    (hn : 0 < n) (hB : Blk w g 147 (binderC (some ⟨fg, fo, none⟩) n c)) (hfg : fg < w.heap.size)
    (hF : ∀ j u, #[Value.string nm, .int .i64 1, .bool a, .bool b, .bool d][j]? = some u → w.cell? ⟨fg, fo + j, none⟩ = some u) :
    Calls Tryz.prog 50 #[.pointer (some ⟨g, 0, none⟩), .agg (nodeT ⟨#[]⟩ T)] w fun e w' => e = .returned (.tuple #[.agg (bareQ 4 0 tk.text), .bool true]) ∧ Below w.heap.size w w' := by
  obtain ⟨W1, hW1⟩ : ∃ W, W = (w.alloc (.cells (nodeT ⟨#[]⟩ T) 39)).alloc (.cells (bareQ 0 0 ⟨#[]⟩) 29) := ⟨_, rfl⟩
  have KN : Blk W1 w.heap.size 39 (nodeT ⟨#[]⟩ T) := by rw [hW1]; exact (Blk.new w _ _).alloc _
  have KQ : Blk W1 (w.heap.size + 1) 29 (bareQ 0 0 ⟨#[]⟩) := by
    rw [hW1]
    have := Blk.new (w.alloc (.cells (nodeT ⟨#[]⟩ T) 39)) 29 (bareQ 0 0 ⟨#[]⟩)
    rwa [World.size_alloc] at this
  have hbW : Below w.heap.size w W1 := by rw [hW1]; exact Base.bel
  have hsz : w.heap.size + 2 = W1.heap.size := by rw [hW1]; simp
  have ncell : ∀ {wx : World} (hx : Below W1.heap.size W1 wx) (j : Nat) (u : Value) (_ : (nodeT ⟨#[]⟩ T)[j]? = some u), wx.cell? ⟨w.heap.size, j, none⟩ = some u := fun hx j u hu => ((KN.below hx (by omega)).cell j).trans hu
  have bcell : ∀ {wx : World} (hx : Below W1.heap.size W1 wx) (j : Nat) (u : Value) (_ : (binderC (some ⟨fg, fo, none⟩) n c)[j]? = some u), wx.cell? ⟨g, j, none⟩ = some u := fun hx j u hu => (((hB.below hbW hB.lt).below hx (by have := hB.lt; omega)).cell j).trans hu
  have fcell : ∀ {wx : World} (hx : Below W1.heap.size W1 wx) (j : Nat) (u : Value) (_ : #[Value.string nm, .int .i64 1, .bool a, .bool b, .bool d][j]? = some u), wx.cell? ⟨fg, fo + j, none⟩ = some u := fun hx j u hu => (hx.cell (p := ⟨fg, fo + j, none⟩) (by show fg < _; omega)).trans ((hbW.cell (p := ⟨fg, fo + j, none⟩) hfg).trans (hF j u hu))
  have k0 : W1.cell? ⟨w.heap.size, 0, none⟩ = some (.int .i64 1) := KN.cell 0
  have k1 : W1.cell? ⟨w.heap.size, 1, none⟩ = some (.string ⟨#[]⟩) := KN.cell 1
  have kb : W1.cell? ⟨g, 2, none⟩ = some (fnV 88) := bcell (Below.refl _ _) 2 _ rfl
  have WO := Lib.hid (fun W (hW : Below w.heap.size w W) => words_one ⟨#[]⟩ T nm a b d 0 tk W hof hs (tab_below ht hW h0) (Nat.lt_of_lt_of_le h0 hW.size))
  have HW := Lib.hid hW1
  have HZ := Lib.hid hsz
  have i1 : (0 : Int) < (n : Int) := by omega
  have hfn := fn_ne_nil 88
  unfold nodeT bareQ at hW1
  have HW2 := Lib.hid hW1
  unfold nodeT bareQ at WO
  unfold nodeT
  unfold fnV at kb
  rw [hW1] at k0 k1 kb
  clear hW1 hsz hof ht hF
  go_enter Tryz.func50, Tryz.ntmps50
  go_upto_region 3 with fail
  go_quiet (fail)
  go_upto_region 10 with fail
  have hb10 : Below W1.heap.size W1 (W1.drewN nq) := bdrewN (Below.refl _ _) _
  rw [← HW2.out]
  generalize (W1.drewN nq) = W10 at hb10 ⊢
  refine RelbA.wp_region_relba 11 (fun wx => Below W10.heap.size W10 wx) (fun wa wb => Below wa.heap.size wa wb) (by kernel_rfl) (by kernel_rfl) (by kernel_rfl) (by simp) (bdrew (Below.refl _ _)) ?_
  simp only [List.take_succ_cons, List.take_zero, List.drop_succ_cons, List.drop_zero]
  apply Relb.relb_one [] [] (by kernel_rfl) (by kernel_rfl) (by kernel_rfl)
  case hs =>
    intro vv wx hx hf
    clear hf
    try simp only [Relb.putD, Act.put, Base.s1, Base.s2, Base.s3]
    intro KK hK
    go_simp
    exact hK _ _ hx (Below.refl _ _) rfl
  apply Relb.relb_one [] [] (by kernel_rfl) (by kernel_rfl) (by kernel_rfl)
  case hs =>
    intro vv wx hx hf
    clear hf
    have y0 := ncell (bchain hb10 hx) 0 (.int .i64 1) rfl
    have y1 := ncell (bchain hb10 hx) 1 (.string ⟨#[]⟩) rfl
    have y2 := ncell (bchain hb10 hx) 2 (.string T) rfl
    have y3 := ncell (bchain hb10 hx) 3 (.int .i64 0) rfl
    have y4 := ncell (bchain hb10 hx) 4 (.bool false) rfl
    have y5 := ncell (bchain hb10 hx) 5 (.bool false) rfl
    have y6 := ncell (bchain hb10 hx) 6 (.string ⟨#[]⟩) rfl
    have y7 := ncell (bchain hb10 hx) 7 (.bool false) rfl
    have y8 := ncell (bchain hb10 hx) 8 (.bool false) rfl
    have y9 := ncell (bchain hb10 hx) 9 (.string ⟨#[]⟩) rfl
    have y10 := ncell (bchain hb10 hx) 10 (.slice none 0 0) rfl
    have y11 := ncell (bchain hb10 hx) 11 (.slice none 0 0) rfl
    have b0 := bcell (bchain hb10 hx) 0 (.slice (some ⟨fg, fo, none⟩) n c) rfl
    have f0 := (show wx.cell? ⟨fg, fo, none⟩ = some (.string nm) from fcell (bchain hb10 hx) 0 (.string nm) rfl)
    have f1 := fcell (bchain hb10 hx) 1 (.int .i64 1) rfl
    have f2 := fcell (bchain hb10 hx) 2 (.bool a) rfl
    have f3 := fcell (bchain hb10 hx) 3 (.bool b) rfl
    have f4 := fcell (bchain hb10 hx) 4 (.bool d) rfl
    try simp only [Relb.putD, Act.put, Base.s1, Base.s2, Base.s3]
    intro KK hK
    go_simp
    exact hK _ _ hx (Below.refl _ _) rfl
  apply Relb.relb_one [] [] (by kernel_rfl) (by kernel_rfl) (by kernel_rfl)
  case hs =>
    intro vv wx hx hf
    clear hf
    try simp only [Relb.putD, Act.put, Base.s1, Base.s2, Base.s3]
    intro KK hK
    go_simp
    exact hK _ _ hx (Below.refl _ _) rfl
  apply Relb.relb_one [(2, 45)] [2] (by kernel_rfl) (by kernel_rfl) (by kernel_rfl)
  case hs =>
    intro vv wx hx hf
    have e45 : vv 2 = _ := hf 2 (by simp)
    clear hf
    try simp only [Relb.putD, e45, Act.put, Base.s1, Base.s2, Base.s3]
    intro KK hK
    go_simp
    exact hK _ _ hx (Below.refl _ _) rfl
  apply Relb.relb_one [(3, 46)] [3] (by kernel_rfl) (by kernel_rfl) (by kernel_rfl)
  case hs =>
    intro vv wx hx hf
    have e46 : vv 3 = _ := hf 3 (by simp)
    clear hf
    try simp only [Relb.putD, e46, Act.put, Base.s1, Base.s2, Base.s3]
    intro KK hK
    go_simp
    exact hK _ _ hx (Below.refl _ _) rfl
  apply Relb.relb_one [(4, 47)] [4] (by kernel_rfl) (by kernel_rfl) (by kernel_rfl)
  case hs =>
    intro vv wx hx hf
    have e47 : vv 4 = _ := hf 4 (by simp)
    clear hf
    try simp only [Relb.putD, e47, Act.put, Base.s1, Base.s2, Base.s3]
    intro KK hK
    go_simp
    exact hK _ _ hx (Below.refl _ _) rfl
  apply Relb.relb_one [(5, 48)] [5] (by kernel_rfl) (by kernel_rfl) (by kernel_rfl)
  case hs =>
    intro vv wx hx hf
    have e48 : vv 5 = _ := hf 5 (by simp)
    clear hf
    have y0 := ncell (bchain hb10 hx) 0 (.int .i64 1) rfl
    have y1 := ncell (bchain hb10 hx) 1 (.string ⟨#[]⟩) rfl
    have y2 := ncell (bchain hb10 hx) 2 (.string T) rfl
    have y3 := ncell (bchain hb10 hx) 3 (.int .i64 0) rfl
    have y4 := ncell (bchain hb10 hx) 4 (.bool false) rfl
    have y5 := ncell (bchain hb10 hx) 5 (.bool false) rfl
    have y6 := ncell (bchain hb10 hx) 6 (.string ⟨#[]⟩) rfl
    have y7 := ncell (bchain hb10 hx) 7 (.bool false) rfl
    have y8 := ncell (bchain hb10 hx) 8 (.bool false) rfl
    have y9 := ncell (bchain hb10 hx) 9 (.string ⟨#[]⟩) rfl
    have y10 := ncell (bchain hb10 hx) 10 (.slice none 0 0) rfl
    have y11 := ncell (bchain hb10 hx) 11 (.slice none 0 0) rfl
    have b0 := bcell (bchain hb10 hx) 0 (.slice (some ⟨fg, fo, none⟩) n c) rfl
    have f0 := (show wx.cell? ⟨fg, fo, none⟩ = some (.string nm) from fcell (bchain hb10 hx) 0 (.string nm) rfl)
    have f1 := fcell (bchain hb10 hx) 1 (.int .i64 1) rfl
    have f2 := fcell (bchain hb10 hx) 2 (.bool a) rfl
    have f3 := fcell (bchain hb10 hx) 3 (.bool b) rfl
    have f4 := fcell (bchain hb10 hx) 4 (.bool d) rfl
    try simp only [Relb.putD, e48, Act.put, Base.s1, Base.s2, Base.s3]
    intro KK hK
    go_simp
    exact hK _ _ hx (Below.refl _ _) rfl
  apply Relb.relb_one [] [] (by kernel_rfl) (by kernel_rfl) (by kernel_rfl)
  case hs =>
    intro vv wx hx hf
    clear hf
    try simp only [Relb.putD, Act.put, Base.s1, Base.s2, Base.s3]
    intro KK hK
    go_simp
    exact hK _ _ hx (Below.refl _ _) rfl
  apply Relb.relb_one [(6, 49), (7, 50)] [6, 7] (by kernel_rfl) (by kernel_rfl) (by kernel_rfl)
  case hs =>
    intro vv wx hx hf
    have e49 : vv 6 = _ := hf 6 (by simp)
    have e50 : vv 7 = _ := hf 7 (by simp)
    clear hf
    try simp only [Relb.putD, e49, e50, Act.put, Base.s1, Base.s2, Base.s3]
    intro KK hK
    go_simp
    exact hK _ _ hx (Below.refl _ _) rfl
  apply Relb.relb_one [(8, 51)] [8] (by kernel_rfl) (by kernel_rfl) (by kernel_rfl)
  case hs =>
    intro vv wx hx hf
    have e51 : vv 8 = _ := hf 8 (by simp)
    clear hf
    have y0 := ncell (bchain hb10 hx) 0 (.int .i64 1) rfl
    have y1 := ncell (bchain hb10 hx) 1 (.string ⟨#[]⟩) rfl
    have y2 := ncell (bchain hb10 hx) 2 (.string T) rfl
    have y3 := ncell (bchain hb10 hx) 3 (.int .i64 0) rfl
    have y4 := ncell (bchain hb10 hx) 4 (.bool false) rfl
    have y5 := ncell (bchain hb10 hx) 5 (.bool false) rfl
    have y6 := ncell (bchain hb10 hx) 6 (.string ⟨#[]⟩) rfl
    have y7 := ncell (bchain hb10 hx) 7 (.bool false) rfl
    have y8 := ncell (bchain hb10 hx) 8 (.bool false) rfl
    have y9 := ncell (bchain hb10 hx) 9 (.string ⟨#[]⟩) rfl
    have y10 := ncell (bchain hb10 hx) 10 (.slice none 0 0) rfl
    have y11 := ncell (bchain hb10 hx) 11 (.slice none 0 0) rfl
    have b0 := bcell (bchain hb10 hx) 0 (.slice (some ⟨fg, fo, none⟩) n c) rfl
    have f0 := (show wx.cell? ⟨fg, fo, none⟩ = some (.string nm) from fcell (bchain hb10 hx) 0 (.string nm) rfl)
    have f1 := fcell (bchain hb10 hx) 1 (.int .i64 1) rfl
    have f2 := fcell (bchain hb10 hx) 2 (.bool a) rfl
    have f3 := fcell (bchain hb10 hx) 3 (.bool b) rfl
    have f4 := fcell (bchain hb10 hx) 4 (.bool d) rfl
    try simp only [Relb.putD, e51, Act.put, Base.s1, Base.s2, Base.s3]
    intro KK hK
    go_simp
    exact hK _ _ hx (Below.refl _ _) rfl
  apply Relb.relb_one [] [] (by kernel_rfl) (by kernel_rfl) (by kernel_rfl)
  case hs =>
    intro vv wx hx hf
    clear hf
    try simp only [Relb.putD, Act.put, Base.s1, Base.s2, Base.s3]
    intro KK hK
    go_simp
    exact hK _ _ hx (Below.refl _ _) rfl
  refine RelbA.relba_end (N := 5) [(0, 43), (1, 44), (2, 45), (3, 46), (4, 47), (5, 48), (6, 49), (7, 50), (8, 51), (9, 52), (10, 53)] (by kernel_rfl) (by kernel_rfl) ?_
  intro vv wx hx hf
  have e43 : vv 0 = _ := hf 0 (by decide)
  have e44 : vv 1 = _ := hf 1 (by decide)
  have e45 : vv 2 = _ := hf 2 (by decide)
  have e46 : vv 3 = _ := hf 3 (by decide)
  have e47 : vv 4 = _ := hf 4 (by decide)
  have e48 : vv 5 = _ := hf 5 (by decide)
  have e49 : vv 6 = _ := hf 6 (by decide)
  have e50 : vv 7 = _ := hf 7 (by decide)
  have e51 : vv 8 = _ := hf 8 (by decide)
  have e52 : vv 9 = _ := hf 9 (by decide)
  have e53 : vv 10 = _ := hf 10 (by decide)
  clear hf
  simp only [Relb.putD, e43, e44, e45, e46, e47, e48, e49, e50, e51, e52, e53, Act.put, Base.s1, Base.s2, Base.s3]
  clear e43 e44 e45 e46 e47 e48 e49 e50 e51 e52 e53
  refine wpAny_ready (rs := [11]) (by kernel_rfl) (by simp) ?_
  refine AllReady.cons (by rw [List.getElem?_toArray]; rfl) (fun K hK => ?_) AllReady.nil
  go_simp
  go_at_call 88
  refine (WO.out _ (bchain hbW (bchain hb10 hx))).mono ?_
  rintro e w2 ⟨rfl, hb2⟩
  refine hK _ _ ?_
  clear hK K
  try simp only [Act.put, Base.s1, Base.s2, Base.s3]
  have hfin : Below w.heap.size w w2 := bchain (bchain hbW (bchain hb10 hx)) hb2
  have KZ := KQ.below (bchain (bchain hb10 hx) hb2) (by have := HZ.out; omega)
  have z0 : w2.cell? ⟨w.heap.size + 1, 0, none⟩ = some (.int .i64 0) := KZ.cell 0
  have y0 : w2.frozen? ⟨w.heap.size + 1, 0, none⟩ = false := KZ.frozen 0
  have z1 : w2.cell? ⟨w.heap.size + 1, 1, none⟩ = some (.int .i64 0) := KZ.cell 1
  have y1 : w2.frozen? ⟨w.heap.size + 1, 1, none⟩ = false := KZ.frozen 1
  have z2 : w2.cell? ⟨w.heap.size + 1, 2, none⟩ = some (.string ⟨#[]⟩) := KZ.cell 2
  have y2 : w2.frozen? ⟨w.heap.size + 1, 2, none⟩ = false := KZ.frozen 2
  have z3 : w2.cell? ⟨w.heap.size + 1, 3, none⟩ = some (.slice none 0 0) := KZ.cell 3
  have y3 : w2.frozen? ⟨w.heap.size + 1, 3, none⟩ = false := KZ.frozen 3
  have z4 : w2.cell? ⟨w.heap.size + 1, 4, none⟩ = some (.slice none 0 0) := KZ.cell 4
  have y4 : w2.frozen? ⟨w.heap.size + 1, 4, none⟩ = false := KZ.frozen 4
  have z5 : w2.cell? ⟨w.heap.size + 1, 5, none⟩ = some (.int .i64 0) := KZ.cell 5
  have y5 : w2.frozen? ⟨w.heap.size + 1, 5, none⟩ = false := KZ.frozen 5
  have z6 : w2.cell? ⟨w.heap.size + 1, 6, none⟩ = some (.int .u64 0) := KZ.cell 6
  have y6 : w2.frozen? ⟨w.heap.size + 1, 6, none⟩ = false := KZ.frozen 6
  have z7 : w2.cell? ⟨w.heap.size + 1, 7, none⟩ = some (.bool false) := KZ.cell 7
  have y7 : w2.frozen? ⟨w.heap.size + 1, 7, none⟩ = false := KZ.frozen 7
  have z8 : w2.cell? ⟨w.heap.size + 1, 8, none⟩ = some (.bool false) := KZ.cell 8
  have y8 : w2.frozen? ⟨w.heap.size + 1, 8, none⟩ = false := KZ.frozen 8
  have z9 : w2.cell? ⟨w.heap.size + 1, 9, none⟩ = some (.string ⟨#[]⟩) := KZ.cell 9
  have y9 : w2.frozen? ⟨w.heap.size + 1, 9, none⟩ = false := KZ.frozen 9
  have z10 : w2.cell? ⟨w.heap.size + 1, 10, none⟩ = some (.bool false) := KZ.cell 10
  have y10 : w2.frozen? ⟨w.heap.size + 1, 10, none⟩ = false := KZ.frozen 10
  have z11 : w2.cell? ⟨w.heap.size + 1, 11, none⟩ = some (.bool false) := KZ.cell 11
  have y11 : w2.frozen? ⟨w.heap.size + 1, 11, none⟩ = false := KZ.frozen 11
  have z12 : w2.cell? ⟨w.heap.size + 1, 12, none⟩ = some (.string ⟨#[]⟩) := KZ.cell 12
  have y12 : w2.frozen? ⟨w.heap.size + 1, 12, none⟩ = false := KZ.frozen 12
  have z13 : w2.cell? ⟨w.heap.size + 1, 13, none⟩ = some (.slice none 0 0) := KZ.cell 13
  have y13 : w2.frozen? ⟨w.heap.size + 1, 13, none⟩ = false := KZ.frozen 13
  have z14 : w2.cell? ⟨w.heap.size + 1, 14, none⟩ = some (.slice none 0 0) := KZ.cell 14
  have y14 : w2.frozen? ⟨w.heap.size + 1, 14, none⟩ = false := KZ.frozen 14
  (refine wpAny_take (i := 12) (v := ?v12) (by rw [List.getElem?_toArray]; rfl) (by kernel_rfl) (by kernel_rfl) (by kernel_rfl) (by exact fun _ _ _ h => h) (Or.inl ⟨by rfl, ?y12⟩) ?r12)
  case y12 => (intro w'; go_simp; try with_reducible rfl)
  try simp only [Act.put, Base.s1, Base.s2, Base.s3]
  (refine wpAny_take (i := 13) (v := ?v13) (by rw [List.getElem?_toArray]; rfl) (by kernel_rfl) (by kernel_rfl) (by kernel_rfl) (by exact fun _ _ _ h => h) (Or.inl ⟨by rfl, ?y13⟩) ?r13)
  case y13 => (intro w'; go_simp; try with_reducible rfl)
  try simp only [Act.put, Base.s1, Base.s2, Base.s3]
  refine wpAny_ready (rs := [14]) (by kernel_rfl) (by simp) ?_
  refine AllReady.cons (by rw [List.getElem?_toArray]; rfl) (fun K hK => ?_) AllReady.nil
  go_simp
  refine hK _ _ ?_
  clear hK K
  try simp only [Act.put, Base.s1, Base.s2, Base.s3]
  refine wpAny_ready (rs := [15]) (by kernel_rfl) (by simp) ?_
  refine AllReady.cons (by rw [List.getElem?_toArray]; rfl) (fun K hK => ?_) AllReady.nil
  go_simp
  refine hK _ _ ?_
  clear hK K
  try simp only [Act.put, Base.s1, Base.s2, Base.s3]
  refine wpAny_done (by kernel_rfl) ?_ _
  have hb := blk_term (at_ := 0) (x := tk.text) KZ
  clear z0 y0 z1 y1 z2 y2 z3 y3 z4 y4 z5 y5 z6 y6 z7 y7 z8 y8 z9 y9 z10 y10 z11 y11 z12 y12 z13 y13 z14 y14
  go_wp2_with fail
  refine bodyPost_ret (results_blk (p := 4) (u := 5) (ty := 29) (t := 29) (g := w.heap.size + 1) (cs := bareQ 4 0 tk.text) ?_ ?_ hb Tryz.underlying29 ?_ ?_) ?_ ⟨?_, ?_⟩
  · rfl
  · rfl
  · rfl
  · rw [qInfo]; rfl
  · rfl
  · rfl
  · have hle : w.heap.size ≤ w.heap.size + 1 := Nat.le_succ _
    exact (((((((((((((((hfin.setCell (p := ⟨w.heap.size + 1, 0, none⟩) hle _).setCell (p := ⟨w.heap.size + 1, 1, none⟩) hle _).setCell (p := ⟨w.heap.size + 1, 2, none⟩) hle _).setCell (p := ⟨w.heap.size + 1, 3, none⟩) hle _).setCell (p := ⟨w.heap.size + 1, 4, none⟩) hle _).setCell (p := ⟨w.heap.size + 1, 5, none⟩) hle _).setCell (p := ⟨w.heap.size + 1, 6, none⟩) hle _).setCell (p := ⟨w.heap.size + 1, 7, none⟩) hle _).setCell (p := ⟨w.heap.size + 1, 8, none⟩) hle _).setCell (p := ⟨w.heap.size + 1, 9, none⟩) hle _).setCell (p := ⟨w.heap.size + 1, 10, none⟩) hle _).setCell (p := ⟨w.heap.size + 1, 11, none⟩) hle _).setCell (p := ⟨w.heap.size + 1, 12, none⟩) hle _).setCell (p := ⟨w.heap.size + 1, 13, none⟩) hle _).setCell (p := ⟨w.heap.size + 1, 14, none⟩) hle _)
end Go.Proofs.YtkcfgcdlnojaeaaGreatDoor.BindTerm

namespace Go.Proofs.YtkcfgcdlnojaeaaGreatDoor.BindAll
set_option maxRecDepth 100000
open Go.RowKit Go.PlainAid Base Query BindBase NodeTerm Binder WordPlain WordsWalk StopsWalk OfText OfAny WordsOne BindTerm OpenField FieldPlain SchemaCheck Rel Relb RelE

def G5 (n3 : Nat) (x : ByteArray) : Nat → Value → World → Prop
  | 0, _, _ => True
  | 1, v, w => ∃ g, v = .pointer (some ⟨g, 0, none⟩) ∧ Blk w g 29 (bareQ 0 0 ⟨#[]⟩) ∧ n3 ≤ g
  | _ + 2, v, w => ∃ g, v = .pointer (some ⟨g, 0, none⟩) ∧ Blk w g 29 (bareQ 4 0 x) ∧ n3 ≤ g
theorem g5_below {n3 : Nat} {x : ByteArray} : ∀ {i : Nat} {v : Value} {w w' : World}, Below w.heap.size w w' → G5 n3 x i v w → G5 n3 x i v w'
  | 0, _, _, _, _, _ => trivial
  | 1, _, _, _, hb, ⟨g, e, h, hg⟩ => ⟨g, e, h.below hb h.lt, hg⟩
  | _ + 2, _, _, _, hb, ⟨g, e, h, hg⟩ => ⟨g, e, h.below hb h.lt, hg⟩
theorem g5_loc {n3 : Nat} {x : ByteArray} : ∀ {i : Nat} {vs vs' : Nat → Value} {w : World}, (∀ q p, q < i → [7, 8][q]? = some p → vs p = vs' p) → G5 n3 x i (vs 7) w → G5 n3 x i (vs' 7) w
  | 0, _, _, _, _, _ => trivial
  | i + 1, vs, vs', w, h, hg => by rw [← h 0 7 (Nat.succ_pos _) rfl]; exact hg
theorem binder_stays {A : Option Addr} {n c : Nat} {v : Value} {w w' : World} (hle : Below w.heap.size w w' ∨ (w.heap.size ≤ w'.heap.size ∧ ∀ k t cs, t ≠ 29 → Blk w k t cs → Blk w' k t cs)) (h : ∃ g, v = .pointer (some ⟨g, 0, none⟩) ∧ Blk w g 147 (binderC A n c)) :
    ∃ g, v = .pointer (some ⟨g, 0, none⟩) ∧ Blk w' g 147 (binderC A n c) := by
  obtain ⟨g, e, hg⟩ := h
  rcases hle with hb | ⟨_, h2⟩
  · exact ⟨g, e, hg.below hb hg.lt⟩
  · exact ⟨g, e, h2 _ _ _ (by decide) hg⟩
theorem blk_ne {w : World} {k g : Nat} {t t' : TypeId} {cs cs' : Array Value} (h : Blk w k t cs) (h' : Blk w g t' cs') (hne : t ≠ t') : k ≠ g := fun e => by
  subst e
  unfold Blk at h h'
  rw [h] at h'
  cases h'
  exact hne rfl

set_option maxHeartbeats 4000000 in
theorem bindAll_term (T : ByteArray) (fl : Fld) (fs : List Fld) (tk : Tok) (fg fo c : Nat) (ev : Value) (B : Nat) (w : World) (hgood : schemaB (fl :: fs) = true) (hkd : fl.kd = 1) (hof : ofT 1 fl.fold fl.stop fl.stem T = [tk]) (hs : T.size ≤ 1048576) (hT : T.toList ≠ [])
    (ht : Tab w) (ha : Ask1 w) (he : w.cell? ⟨0, 0, none⟩ = some ev) (h0 : 3 < w.heap.size) (hfg : fg < w.heap.size)
    (hF : ∀ j u, (fldCells (fl :: fs))[j]? = some u → w.cell? ⟨fg, fo + j, none⟩ = some u) (hnm : ∀ f ∈ fl :: fs, f.nm.size ≤ 9223372036854775807) :
    Calls Tryz.prog 16 #[.agg #[.slice (some ⟨fg, fo, none⟩) (fl :: fs).length c], .agg (nodeT ⟨#[]⟩ T)] w fun e w' => e = .returned (.tuple #[.agg (bareQ 4 0 tk.text), .nilIface]) ∧ Below w.heap.size w w' := by
  obtain ⟨n, hn⟩ : ∃ n, n = (fl :: fs).length := ⟨_, rfl⟩
  rw [← hn]
  have hn0 : 0 < n := by rw [hn]; simp
  have hlen : n ≤ 16 := by
    rw [hn]
    unfold schemaB at hgood
    rw [Bool.and_eq_true, Bool.and_eq_true] at hgood
    exact of_decide_eq_true hgood.1.2
  obtain ⟨W1, hW1⟩ : ∃ W, W = ((w.alloc (.cells #[.slice (some ⟨fg, fo, none⟩) n c] 36)).alloc (.cells (nodeT ⟨#[]⟩ T) 39)).alloc (.cells (bareQ 0 0 ⟨#[]⟩) 29) := ⟨_, rfl⟩
  have KS : Blk W1 w.heap.size 36 #[.slice (some ⟨fg, fo, none⟩) n c] := by rw [hW1]; exact ((Blk.new w _ _).alloc _).alloc _
  have KN : Blk W1 (w.heap.size + 1) 39 (nodeT ⟨#[]⟩ T) := by
    rw [hW1]
    have := (Blk.new (w.alloc (.cells #[.slice (some ⟨fg, fo, none⟩) n c] 36)) 39 (nodeT ⟨#[]⟩ T)).alloc (.cells (bareQ 0 0 ⟨#[]⟩) 29)
    rwa [World.size_alloc] at this
  have KQ : Blk W1 (w.heap.size + 1 + 1) 29 (bareQ 0 0 ⟨#[]⟩) := by
    rw [hW1]
    have := Blk.new ((w.alloc (.cells #[.slice (some ⟨fg, fo, none⟩) n c] 36)).alloc (.cells (nodeT ⟨#[]⟩ T) 39)) 29 (bareQ 0 0 ⟨#[]⟩)
    rwa [World.size_alloc, World.size_alloc] at this
  have hbW : Below w.heap.size w W1 := by rw [hW1]; exact Base.bel
  have hsz : w.heap.size + 3 = W1.heap.size := by rw [hW1]; simp
  have ncell : ∀ {wx : World} (hx : Below W1.heap.size W1 wx) (j : Nat) (u : Value) (_ : (nodeT ⟨#[]⟩ T)[j]? = some u), wx.cell? ⟨w.heap.size + 1, j, none⟩ = some u := fun hx j u hu => ((KN.below hx (by omega)).cell j).trans hu
  have scell : ∀ {wx : World} (hx : Below W1.heap.size W1 wx), wx.cell? ⟨w.heap.size, 0, none⟩ = some (.slice (some ⟨fg, fo, none⟩) n c) := fun hx => (KS.below hx (by omega)).cell 0
  have SC := Lib.hid (fun W (hW : Below w.heap.size w W) => (by
    have h1 := schemaCheck_any (fl :: fs) (some ⟨fg, fo, none⟩) c w.heap.size ev W hW.size (fun _ => ⟨fg, fo, rfl, hfg, fun j u hu => (hW.cell (p := ⟨fg, fo + j, none⟩) hfg).trans (hF j u hu)⟩) hnm (by rw [← hn]; omega) ((hW.cell (p := ⟨0, 0, none⟩) (show 0 < _ by omega)).trans he) (show 0 < _ by have := hW.size; omega)
    rw [hgood, ← hn] at h1
    exact h1 : Calls Tryz.prog 17 #[.agg #[.slice (some ⟨fg, fo, none⟩) n c]] W fun e w' => e = .returned .nilIface ∧ Below W.heap.size W w'))
  have NC := Lib.hid (fun W (hW : Below w.heap.size w W) => checkNode_term ⟨#[]⟩ T W hT (ha.below hW (show 2 < _ by omega)) (show 2 < _ by have := hW.size; omega))
  have hF0 : ∀ j u, #[Value.string fl.nm, .int .i64 1, .bool fl.fold, .bool fl.stop, .bool fl.stem][j]? = some u → w.cell? ⟨fg, fo + j, none⟩ = some u := fun j u hu => hF j u (by
    have hj : j < 5 := by have := (Array.getElem?_eq_some_iff.1 hu).1; simpa using this
    have h2 := fldCells_at (fl :: fs) 0 j fl rfl hj
    rw [Nat.zero_mul, Nat.zero_add] at h2
    rw [h2, ← hu]
    simp [fldC, hkd])
  have BT := Lib.hid (fun W (hW : Below w.heap.size w W) (g : Nat) (hg : Blk W g 147 (binderC (some ⟨fg, fo, none⟩) n c)) => bind_term T fl.nm fl.fold fl.stop fl.stem tk fg fo n c g W hof hs (tab_below ht hW h0) (Nat.lt_of_lt_of_le h0 hW.size) hn0 hg (Nat.lt_of_lt_of_le hfg hW.size) (fun j u hu => (hW.cell (p := ⟨fg, fo + j, none⟩) hfg).trans (hF0 j u hu)))
  have NB := Lib.hid (fun W => newBinder_any (some ⟨fg, fo, none⟩) n c W)
  have HW := Lib.hid hW1
  have HZ := Lib.hid hsz
  unfold nodeT bareQ at hW1
  have HW2 := Lib.hid hW1
  unfold nodeT at NC BT ⊢
  unfold bareQ at BT
  clear hW1 hsz hof ht hF hF0 ha he hnm hgood hn hlen hT
  go_enter Tryz.func16, Tryz.ntmps16
  go_upto_region 5 with (first | (go_at_call 17; refine (SC.out _ (by exact Base.bel)).mono ?_; rintro e w2 ⟨rfl, hb2⟩; have hb12 : Below W1.heap.size W1 w2 := (by rw [HW2.out]; exact hb2); have y0 : w2.cell? ⟨w.heap.size + 1, 0, none⟩ = some (.int .i64 1) := ncell hb12 0 _ rfl; have y1 : w2.cell? ⟨w.heap.size + 1, 1, none⟩ = some (.string ⟨#[]⟩) := ncell hb12 1 _ rfl; have y2 : w2.cell? ⟨w.heap.size + 1, 2, none⟩ = some (.string T) := ncell hb12 2 _ rfl; have y3 : w2.cell? ⟨w.heap.size + 1, 3, none⟩ = some (.int .i64 0) := ncell hb12 3 _ rfl; have y4 : w2.cell? ⟨w.heap.size + 1, 4, none⟩ = some (.bool false) := ncell hb12 4 _ rfl; have y5 : w2.cell? ⟨w.heap.size + 1, 5, none⟩ = some (.bool false) := ncell hb12 5 _ rfl; have y6 : w2.cell? ⟨w.heap.size + 1, 6, none⟩ = some (.string ⟨#[]⟩) := ncell hb12 6 _ rfl; have y7 : w2.cell? ⟨w.heap.size + 1, 7, none⟩ = some (.bool false) := ncell hb12 7 _ rfl; have y8 : w2.cell? ⟨w.heap.size + 1, 8, none⟩ = some (.bool false) := ncell hb12 8 _ rfl; have y9 : w2.cell? ⟨w.heap.size + 1, 9, none⟩ = some (.string ⟨#[]⟩) := ncell hb12 9 _ rfl; have y10 : w2.cell? ⟨w.heap.size + 1, 10, none⟩ = some (.slice none 0 0) := ncell hb12 10 _ rfl; have y11 : w2.cell? ⟨w.heap.size + 1, 11, none⟩ = some (.slice none 0 0) := ncell hb12 11 _ rfl) | (go_at_call 18; refine (NC.out _ (by have := bchain hbW hb12; exact Base.bel)).mono ?_; rintro e w3 ⟨rfl, hb3⟩; have hb13 : Below W1.heap.size W1 w3 := bchain hb12 hb3))
  refine RelE.wp_region_rele 10 (fun wx => Below w3.heap.size w3 wx) (fun wa wb => Below wa.heap.size wa wb) (fun wa wb => wa.heap.size ≤ wb.heap.size ∧ ∀ k t cs, t ≠ 29 → Blk wa k t cs → Blk wb k t cs) [7, 8] (fun i vs wx => G5 w3.heap.size tk.text i (vs 7) wx) (by kernel_rfl) (by kernel_rfl) (by kernel_rfl) (by simp) (by kernel_rfl) (bdrew (Below.refl _ _)) trivial (fun i _ _ _ hle h => g5_below hle h) (fun i vs vs' _ h => g5_loc h) ?_
  simp only [List.take_succ_cons, List.take_zero]
  apply RelE.rele_one 1 [] rfl (by kernel_rfl) (by kernel_rfl) (by rfl)
  case hs =>
    intro vv wx hx hf
    clear hf
    have ns := scell (bchain hb13 hx)
    have n0 := ncell (bchain hb13 hx) 0 (.int .i64 1) rfl
    have n1 := ncell (bchain hb13 hx) 1 (.string ⟨#[]⟩) rfl
    have n2 := ncell (bchain hb13 hx) 2 (.string T) rfl
    have n3 := ncell (bchain hb13 hx) 3 (.int .i64 0) rfl
    have n4 := ncell (bchain hb13 hx) 4 (.bool false) rfl
    have n5 := ncell (bchain hb13 hx) 5 (.bool false) rfl
    have n6 := ncell (bchain hb13 hx) 6 (.string ⟨#[]⟩) rfl
    have n7 := ncell (bchain hb13 hx) 7 (.bool false) rfl
    have n8 := ncell (bchain hb13 hx) 8 (.bool false) rfl
    have n9 := ncell (bchain hb13 hx) 9 (.string ⟨#[]⟩) rfl
    have n10 := ncell (bchain hb13 hx) 10 (.slice none 0 0) rfl
    have n11 := ncell (bchain hb13 hx) 11 (.slice none 0 0) rfl
    try simp only [Relb.putD, Act.put, Base.s1, Base.s2, Base.s3]
    intro KK hK
    go_simp
    exact hK _ _ hx (Below.refl _ _) rfl
  apply RelE.rele_kind 2 [(0, 19)] (fun x wx => ∃ g, x = .pointer (some ⟨g, 0, none⟩) ∧ Blk wx g 147 (binderC (some ⟨fg, fo, none⟩) n c)) rfl (by kernel_rfl) (by kernel_rfl) (by rfl) (fun _ _ _ hle h => binder_stays hle h)
  case hs =>
    intro vv wx hx hf
    have e19 : vv 0 = _ := hf 0 (by simp)
    clear hf
    have ns := scell (bchain hb13 hx)
    have n0 := ncell (bchain hb13 hx) 0 (.int .i64 1) rfl
    have n1 := ncell (bchain hb13 hx) 1 (.string ⟨#[]⟩) rfl
    have n2 := ncell (bchain hb13 hx) 2 (.string T) rfl
    have n3 := ncell (bchain hb13 hx) 3 (.int .i64 0) rfl
    have n4 := ncell (bchain hb13 hx) 4 (.bool false) rfl
    have n5 := ncell (bchain hb13 hx) 5 (.bool false) rfl
    have n6 := ncell (bchain hb13 hx) 6 (.string ⟨#[]⟩) rfl
    have n7 := ncell (bchain hb13 hx) 7 (.bool false) rfl
    have n8 := ncell (bchain hb13 hx) 8 (.bool false) rfl
    have n9 := ncell (bchain hb13 hx) 9 (.string ⟨#[]⟩) rfl
    have n10 := ncell (bchain hb13 hx) 10 (.slice none 0 0) rfl
    have n11 := ncell (bchain hb13 hx) 11 (.slice none 0 0) rfl
    try simp only [Relb.putD, e19, Act.put, Base.s1, Base.s2, Base.s3]
    intro KK hK
    go_simp
    go_at_call 49
    refine (NB.out wx).mono ?_
    rintro e w5 ⟨g5, rfl, hB5, hb5⟩
    exact hK _ _ (bchain hx hb5) hb5 ⟨g5, rfl, hB5⟩
  apply RelE.rele_one 3 [] rfl (by kernel_rfl) (by kernel_rfl) (by rfl)
  case hs =>
    intro vv wx hx hf
    clear hf
    have ns := scell (bchain hb13 hx)
    have n0 := ncell (bchain hb13 hx) 0 (.int .i64 1) rfl
    have n1 := ncell (bchain hb13 hx) 1 (.string ⟨#[]⟩) rfl
    have n2 := ncell (bchain hb13 hx) 2 (.string T) rfl
    have n3 := ncell (bchain hb13 hx) 3 (.int .i64 0) rfl
    have n4 := ncell (bchain hb13 hx) 4 (.bool false) rfl
    have n5 := ncell (bchain hb13 hx) 5 (.bool false) rfl
    have n6 := ncell (bchain hb13 hx) 6 (.string ⟨#[]⟩) rfl
    have n7 := ncell (bchain hb13 hx) 7 (.bool false) rfl
    have n8 := ncell (bchain hb13 hx) 8 (.bool false) rfl
    have n9 := ncell (bchain hb13 hx) 9 (.string ⟨#[]⟩) rfl
    have n10 := ncell (bchain hb13 hx) 10 (.slice none 0 0) rfl
    have n11 := ncell (bchain hb13 hx) 11 (.slice none 0 0) rfl
    try simp only [Relb.putD, Act.put, Base.s1, Base.s2, Base.s3]
    intro KK hK
    go_simp
    exact hK _ _ hx (Below.refl _ _) rfl
  apply RelE.rele_one 4 [(1, 20), (2, 21)] rfl (by kernel_rfl) (by kernel_rfl) (by rfl)
  case hs =>
    intro vv wx hx hf
    obtain ⟨g20, e20, B20⟩ := hf 1 (by simp)
    replace e20 : vv 1 = _ := e20
    have e21 : vv 2 = _ := hf 2 (by simp)
    clear hf
    have ns := scell (bchain hb13 hx)
    have n0 := ncell (bchain hb13 hx) 0 (.int .i64 1) rfl
    have n1 := ncell (bchain hb13 hx) 1 (.string ⟨#[]⟩) rfl
    have n2 := ncell (bchain hb13 hx) 2 (.string T) rfl
    have n3 := ncell (bchain hb13 hx) 3 (.int .i64 0) rfl
    have n4 := ncell (bchain hb13 hx) 4 (.bool false) rfl
    have n5 := ncell (bchain hb13 hx) 5 (.bool false) rfl
    have n6 := ncell (bchain hb13 hx) 6 (.string ⟨#[]⟩) rfl
    have n7 := ncell (bchain hb13 hx) 7 (.bool false) rfl
    have n8 := ncell (bchain hb13 hx) 8 (.bool false) rfl
    have n9 := ncell (bchain hb13 hx) 9 (.string ⟨#[]⟩) rfl
    have n10 := ncell (bchain hb13 hx) 10 (.slice none 0 0) rfl
    have n11 := ncell (bchain hb13 hx) 11 (.slice none 0 0) rfl
    try simp only [Relb.putD, e20, e21, Act.put, Base.s1, Base.s2, Base.s3]
    intro KK hK
    go_simp
    go_at_call 50
    refine (BT.out wx (bchain hbW (bchain hb13 hx)) g20 B20).mono ?_
    rintro e w7 ⟨rfl, hb7⟩
    exact hK _ _ (bchain hx hb7) hb7 rfl
  apply RelE.rele_one 5 [(3, 22)] rfl (by kernel_rfl) (by kernel_rfl) (by rfl)
  case hs =>
    intro vv wx hx hf
    have e22 : vv 3 = _ := hf 3 (by simp)
    clear hf
    try simp only [Relb.putD, e22, Act.put, Base.s1, Base.s2, Base.s3]
    intro KK hK
    go_simp
    exact hK _ _ hx (Below.refl _ _) rfl
  apply RelE.rele_one 6 [(4, 18)] rfl (by kernel_rfl) (by kernel_rfl) (by rfl)
  case hs =>
    intro vv wx hx hf
    have e18 : vv 4 = _ := hf 4 (by simp)
    clear hf
    try simp only [Relb.putD, e18, Act.put, Base.s1, Base.s2, Base.s3]
    intro KK hK
    go_simp
    exact hK _ _ hx (Below.refl _ _) rfl
  apply RelE.rele_one 7 [(4, 18)] rfl (by kernel_rfl) (by kernel_rfl) (by rfl)
  case hs =>
    intro vv wx hx hf
    have e18 : vv 4 = _ := hf 4 (by simp)
    clear hf
    try simp only [Relb.putD, e18, Act.put, Base.s1, Base.s2, Base.s3]
    intro KK hK
    go_simp
    exact hK _ _ hx (Below.refl _ _) rfl
  apply RelE.rele_chain 0 8 [] rfl (by kernel_rfl) (by kernel_rfl) (by rfl)
  case hs =>
    intro vv wx hx hf hg
    clear hf
    try simp only [Relb.putD, Act.put, Base.s1, Base.s2, Base.s3]
    intro KK hK
    go_simp
    exact hK _ _ (balloc hx _) ⟨by simp, fun k t cs _ h => h.alloc _⟩ ⟨wx.heap.size, rfl, Blk.new _ _ _, hx.size⟩
  apply RelE.rele_chain 1 9 [(5, 23), (7, 6)] rfl (by kernel_rfl) (by kernel_rfl) (by rfl)
  case hs =>
    intro vv wx hx hf hg
    have e23 : vv 5 = _ := hf 5 (by simp)
    obtain ⟨g6, e6, K6, h6⟩ := hg
    replace e6 : vv 7 = _ := e6
    have z0 : wx.cell? ⟨g6, 0, none⟩ = some (.int .i64 0) := K6.cell 0
    have y0 : wx.frozen? ⟨g6, 0, none⟩ = false := K6.frozen 0
    have z1 : wx.cell? ⟨g6, 1, none⟩ = some (.int .i64 0) := K6.cell 1
    have y1 : wx.frozen? ⟨g6, 1, none⟩ = false := K6.frozen 1
    have z2 : wx.cell? ⟨g6, 2, none⟩ = some (.string ⟨#[]⟩) := K6.cell 2
    have y2 : wx.frozen? ⟨g6, 2, none⟩ = false := K6.frozen 2
    have z3 : wx.cell? ⟨g6, 3, none⟩ = some (.slice none 0 0) := K6.cell 3
    have y3 : wx.frozen? ⟨g6, 3, none⟩ = false := K6.frozen 3
    have z4 : wx.cell? ⟨g6, 4, none⟩ = some (.slice none 0 0) := K6.cell 4
    have y4 : wx.frozen? ⟨g6, 4, none⟩ = false := K6.frozen 4
    have z5 : wx.cell? ⟨g6, 5, none⟩ = some (.int .i64 0) := K6.cell 5
    have y5 : wx.frozen? ⟨g6, 5, none⟩ = false := K6.frozen 5
    have z6 : wx.cell? ⟨g6, 6, none⟩ = some (.int .u64 0) := K6.cell 6
    have y6 : wx.frozen? ⟨g6, 6, none⟩ = false := K6.frozen 6
    have z7 : wx.cell? ⟨g6, 7, none⟩ = some (.bool false) := K6.cell 7
    have y7 : wx.frozen? ⟨g6, 7, none⟩ = false := K6.frozen 7
    have z8 : wx.cell? ⟨g6, 8, none⟩ = some (.bool false) := K6.cell 8
    have y8 : wx.frozen? ⟨g6, 8, none⟩ = false := K6.frozen 8
    have z9 : wx.cell? ⟨g6, 9, none⟩ = some (.string ⟨#[]⟩) := K6.cell 9
    have y9 : wx.frozen? ⟨g6, 9, none⟩ = false := K6.frozen 9
    have z10 : wx.cell? ⟨g6, 10, none⟩ = some (.bool false) := K6.cell 10
    have y10 : wx.frozen? ⟨g6, 10, none⟩ = false := K6.frozen 10
    have z11 : wx.cell? ⟨g6, 11, none⟩ = some (.bool false) := K6.cell 11
    have y11 : wx.frozen? ⟨g6, 11, none⟩ = false := K6.frozen 11
    have z12 : wx.cell? ⟨g6, 12, none⟩ = some (.string ⟨#[]⟩) := K6.cell 12
    have y12 : wx.frozen? ⟨g6, 12, none⟩ = false := K6.frozen 12
    have z13 : wx.cell? ⟨g6, 13, none⟩ = some (.slice none 0 0) := K6.cell 13
    have y13 : wx.frozen? ⟨g6, 13, none⟩ = false := K6.frozen 13
    have z14 : wx.cell? ⟨g6, 14, none⟩ = some (.slice none 0 0) := K6.cell 14
    have y14 : wx.frozen? ⟨g6, 14, none⟩ = false := K6.frozen 14
    clear hf
    try simp only [Relb.putD, e23, e6, Act.put, Base.s1, Base.s2, Base.s3]
    intro KK hK
    go_simp
    exact hK undef _ ((((((((((((((((hx.setCell (p := ⟨g6, 0, none⟩) h6 _).setCell (p := ⟨g6, 1, none⟩) h6 _).setCell (p := ⟨g6, 2, none⟩) h6 _).setCell (p := ⟨g6, 3, none⟩) h6 _).setCell (p := ⟨g6, 4, none⟩) h6 _).setCell (p := ⟨g6, 5, none⟩) h6 _).setCell (p := ⟨g6, 6, none⟩) h6 _).setCell (p := ⟨g6, 7, none⟩) h6 _).setCell (p := ⟨g6, 8, none⟩) h6 _).setCell (p := ⟨g6, 9, none⟩) h6 _).setCell (p := ⟨g6, 10, none⟩) h6 _).setCell (p := ⟨g6, 11, none⟩) h6 _).setCell (p := ⟨g6, 12, none⟩) h6 _).setCell (p := ⟨g6, 13, none⟩) h6 _).setCell (p := ⟨g6, 14, none⟩) h6 _)) ⟨by simp, fun k t cs hne h => (Blk.far (Blk.far (Blk.far (Blk.far (Blk.far (Blk.far (Blk.far (Blk.far (Blk.far (Blk.far (Blk.far (Blk.far (Blk.far (Blk.far (Blk.far h (p := ⟨g6, 0, none⟩) (blk_ne h K6 hne) _) (p := ⟨g6, 1, none⟩) (blk_ne h K6 hne) _) (p := ⟨g6, 2, none⟩) (blk_ne h K6 hne) _) (p := ⟨g6, 3, none⟩) (blk_ne h K6 hne) _) (p := ⟨g6, 4, none⟩) (blk_ne h K6 hne) _) (p := ⟨g6, 5, none⟩) (blk_ne h K6 hne) _) (p := ⟨g6, 6, none⟩) (blk_ne h K6 hne) _) (p := ⟨g6, 7, none⟩) (blk_ne h K6 hne) _) (p := ⟨g6, 8, none⟩) (blk_ne h K6 hne) _) (p := ⟨g6, 9, none⟩) (blk_ne h K6 hne) _) (p := ⟨g6, 10, none⟩) (blk_ne h K6 hne) _) (p := ⟨g6, 11, none⟩) (blk_ne h K6 hne) _) (p := ⟨g6, 12, none⟩) (blk_ne h K6 hne) _) (p := ⟨g6, 13, none⟩) (blk_ne h K6 hne) _) (p := ⟨g6, 14, none⟩) (blk_ne h K6 hne) _)⟩ ⟨g6, rfl, blk_term K6, h6⟩
  apply RelE.rele_one 10 [(6, 24)] rfl (by kernel_rfl) (by kernel_rfl) (by rfl)
  case hs =>
    intro vv wx hx hf
    have e24 : vv 6 = _ := hf 6 (by simp)
    clear hf
    try simp only [Relb.putD, e24, Act.put, Base.s1, Base.s2, Base.s3]
    intro KK hK
    go_simp
    exact hK _ _ hx (Below.refl _ _) rfl
  refine RelE.rele_end (N := 0) [(0, some 19), (1, some 20), (2, some 21), (3, some 22), (4, some 18), (5, some 23), (6, some 24), (7, some 6), (8, none), (9, some 7)] (by kernel_rfl) (by kernel_rfl) ?_
  intro vv wx hx hf hg
  have e19 : vv 0 = _ := hf 0 (by decide)
  obtain ⟨g20, e20, B20⟩ := hf 1 (by decide)
  replace e20 : vv 1 = _ := e20
  have e21 : vv 2 = _ := hf 2 (by decide)
  have e22 : vv 3 = _ := hf 3 (by decide)
  have e18 : vv 4 = _ := hf 4 (by decide)
  have e23 : vv 5 = _ := hf 5 (by decide)
  have e24 : vv 6 = _ := hf 6 (by decide)
  have e7 : vv 9 = _ := hf 9 (by decide)
  clear hf
  simp only [RelE.putO, e19, e20, e21, e22, e18, e23, e24, e7, Act.put, Base.s1, Base.s2, Base.s3]
  have hg' : G5 w3.heap.size tk.text 2 (vv 7) wx := hg
  obtain ⟨g6, e6, K6, h6⟩ := hg'
  have KZ := KQ.below (bchain hb13 hx) (by have := HZ.out; omega)
  have q0 : wx.cell? ⟨g6, 0, none⟩ = some (.int .i64 4) := K6.cell 0
  have z0 : wx.cell? ⟨w.heap.size + 1 + 1, 0, none⟩ = some (.int .i64 0) := KZ.cell 0
  have y0 : wx.frozen? ⟨w.heap.size + 1 + 1, 0, none⟩ = false := KZ.frozen 0
  have q1 : wx.cell? ⟨g6, 1, none⟩ = some (.int .i64 0) := K6.cell 1
  have z1 : wx.cell? ⟨w.heap.size + 1 + 1, 1, none⟩ = some (.int .i64 0) := KZ.cell 1
  have y1 : wx.frozen? ⟨w.heap.size + 1 + 1, 1, none⟩ = false := KZ.frozen 1
  have q2 : wx.cell? ⟨g6, 2, none⟩ = some (.string tk.text) := K6.cell 2
  have z2 : wx.cell? ⟨w.heap.size + 1 + 1, 2, none⟩ = some (.string ⟨#[]⟩) := KZ.cell 2
  have y2 : wx.frozen? ⟨w.heap.size + 1 + 1, 2, none⟩ = false := KZ.frozen 2
  have q3 : wx.cell? ⟨g6, 3, none⟩ = some (.slice none 0 0) := K6.cell 3
  have z3 : wx.cell? ⟨w.heap.size + 1 + 1, 3, none⟩ = some (.slice none 0 0) := KZ.cell 3
  have y3 : wx.frozen? ⟨w.heap.size + 1 + 1, 3, none⟩ = false := KZ.frozen 3
  have q4 : wx.cell? ⟨g6, 4, none⟩ = some (.slice none 0 0) := K6.cell 4
  have z4 : wx.cell? ⟨w.heap.size + 1 + 1, 4, none⟩ = some (.slice none 0 0) := KZ.cell 4
  have y4 : wx.frozen? ⟨w.heap.size + 1 + 1, 4, none⟩ = false := KZ.frozen 4
  have q5 : wx.cell? ⟨g6, 5, none⟩ = some (.int .i64 0) := K6.cell 5
  have z5 : wx.cell? ⟨w.heap.size + 1 + 1, 5, none⟩ = some (.int .i64 0) := KZ.cell 5
  have y5 : wx.frozen? ⟨w.heap.size + 1 + 1, 5, none⟩ = false := KZ.frozen 5
  have q6 : wx.cell? ⟨g6, 6, none⟩ = some (.int .u64 0) := K6.cell 6
  have z6 : wx.cell? ⟨w.heap.size + 1 + 1, 6, none⟩ = some (.int .u64 0) := KZ.cell 6
  have y6 : wx.frozen? ⟨w.heap.size + 1 + 1, 6, none⟩ = false := KZ.frozen 6
  have q7 : wx.cell? ⟨g6, 7, none⟩ = some (.bool false) := K6.cell 7
  have z7 : wx.cell? ⟨w.heap.size + 1 + 1, 7, none⟩ = some (.bool false) := KZ.cell 7
  have y7 : wx.frozen? ⟨w.heap.size + 1 + 1, 7, none⟩ = false := KZ.frozen 7
  have q8 : wx.cell? ⟨g6, 8, none⟩ = some (.bool false) := K6.cell 8
  have z8 : wx.cell? ⟨w.heap.size + 1 + 1, 8, none⟩ = some (.bool false) := KZ.cell 8
  have y8 : wx.frozen? ⟨w.heap.size + 1 + 1, 8, none⟩ = false := KZ.frozen 8
  have q9 : wx.cell? ⟨g6, 9, none⟩ = some (.string ⟨#[]⟩) := K6.cell 9
  have z9 : wx.cell? ⟨w.heap.size + 1 + 1, 9, none⟩ = some (.string ⟨#[]⟩) := KZ.cell 9
  have y9 : wx.frozen? ⟨w.heap.size + 1 + 1, 9, none⟩ = false := KZ.frozen 9
  have q10 : wx.cell? ⟨g6, 10, none⟩ = some (.bool false) := K6.cell 10
  have z10 : wx.cell? ⟨w.heap.size + 1 + 1, 10, none⟩ = some (.bool false) := KZ.cell 10
  have y10 : wx.frozen? ⟨w.heap.size + 1 + 1, 10, none⟩ = false := KZ.frozen 10
  have q11 : wx.cell? ⟨g6, 11, none⟩ = some (.bool false) := K6.cell 11
  have z11 : wx.cell? ⟨w.heap.size + 1 + 1, 11, none⟩ = some (.bool false) := KZ.cell 11
  have y11 : wx.frozen? ⟨w.heap.size + 1 + 1, 11, none⟩ = false := KZ.frozen 11
  have q12 : wx.cell? ⟨g6, 12, none⟩ = some (.string ⟨#[]⟩) := K6.cell 12
  have z12 : wx.cell? ⟨w.heap.size + 1 + 1, 12, none⟩ = some (.string ⟨#[]⟩) := KZ.cell 12
  have y12 : wx.frozen? ⟨w.heap.size + 1 + 1, 12, none⟩ = false := KZ.frozen 12
  have q13 : wx.cell? ⟨g6, 13, none⟩ = some (.slice none 0 0) := K6.cell 13
  have z13 : wx.cell? ⟨w.heap.size + 1 + 1, 13, none⟩ = some (.slice none 0 0) := KZ.cell 13
  have y13 : wx.frozen? ⟨w.heap.size + 1 + 1, 13, none⟩ = false := KZ.frozen 13
  have q14 : wx.cell? ⟨g6, 14, none⟩ = some (.slice none 0 0) := K6.cell 14
  have z14 : wx.cell? ⟨w.heap.size + 1 + 1, 14, none⟩ = some (.slice none 0 0) := KZ.cell 14
  have y14 : wx.frozen? ⟨w.heap.size + 1 + 1, 14, none⟩ = false := KZ.frozen 14
  simp only [e6]
  clear hg e19 e20 e21 e22 e18 e23 e24 e6 e7 B20
  refine ⟨by kernel_rfl, ?_⟩
  go_wp2_with fail
  have hb := blk_term (at_ := 0) (x := tk.text) KZ
  have hfin : Below w.heap.size w wx := bchain hbW (bchain hb13 hx)
  clear q0 z0 y0 q1 z1 y1 q2 z2 y2 q3 z3 y3 q4 z4 y4 q5 z5 y5 q6 z6 y6 q7 z7 y7 q8 z8 y8 q9 z9 y9 q10 z10 y10 q11 z11 y11 q12 z12 y12 q13 z13 y13 q14 z14 y14
  refine bodyPost_ret (results_blk (p := 4) (u := 5) (ty := 29) (t := 29) (g := w.heap.size + 1 + 1) (cs := bareQ 4 0 tk.text) ?_ ?_ hb Tryz.underlying29 ?_ ?_) ?_ ⟨?_, ?_⟩
  · rfl
  · rfl
  · rfl
  · rw [qInfo]; rfl
  · rfl
  · rfl
  · have hle : w.heap.size ≤ w.heap.size + 1 + 1 := Nat.le_succ_of_le (Nat.le_succ _)
    exact (((((((((((((((hfin.setCell (p := ⟨w.heap.size + 1 + 1, 0, none⟩) hle _).setCell (p := ⟨w.heap.size + 1 + 1, 1, none⟩) hle _).setCell (p := ⟨w.heap.size + 1 + 1, 2, none⟩) hle _).setCell (p := ⟨w.heap.size + 1 + 1, 3, none⟩) hle _).setCell (p := ⟨w.heap.size + 1 + 1, 4, none⟩) hle _).setCell (p := ⟨w.heap.size + 1 + 1, 5, none⟩) hle _).setCell (p := ⟨w.heap.size + 1 + 1, 6, none⟩) hle _).setCell (p := ⟨w.heap.size + 1 + 1, 7, none⟩) hle _).setCell (p := ⟨w.heap.size + 1 + 1, 8, none⟩) hle _).setCell (p := ⟨w.heap.size + 1 + 1, 9, none⟩) hle _).setCell (p := ⟨w.heap.size + 1 + 1, 10, none⟩) hle _).setCell (p := ⟨w.heap.size + 1 + 1, 11, none⟩) hle _).setCell (p := ⟨w.heap.size + 1 + 1, 12, none⟩) hle _).setCell (p := ⟨w.heap.size + 1 + 1, 13, none⟩) hle _).setCell (p := ⟨w.heap.size + 1 + 1, 14, none⟩) hle _)
end Go.Proofs.YtkcfgcdlnojaeaaGreatDoor.BindAll
