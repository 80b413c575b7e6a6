/-
  The walk of a binder's bind over a term's node without a field.
-/
import Derived.Test.YtkcfgcdlnojaeaaGreatDoorWordsOne
import Derived.Test.YtkcfgcdlnojaeaaGreatDoorRelbA
import Derived.RegionTactic
import Derived.Deep.Cut
namespace Go.Proofs.YtkcfgcdlnojaeaaGreatDoor.BindTerm
set_option maxRecDepth 100000
open Go.RowKit Go.PlainAid Base Query BindBase NodeTerm Binder WordPlain WordsWalk StopsWalk OfText OfAny WordsOne Rel Relb RelbT RelbA

theorem fn_ne_nil (f : Nat) (W : World) : (binOp .neq 144 (.func (.func f) #[] #[]) .nilFunc).run Tryz.prog W = .ok (.bool true) W := by rfl

set_option maxHeartbeats 4000000 in
theorem bind_term (T nm : ByteArray) (a b d : Bool) (tk : Tok) (fg fo n c : Nat) (g : Nat) (w : World) (hof : ofT 1 a b d T = [tk]) (hs : T.size ≤ 1048576) (ht : Tab w) (h0 : 3 < w.heap.size)
    (hn : 0 < n) (hB : Blk w g 147 (binderC (some ⟨fg, fo, none⟩) n c)) (hfg : fg < w.heap.size)
    (hF : ∀ j u, #[Value.string nm, .int .i64 1, .bool a, .bool b, .bool d][j]? = some u → w.cell? ⟨fg, fo + j, none⟩ = some u) :
    Calls Tryz.prog 50 #[.pointer (some ⟨g, 0, none⟩), .agg (nodeT ⟨#[]⟩ T)] w fun e w' => e = .returned (.tuple #[.agg (bareQ 4 0 tk.text), .bool true]) ∧ Below w.heap.size w w' := by
  obtain ⟨W1, hW1⟩ : ∃ W, W = (w.alloc (.cells (nodeT ⟨#[]⟩ T) 39)).alloc (.cells (bareQ 0 0 ⟨#[]⟩) 29) := ⟨_, rfl⟩
  have KN : Blk W1 w.heap.size 39 (nodeT ⟨#[]⟩ T) := by rw [hW1]; exact (Blk.new w _ _).alloc _
  have KQ : Blk W1 (w.heap.size + 1) 29 (bareQ 0 0 ⟨#[]⟩) := by
    rw [hW1]
    have := Blk.new (w.alloc (.cells (nodeT ⟨#[]⟩ T) 39)) 29 (bareQ 0 0 ⟨#[]⟩)
    rwa [World.size_alloc] at this
  have hbW : Below w.heap.size w W1 := by rw [hW1]; (repeat (first | exact Below.refl _ _ | assumption | refine balloc ?_ _ | refine bdrew ?_ | refine bdrewN ?_ _ | refine bchain ?_ (by assumption)))
  have hsz : w.heap.size + 2 = W1.heap.size := by rw [hW1]; simp
  have ncell : ∀ {wx : World} (hx : Below W1.heap.size W1 wx) (j : Nat) (u : Value) (_ : (nodeT ⟨#[]⟩ T)[j]? = some u), wx.cell? ⟨w.heap.size, j, none⟩ = some u := fun hx j u hu => ((KN.below hx (by omega)).cell j).trans hu
  have bcell : ∀ {wx : World} (hx : Below W1.heap.size W1 wx) (j : Nat) (u : Value) (_ : (binderC (some ⟨fg, fo, none⟩) n c)[j]? = some u), wx.cell? ⟨g, j, none⟩ = some u := fun hx j u hu => (((hB.below hbW hB.lt).below hx (by have := hB.lt; omega)).cell j).trans hu
  have fcell : ∀ {wx : World} (hx : Below W1.heap.size W1 wx) (j : Nat) (u : Value) (_ : #[Value.string nm, .int .i64 1, .bool a, .bool b, .bool d][j]? = some u), wx.cell? ⟨fg, fo + j, none⟩ = some u := fun hx j u hu => (hx.cell (p := ⟨fg, fo + j, none⟩) (by show fg < _; omega)).trans ((hbW.cell (p := ⟨fg, fo + j, none⟩) hfg).trans (hF j u hu))
  have k0 : W1.cell? ⟨w.heap.size, 0, none⟩ = some (.int .i64 1) := KN.cell 0
  have k1 : W1.cell? ⟨w.heap.size, 1, none⟩ = some (.string ⟨#[]⟩) := KN.cell 1
  have kb : W1.cell? ⟨g, 2, none⟩ = some (fnV 88) := bcell (Below.refl _ _) 2 _ rfl
  have WO := Lib.hid (fun W (hW : Below w.heap.size w W) => words_one ⟨#[]⟩ T nm a b d 0 tk W hof hs (tab_below ht hW h0) (Nat.lt_of_lt_of_le h0 hW.size))
  have HW := Lib.hid hW1
  have HZ := Lib.hid hsz
  have i1 : (0 : Int) < (n : Int) := by omega
  have hfn := fn_ne_nil 88
  unfold nodeT bareQ at hW1
  have HW2 := Lib.hid hW1
  unfold nodeT bareQ at WO
  unfold nodeT
  unfold fnV at kb
  rw [hW1] at k0 k1 kb
  clear hW1 hsz hof ht hF
  go_enter Tryz.func50, Tryz.ntmps50
  go_upto_region 3 with fail
  go_quiet (fail)
  go_upto_region 10 with fail
  have hb10 : Below W1.heap.size W1 (W1.drewN nq) := bdrewN (Below.refl _ _) _
  rw [← HW2.out]
  generalize (W1.drewN nq) = W10 at hb10 ⊢
  refine RelbA.wp_region_relba 11 (fun wx => Below W10.heap.size W10 wx) (fun wa wb => Below wa.heap.size wa wb) (by kernel_rfl) (by kernel_rfl) (by kernel_rfl) (by simp) (bdrew (Below.refl _ _)) ?_
  simp only [List.take_succ_cons, List.take_zero, List.drop_succ_cons, List.drop_zero]
  apply Relb.relb_one [] [] (by kernel_rfl) (by kernel_rfl) (by kernel_rfl)
  case hs =>
    intro vv wx hx hf
    clear hf
    try simp only [Relb.putD, Act.put, List.setIfInBounds_toArray, List.set_cons_zero, List.set_cons_succ]
    intro KK hK
    go_simp
    exact hK _ _ hx (Below.refl _ _) rfl
  apply Relb.relb_one [] [] (by kernel_rfl) (by kernel_rfl) (by kernel_rfl)
  case hs =>
    intro vv wx hx hf
    clear hf
    have y0 := ncell (bchain hb10 hx) 0 (.int .i64 1) rfl
    have y1 := ncell (bchain hb10 hx) 1 (.string ⟨#[]⟩) rfl
    have y2 := ncell (bchain hb10 hx) 2 (.string T) rfl
    have y3 := ncell (bchain hb10 hx) 3 (.int .i64 0) rfl
    have y4 := ncell (bchain hb10 hx) 4 (.bool false) rfl
    have y5 := ncell (bchain hb10 hx) 5 (.bool false) rfl
    have y6 := ncell (bchain hb10 hx) 6 (.string ⟨#[]⟩) rfl
    have y7 := ncell (bchain hb10 hx) 7 (.bool false) rfl
    have y8 := ncell (bchain hb10 hx) 8 (.bool false) rfl
    have y9 := ncell (bchain hb10 hx) 9 (.string ⟨#[]⟩) rfl
    have y10 := ncell (bchain hb10 hx) 10 (.slice none 0 0) rfl
    have y11 := ncell (bchain hb10 hx) 11 (.slice none 0 0) rfl
    have b0 := bcell (bchain hb10 hx) 0 (.slice (some ⟨fg, fo, none⟩) n c) rfl
    have f0 := (show wx.cell? ⟨fg, fo, none⟩ = some (.string nm) from fcell (bchain hb10 hx) 0 (.string nm) rfl)
    have f1 := fcell (bchain hb10 hx) 1 (.int .i64 1) rfl
    have f2 := fcell (bchain hb10 hx) 2 (.bool a) rfl
    have f3 := fcell (bchain hb10 hx) 3 (.bool b) rfl
    have f4 := fcell (bchain hb10 hx) 4 (.bool d) rfl
    try simp only [Relb.putD, Act.put, List.setIfInBounds_toArray, List.set_cons_zero, List.set_cons_succ]
    intro KK hK
    go_simp
    exact hK _ _ hx (Below.refl _ _) rfl
  apply Relb.relb_one [] [] (by kernel_rfl) (by kernel_rfl) (by kernel_rfl)
  case hs =>
    intro vv wx hx hf
    clear hf
    try simp only [Relb.putD, Act.put, List.setIfInBounds_toArray, List.set_cons_zero, List.set_cons_succ]
    intro KK hK
    go_simp
    exact hK _ _ hx (Below.refl _ _) rfl
  apply Relb.relb_one [(2, 45)] [2] (by kernel_rfl) (by kernel_rfl) (by kernel_rfl)
  case hs =>
    intro vv wx hx hf
    have e45 : vv 2 = _ := hf 2 (by simp)
    clear hf
    try simp only [Relb.putD, e45, Act.put, List.setIfInBounds_toArray, List.set_cons_zero, List.set_cons_succ]
    intro KK hK
    go_simp
    exact hK _ _ hx (Below.refl _ _) rfl
  apply Relb.relb_one [(3, 46)] [3] (by kernel_rfl) (by kernel_rfl) (by kernel_rfl)
  case hs =>
    intro vv wx hx hf
    have e46 : vv 3 = _ := hf 3 (by simp)
    clear hf
    try simp only [Relb.putD, e46, Act.put, List.setIfInBounds_toArray, List.set_cons_zero, List.set_cons_succ]
    intro KK hK
    go_simp
    exact hK _ _ hx (Below.refl _ _) rfl
  apply Relb.relb_one [(4, 47)] [4] (by kernel_rfl) (by kernel_rfl) (by kernel_rfl)
  case hs =>
    intro vv wx hx hf
    have e47 : vv 4 = _ := hf 4 (by simp)
    clear hf
    try simp only [Relb.putD, e47, Act.put, List.setIfInBounds_toArray, List.set_cons_zero, List.set_cons_succ]
    intro KK hK
    go_simp
    exact hK _ _ hx (Below.refl _ _) rfl
  apply Relb.relb_one [(5, 48)] [5] (by kernel_rfl) (by kernel_rfl) (by kernel_rfl)
  case hs =>
    intro vv wx hx hf
    have e48 : vv 5 = _ := hf 5 (by simp)
    clear hf
    have y0 := ncell (bchain hb10 hx) 0 (.int .i64 1) rfl
    have y1 := ncell (bchain hb10 hx) 1 (.string ⟨#[]⟩) rfl
    have y2 := ncell (bchain hb10 hx) 2 (.string T) rfl
    have y3 := ncell (bchain hb10 hx) 3 (.int .i64 0) rfl
    have y4 := ncell (bchain hb10 hx) 4 (.bool false) rfl
    have y5 := ncell (bchain hb10 hx) 5 (.bool false) rfl
    have y6 := ncell (bchain hb10 hx) 6 (.string ⟨#[]⟩) rfl
    have y7 := ncell (bchain hb10 hx) 7 (.bool false) rfl
    have y8 := ncell (bchain hb10 hx) 8 (.bool false) rfl
    have y9 := ncell (bchain hb10 hx) 9 (.string ⟨#[]⟩) rfl
    have y10 := ncell (bchain hb10 hx) 10 (.slice none 0 0) rfl
    have y11 := ncell (bchain hb10 hx) 11 (.slice none 0 0) rfl
    have b0 := bcell (bchain hb10 hx) 0 (.slice (some ⟨fg, fo, none⟩) n c) rfl
    have f0 := (show wx.cell? ⟨fg, fo, none⟩ = some (.string nm) from fcell (bchain hb10 hx) 0 (.string nm) rfl)
    have f1 := fcell (bchain hb10 hx) 1 (.int .i64 1) rfl
    have f2 := fcell (bchain hb10 hx) 2 (.bool a) rfl
    have f3 := fcell (bchain hb10 hx) 3 (.bool b) rfl
    have f4 := fcell (bchain hb10 hx) 4 (.bool d) rfl
    try simp only [Relb.putD, e48, Act.put, List.setIfInBounds_toArray, List.set_cons_zero, List.set_cons_succ]
    intro KK hK
    go_simp
    exact hK _ _ hx (Below.refl _ _) rfl
  apply Relb.relb_one [] [] (by kernel_rfl) (by kernel_rfl) (by kernel_rfl)
  case hs =>
    intro vv wx hx hf
    clear hf
    try simp only [Relb.putD, Act.put, List.setIfInBounds_toArray, List.set_cons_zero, List.set_cons_succ]
    intro KK hK
    go_simp
    exact hK _ _ hx (Below.refl _ _) rfl
  apply Relb.relb_one [(6, 49), (7, 50)] [6, 7] (by kernel_rfl) (by kernel_rfl) (by kernel_rfl)
  case hs =>
    intro vv wx hx hf
    have e49 : vv 6 = _ := hf 6 (by simp)
    have e50 : vv 7 = _ := hf 7 (by simp)
    clear hf
    try simp only [Relb.putD, e49, e50, Act.put, List.setIfInBounds_toArray, List.set_cons_zero, List.set_cons_succ]
    intro KK hK
    go_simp
    exact hK _ _ hx (Below.refl _ _) rfl
  apply Relb.relb_one [(8, 51)] [8] (by kernel_rfl) (by kernel_rfl) (by kernel_rfl)
  case hs =>
    intro vv wx hx hf
    have e51 : vv 8 = _ := hf 8 (by simp)
    clear hf
    have y0 := ncell (bchain hb10 hx) 0 (.int .i64 1) rfl
    have y1 := ncell (bchain hb10 hx) 1 (.string ⟨#[]⟩) rfl
    have y2 := ncell (bchain hb10 hx) 2 (.string T) rfl
    have y3 := ncell (bchain hb10 hx) 3 (.int .i64 0) rfl
    have y4 := ncell (bchain hb10 hx) 4 (.bool false) rfl
    have y5 := ncell (bchain hb10 hx) 5 (.bool false) rfl
    have y6 := ncell (bchain hb10 hx) 6 (.string ⟨#[]⟩) rfl
    have y7 := ncell (bchain hb10 hx) 7 (.bool false) rfl
    have y8 := ncell (bchain hb10 hx) 8 (.bool false) rfl
    have y9 := ncell (bchain hb10 hx) 9 (.string ⟨#[]⟩) rfl
    have y10 := ncell (bchain hb10 hx) 10 (.slice none 0 0) rfl
    have y11 := ncell (bchain hb10 hx) 11 (.slice none 0 0) rfl
    have b0 := bcell (bchain hb10 hx) 0 (.slice (some ⟨fg, fo, none⟩) n c) rfl
    have f0 := (show wx.cell? ⟨fg, fo, none⟩ = some (.string nm) from fcell (bchain hb10 hx) 0 (.string nm) rfl)
    have f1 := fcell (bchain hb10 hx) 1 (.int .i64 1) rfl
    have f2 := fcell (bchain hb10 hx) 2 (.bool a) rfl
    have f3 := fcell (bchain hb10 hx) 3 (.bool b) rfl
    have f4 := fcell (bchain hb10 hx) 4 (.bool d) rfl
    try simp only [Relb.putD, e51, Act.put, List.setIfInBounds_toArray, List.set_cons_zero, List.set_cons_succ]
    intro KK hK
    go_simp
    exact hK _ _ hx (Below.refl _ _) rfl
  apply Relb.relb_one [] [] (by kernel_rfl) (by kernel_rfl) (by kernel_rfl)
  case hs =>
    intro vv wx hx hf
    clear hf
    try simp only [Relb.putD, Act.put, List.setIfInBounds_toArray, List.set_cons_zero, List.set_cons_succ]
    intro KK hK
    go_simp
    exact hK _ _ hx (Below.refl _ _) rfl
  refine RelbA.relba_end (N := 5) [(0, 43), (1, 44), (2, 45), (3, 46), (4, 47), (5, 48), (6, 49), (7, 50), (8, 51), (9, 52), (10, 53)] (by kernel_rfl) (by kernel_rfl) ?_
  intro vv wx hx hf
  have e43 : vv 0 = _ := hf 0 (by decide)
  have e44 : vv 1 = _ := hf 1 (by decide)
  have e45 : vv 2 = _ := hf 2 (by decide)
  have e46 : vv 3 = _ := hf 3 (by decide)
  have e47 : vv 4 = _ := hf 4 (by decide)
  have e48 : vv 5 = _ := hf 5 (by decide)
  have e49 : vv 6 = _ := hf 6 (by decide)
  have e50 : vv 7 = _ := hf 7 (by decide)
  have e51 : vv 8 = _ := hf 8 (by decide)
  have e52 : vv 9 = _ := hf 9 (by decide)
  have e53 : vv 10 = _ := hf 10 (by decide)
  clear hf
  simp only [Relb.putD, e43, e44, e45, e46, e47, e48, e49, e50, e51, e52, e53, Act.put, List.setIfInBounds_toArray, List.set_cons_zero, List.set_cons_succ]
  clear e43 e44 e45 e46 e47 e48 e49 e50 e51 e52 e53
  refine wpAny_ready (rs := [11]) (by kernel_rfl) (by simp) ?_
  refine AllReady.cons (by rw [List.getElem?_toArray]; rfl) (fun K hK => ?_) AllReady.nil
  go_simp
  go_at_call 88
  refine (WO.out _ (bchain hbW (bchain hb10 hx))).mono ?_
  rintro e w2 ⟨rfl, hb2⟩
  refine hK _ _ ?_
  clear hK K
  try simp only [Act.put, List.setIfInBounds_toArray, List.set_cons_zero, List.set_cons_succ]
  have hfin : Below w.heap.size w w2 := bchain (bchain hbW (bchain hb10 hx)) hb2
  have KZ := KQ.below (bchain (bchain hb10 hx) hb2) (by have := HZ.out; omega)
  have z0 : w2.cell? ⟨w.heap.size + 1, 0, none⟩ = some (.int .i64 0) := KZ.cell 0
  have y0 : w2.frozen? ⟨w.heap.size + 1, 0, none⟩ = false := KZ.frozen 0
  have z1 : w2.cell? ⟨w.heap.size + 1, 1, none⟩ = some (.int .i64 0) := KZ.cell 1
  have y1 : w2.frozen? ⟨w.heap.size + 1, 1, none⟩ = false := KZ.frozen 1
  have z2 : w2.cell? ⟨w.heap.size + 1, 2, none⟩ = some (.string ⟨#[]⟩) := KZ.cell 2
  have y2 : w2.frozen? ⟨w.heap.size + 1, 2, none⟩ = false := KZ.frozen 2
  have z3 : w2.cell? ⟨w.heap.size + 1, 3, none⟩ = some (.slice none 0 0) := KZ.cell 3
  have y3 : w2.frozen? ⟨w.heap.size + 1, 3, none⟩ = false := KZ.frozen 3
  have z4 : w2.cell? ⟨w.heap.size + 1, 4, none⟩ = some (.slice none 0 0) := KZ.cell 4
  have y4 : w2.frozen? ⟨w.heap.size + 1, 4, none⟩ = false := KZ.frozen 4
  have z5 : w2.cell? ⟨w.heap.size + 1, 5, none⟩ = some (.int .i64 0) := KZ.cell 5
  have y5 : w2.frozen? ⟨w.heap.size + 1, 5, none⟩ = false := KZ.frozen 5
  have z6 : w2.cell? ⟨w.heap.size + 1, 6, none⟩ = some (.int .u64 0) := KZ.cell 6
  have y6 : w2.frozen? ⟨w.heap.size + 1, 6, none⟩ = false := KZ.frozen 6
  have z7 : w2.cell? ⟨w.heap.size + 1, 7, none⟩ = some (.bool false) := KZ.cell 7
  have y7 : w2.frozen? ⟨w.heap.size + 1, 7, none⟩ = false := KZ.frozen 7
  have z8 : w2.cell? ⟨w.heap.size + 1, 8, none⟩ = some (.bool false) := KZ.cell 8
  have y8 : w2.frozen? ⟨w.heap.size + 1, 8, none⟩ = false := KZ.frozen 8
  have z9 : w2.cell? ⟨w.heap.size + 1, 9, none⟩ = some (.string ⟨#[]⟩) := KZ.cell 9
  have y9 : w2.frozen? ⟨w.heap.size + 1, 9, none⟩ = false := KZ.frozen 9
  have z10 : w2.cell? ⟨w.heap.size + 1, 10, none⟩ = some (.bool false) := KZ.cell 10
  have y10 : w2.frozen? ⟨w.heap.size + 1, 10, none⟩ = false := KZ.frozen 10
  have z11 : w2.cell? ⟨w.heap.size + 1, 11, none⟩ = some (.bool false) := KZ.cell 11
  have y11 : w2.frozen? ⟨w.heap.size + 1, 11, none⟩ = false := KZ.frozen 11
  have z12 : w2.cell? ⟨w.heap.size + 1, 12, none⟩ = some (.string ⟨#[]⟩) := KZ.cell 12
  have y12 : w2.frozen? ⟨w.heap.size + 1, 12, none⟩ = false := KZ.frozen 12
  have z13 : w2.cell? ⟨w.heap.size + 1, 13, none⟩ = some (.slice none 0 0) := KZ.cell 13
  have y13 : w2.frozen? ⟨w.heap.size + 1, 13, none⟩ = false := KZ.frozen 13
  have z14 : w2.cell? ⟨w.heap.size + 1, 14, none⟩ = some (.slice none 0 0) := KZ.cell 14
  have y14 : w2.frozen? ⟨w.heap.size + 1, 14, none⟩ = false := KZ.frozen 14
  (refine wpAny_take (i := 12) (v := ?v12) (by rw [List.getElem?_toArray]; rfl) (by kernel_rfl) (by kernel_rfl) (by kernel_rfl) (by exact fun _ _ _ h => h) (Or.inl ⟨by rfl, ?y12⟩) ?r12)
  case y12 => (intro w'; go_simp; try with_reducible rfl)
  try simp only [Act.put, List.setIfInBounds_toArray, List.set_cons_zero, List.set_cons_succ]
  (refine wpAny_take (i := 13) (v := ?v13) (by rw [List.getElem?_toArray]; rfl) (by kernel_rfl) (by kernel_rfl) (by kernel_rfl) (by exact fun _ _ _ h => h) (Or.inl ⟨by rfl, ?y13⟩) ?r13)
  case y13 => (intro w'; go_simp; try with_reducible rfl)
  try simp only [Act.put, List.setIfInBounds_toArray, List.set_cons_zero, List.set_cons_succ]
  refine wpAny_ready (rs := [14]) (by kernel_rfl) (by simp) ?_
  refine AllReady.cons (by rw [List.getElem?_toArray]; rfl) (fun K hK => ?_) AllReady.nil
  go_simp
  refine hK _ _ ?_
  clear hK K
  try simp only [Act.put, List.setIfInBounds_toArray, List.set_cons_zero, List.set_cons_succ]
  refine wpAny_ready (rs := [15]) (by kernel_rfl) (by simp) ?_
  refine AllReady.cons (by rw [List.getElem?_toArray]; rfl) (fun K hK => ?_) AllReady.nil
  go_simp
  refine hK _ _ ?_
  clear hK K
  try simp only [Act.put, List.setIfInBounds_toArray, List.set_cons_zero, List.set_cons_succ]
  refine wpAny_done (by kernel_rfl) ?_ _
  have hb := blk_term (at_ := 0) (x := tk.text) KZ
  clear z0 y0 z1 y1 z2 y2 z3 y3 z4 y4 z5 y5 z6 y6 z7 y7 z8 y8 z9 y9 z10 y10 z11 y11 z12 y12 z13 y13 z14 y14
  go_wp2_with fail
  refine bodyPost_ret (results_blk (p := 4) (u := 5) (ty := 29) (t := 29) (g := w.heap.size + 1) (cs := bareQ 4 0 tk.text) ?_ ?_ hb Tryz.underlying29 ?_ ?_) ?_ ⟨?_, ?_⟩
  · rfl
  · rfl
  · rfl
  · rw [qInfo]; rfl
  · rfl
  · rfl
  · have hle : w.heap.size ≤ w.heap.size + 1 := Nat.le_succ _
    exact (((((((((((((((hfin.setCell (p := ⟨w.heap.size + 1, 0, none⟩) hle _).setCell (p := ⟨w.heap.size + 1, 1, none⟩) hle _).setCell (p := ⟨w.heap.size + 1, 2, none⟩) hle _).setCell (p := ⟨w.heap.size + 1, 3, none⟩) hle _).setCell (p := ⟨w.heap.size + 1, 4, none⟩) hle _).setCell (p := ⟨w.heap.size + 1, 5, none⟩) hle _).setCell (p := ⟨w.heap.size + 1, 6, none⟩) hle _).setCell (p := ⟨w.heap.size + 1, 7, none⟩) hle _).setCell (p := ⟨w.heap.size + 1, 8, none⟩) hle _).setCell (p := ⟨w.heap.size + 1, 9, none⟩) hle _).setCell (p := ⟨w.heap.size + 1, 10, none⟩) hle _).setCell (p := ⟨w.heap.size + 1, 11, none⟩) hle _).setCell (p := ⟨w.heap.size + 1, 12, none⟩) hle _).setCell (p := ⟨w.heap.size + 1, 13, none⟩) hle _).setCell (p := ⟨w.heap.size + 1, 14, none⟩) hle _)
end Go.Proofs.YtkcfgcdlnojaeaaGreatDoor.BindTerm
