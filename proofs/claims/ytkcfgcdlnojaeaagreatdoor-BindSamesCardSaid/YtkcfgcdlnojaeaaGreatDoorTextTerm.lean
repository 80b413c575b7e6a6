/-
  The walk of bind.Text over a term's query.
-/
import Derived.Test.YtkcfgcdlnojaeaaGreatDoorLineTerm
import Derived.Test.YtkcfgcdlnojaeaaGreatDoorTermCheck
namespace Go.Proofs.YtkcfgcdlnojaeaaGreatDoor.TextTerm
set_option maxRecDepth 100000
open Go.RowKit Go.PlainAid Base Query BindBase TermCheck Bytes Digits Quoted Rel Relb RelbT RelC LineTerm

set_option maxHeartbeats 4000000 in
theorem text_term (f : Nat) (hf : f < 10) (t : ByteArray) (hp : Plain t) (ev : Value) (w : World) (ht : t.size ≤ 1048576) (he : w.cell? ⟨1, 0, none⟩ = some ev) (h0 : 1 < w.heap.size) :
    Calls Tryz.prog 13 #[.agg (bareQ 4 f t)] w fun e w' => e = .returned (.string ⟨(lineT f t).toArray⟩) ∧ Below w.heap.size w w' := by
  obtain ⟨W0, hW0⟩ : ∃ W, W = w.alloc (.cells (bareQ 4 f t) 29) := ⟨_, rfl⟩
  have K1 : Blk W0 w.heap.size 29 (bareQ 4 f t) := by rw [hW0]; exact Blk.new w _ _
  have hsz : w.heap.size + 1 = W0.heap.size := by rw [hW0]; simp
  have hbW : Below w.heap.size w W0 := by rw [hW0]; (repeat (first | exact Below.refl _ _ | assumption | refine balloc ?_ _ | refine bdrew ?_ | refine bdrewN ?_ _ | refine bchain ?_ (by assumption)))
  have CT := Lib.hid (check_term f 16 t false ev W0 ((hbW.cell (p := ⟨1, 0, none⟩) h0).trans he) (Nat.lt_of_lt_of_le h0 hbW.size))
  have hin : errUnless (inF f 16) ev = .nilIface := by rw [inF_yes (by omega) (by omega)]; rfl
  rw [hin] at CT
  have LT := Lib.hid (fun W => line_term f hf t hp (.slice none 0 0) [] 0 W (World.ownsRow_nil _ _ _ _) (Nat.zero_le _) (by simp; omega))
  have HW := Lib.hid hW0
  unfold bareQ at CT LT hW0 ⊢
  rw [hW0] at CT
  clear hW0 hin he
  go_enter Tryz.func13, Tryz.ntmps13
  go_upto_region 3 with (go_at_call 19; refine CT.out.mono ?_; rintro e W1 ⟨rfl, hb1⟩)
  have hb01 : Below W0.heap.size W0 W1 := by rw [HW.out]; exact hb1
  have KQ := K1.below hb01 (by omega)
  have hlt1 : w.heap.size < W1.heap.size := KQ.lt
  have qcell : ∀ {wx : World} (hx : Below W1.heap.size W1 wx) (j : Nat) (u : Value) (_ : (bareQ 4 f t)[j]? = some u), wx.cell? ⟨w.heap.size, j, none⟩ = some u := fun hx j u hu => ((KQ.below hx hlt1).cell j).trans hu
  clear CT
  refine RelbT.wp_region_relbt 2 (fun wx => Below W1.heap.size W1 wx) (fun wa wb => Below wa.heap.size wa wb) (by kernel_rfl) (by kernel_rfl) (by kernel_rfl) (by simp) (bdrew (Below.refl _ _)) ?_
  simp only [List.take_succ_cons, List.take_zero, List.drop_succ_cons, List.drop_zero]
  apply Relb.relb_one [] [] (by kernel_rfl) (by kernel_rfl) (by kernel_rfl)
  case hs =>
    intro vv wx hx hf
    clear hf
    have y0 := qcell hx 0 (.int .i64 4) rfl
    have y1 := qcell hx 1 (.int .i64 f) rfl
    have y2 := qcell hx 2 (.string t) rfl
    have y3 := qcell hx 3 (.slice none 0 0) rfl
    have y4 := qcell hx 4 (.slice none 0 0) rfl
    have y5 := qcell hx 5 (.int .i64 0) rfl
    have y6 := qcell hx 6 (.int .u64 0) rfl
    have y7 := qcell hx 7 (.bool false) rfl
    have y8 := qcell hx 8 (.bool false) rfl
    have y9 := qcell hx 9 (.string ⟨#[]⟩) rfl
    have y10 := qcell hx 10 (.bool false) rfl
    have y11 := qcell hx 11 (.bool false) rfl
    have y12 := qcell hx 12 (.string ⟨#[]⟩) rfl
    have y13 := qcell hx 13 (.slice none 0 0) rfl
    have y14 := qcell hx 14 (.slice none 0 0) rfl
    try simp only [Relb.putD, Act.put, List.setIfInBounds_toArray, List.set_cons_zero, List.set_cons_succ]
    intro KK hK
    go_simp
    go_at_call 47
    refine (kinds_any _).mono ?_
    rintro e w2 ⟨rfl, hb2⟩
    exact hK _ _ (bchain hx hb2) hb2 rfl
  apply Relb.relb_one [] [] (by kernel_rfl) (by kernel_rfl) (by kernel_rfl)
  case hs =>
    intro vv wx hx hf
    clear hf
    have y0 := qcell hx 0 (.int .i64 4) rfl
    have y1 := qcell hx 1 (.int .i64 f) rfl
    have y2 := qcell hx 2 (.string t) rfl
    have y3 := qcell hx 3 (.slice none 0 0) rfl
    have y4 := qcell hx 4 (.slice none 0 0) rfl
    have y5 := qcell hx 5 (.int .i64 0) rfl
    have y6 := qcell hx 6 (.int .u64 0) rfl
    have y7 := qcell hx 7 (.bool false) rfl
    have y8 := qcell hx 8 (.bool false) rfl
    have y9 := qcell hx 9 (.string ⟨#[]⟩) rfl
    have y10 := qcell hx 10 (.bool false) rfl
    have y11 := qcell hx 11 (.bool false) rfl
    have y12 := qcell hx 12 (.string ⟨#[]⟩) rfl
    have y13 := qcell hx 13 (.slice none 0 0) rfl
    have y14 := qcell hx 14 (.slice none 0 0) rfl
    try simp only [Relb.putD, Act.put, List.setIfInBounds_toArray, List.set_cons_zero, List.set_cons_succ]
    intro KK hK
    go_simp
    exact hK _ _ hx (Below.refl _ _) rfl
  refine RelbT.relbt_end [(0, 6), (1, 7)] (by kernel_rfl) (by kernel_rfl) ?_
  intro vv wx hx hf
  have e6 : vv 0 = _ := hf 0 (by decide)
  have e7 : vv 1 = _ := hf 1 (by decide)
  clear hf
  simp only [Relb.putD, e6, e7, Act.put, List.setIfInBounds_toArray, List.set_cons_zero, List.set_cons_succ]
  clear e6 e7
  go_wp2_with (go_at_call 46; refine (LT.out _).mono ?_; rintro e w5 ⟨v5, rfl, ha5⟩; have hcv := run_string_own (P := Tryz.prog) (B := 82) (S := 9) u8und Tryz.underlying5 Tryz.underlying9 ha5.1; rw [List.nil_append] at hcv)
  go_ret
  have hb5 : Below wx.heap.size wx w5 := ⟨ha5.2.1.os, ha5.2.1.tape, ha5.2.1.output, ha5.2.1.size, fun k hk => ha5.2.1.block k hk (by intro h; cases h)⟩
  exact ⟨rfl, bchain (bchain (bchain hbW hb01) hx) hb5⟩
end Go.Proofs.YtkcfgcdlnojaeaaGreatDoor.TextTerm
