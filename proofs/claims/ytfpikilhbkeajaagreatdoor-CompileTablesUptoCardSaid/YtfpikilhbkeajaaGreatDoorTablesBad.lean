/-
  The walk of concordlaw22.CompileTables, a plan that is not good.
-/
import Derived.Test.YtfpikilhbkeajaaGreatDoorCAsk
set_option linter.unusedVariables false
set_option linter.unusedSimpArgs false
namespace Go.Proofs.YtfpikilhbkeajaaGreatDoor.TablesBad
set_option maxRecDepth 100000
open Go.RowKit Go.PlainAid Base Query QrySize EmitPlain EmitBase LeafMap AllLeaves TabPlain TextPlain GoodLoc GoodPl EmitExt LawAt LawTerms TablesPlain TablesC TablesB TablesA TablesW TablesWalk TablesAsk EmitNear HitBase NewMid ProgTail ProgGood ProgBad LawLives LawWrap Avg Args

set_option maxHeartbeats 8000000 in
theorem walk_bad (hd : Head) (ks : List Qry) (A1 A2 A3 A4 : Option Addr) (c1 c2 c3 c4 : Nat) (all : Bool) (AD : Option Addr) (cD : Nat) (dr : List Lf) (docs : Int) (AS : Option Addr) (cS : Nat) (sums : List Int) (x : Int) (hx : (Lit.int .u64 x).wf = true) (a a2 : Addr) (w : World) (H : Asked hd ks A1 A2 A3 A4 c1 c2 c3 c4 AD dr AS sums a a2 w) (hg : goodPl sums.length (.mk hd ks) all dr = false) :
    Calls Tryz.prog 4 #[.agg (plC hd ks.length A1 A2 A3 A4 c1 c2 c3 c4 all AD dr.length cD), .agg #[.int .i64 docs, .slice AS sums.length cS], .int .u64 x] w fun e w' => e = .returned (.bool true) ∧ Below w.heap.size w w' := by
  obtain ⟨PB, hPB⟩ : ∃ b, b = w.heap.size := ⟨_, rfl⟩
  obtain ⟨SB, hSB⟩ : ∃ b, b = w.heap.size + 1 := ⟨_, rfl⟩
  obtain ⟨PC, hPC⟩ : ∃ C, C = plC hd ks.length A1 A2 A3 A4 c1 c2 c3 c4 all AD dr.length cD := ⟨_, rfl⟩
  obtain ⟨W1, hW1⟩ : ∃ W, W = w.alloc (.cells PC 32) := ⟨_, rfl⟩
  obtain ⟨W2, hW2⟩ : ∃ W, W = W1.alloc (.cells #[.int .i64 docs, .slice AS sums.length cS] 34) := ⟨_, rfl⟩
  have s1 : W1.heap.size = w.heap.size + 1 := by rw [hW1]; simp
  have b2 : Below w.heap.size w W2 := by rw [hW2, hW1]; exact Base.bel
  have KP : Blk W2 PB 32 PC := by
    have k1 : Blk W1 w.heap.size 32 PC := by rw [hW1]; exact Blk.new w _ _
    rw [hW2, hPB]
    exact k1.alloc _
  have KS : Blk W2 SB 34 #[.int .i64 docs, .slice AS sums.length cS] := by rw [hW2, hSB, ← s1]; exact Blk.new W1 _ _
  have H2 := asked_below H b2
  have LV := Lib.hid (lives_any a a2 W2 H2.tab H2.tabLt H2.node H2.nodeLt H2.code H2.codeLt)
  have FW := Lib.hid (show ∀ W, Below w.heap.size w W → _ from fun W hb => by
    have := few_plan hd ks A1 A2 A3 A4 c1 c2 c3 c4 all AD dr.length cD docs AS sums.length cS W (asked_below H hb).q
    unfold plC at this
    exact this)
  have WR := Lib.hid (show ∀ W', Below w.heap.size w W' → Calls Tryz.prog 14 #[.int .u64 x] W' fun e w' => e = .returned (.bool true) ∧ Below W'.heap.size W' w' from fun W hb => by
    have h := asked_below H hb
    exact wrapped_any x hx a a2 W h.tab h.tabLt h.node h.nodeLt h.code h.codeLt)
  have EE : ∀ wx : World, (binOp .eql 42 (.iface 222 (.pointer (some a))) (.iface 222 (.pointer (some a)))).run Tryz.prog wx = .ok (.bool true) wx := fun wx => by
    obtain ⟨i, hi, hc⟩ := info_comp
    obtain ⟨j, hj⟩ := info_str
    exact run_eql_iface_ptr_same wx a Tryz.underlying42 Tryz.underlying222 hi hc hj
  have HH := Lib.hid H
  have HPC := Lib.hid hPC
  have HKP := Lib.hid KP
  have HKS := Lib.hid KS
  have HB2 := Lib.hid b2
  have hnl := H.nodeLt
  have hPBl : PB < W2.heap.size := KP.lt
  unfold plC at hPC
  rw [hPC] at hW1
  have HW1 := Lib.hid hW1
  have HW2 := Lib.hid hW2
  have HPB := Lib.hid hPB
  have HSB := Lib.hid hSB
  clear hPC hW1 hW2 hPB hSB s1 b2 KP KS H H2
  have PGB := Lib.hid (show ∀ W, Below w.heap.size w W → _ from fun W hb => by
    have := program_bad hd ks A1 A2 A3 A4 c1 c2 c3 c4 all AD cD dr docs AS cS sums a a2 W (asked_below HH.out hb) hg
    unfold plC errV prog0 at this
    exact this)
  clear hg
  unfold plC
  go_enter Tryz.func4, Tryz.ntmps4
  go_upto_region 1 with fail
  rw [← HSB.out, ← HPB.out, ← HW1.out, ← HW2.out]
  go_upto_region 2 with (go_at_call 6; (with_reducible refine LV.out.mono ?_); rintro e w3 ⟨rfl, hb3⟩; have HB3 := Lib.hid hb3; clear hb3)
  have bw3 : Below w.heap.size w w3 := HB2.out.trans (HB3.out.mono HB2.out.size)
  have F3 := Lib.hid (FW.out w3 bw3)
  have KP3 := HKP.out.below HB3.out HKP.out.lt
  have KS3 := HKS.out.below HB3.out HKS.out.lt
  have KPP := KP3
  rw [HPC.out] at KPP
  unfold plC at KPP
  obtain ⟨y0, y1, y2, y3, y4, y5, y6, y7, y8, y9, y10, y11, y12, y13, y14, y15, y16⟩ := plcs KPP
  have z0 : w3.cell? ⟨SB, 0, none⟩ = some (.int .i64 docs) := KS3.cell 0
  have z1 : w3.cell? ⟨SB, 1, none⟩ = some (.slice AS sums.length cS) := KS3.cell 1
  have HBW3 := Lib.hid bw3
  have HKP3 := Lib.hid KP3
  have HKS3 := Lib.hid KS3
  clear KPP KP3 KS3 bw3
  go_wp2_with (first | (go_at_call 7; (with_reducible refine F3.out.mono ?_); rintro e w4 ⟨⟨b, rfl⟩, hb4⟩; have HB4 := Lib.hid hb4; have bw4 : Below w.heap.size w w4 := HBW3.out.trans (hb4.mono HBW3.out.size); have PB4 := Lib.hid (PGB.out w4 bw4); have HBW4 := Lib.hid bw4; have KPP := HKP3.out.below hb4 HKP3.out.lt; rw [HPC.out] at KPP; unfold plC at KPP; obtain ⟨q0, q1, q2, q3, q4, q5, q6, q7, q8, q9, q10, q11, q12, q13, q14, q15, q16⟩ := plcs KPP; have v0 : w4.cell? ⟨SB, 0, none⟩ = some (.int .i64 docs) := (HKS3.out.below hb4 HKS3.out.lt).cell 0; have v1 : w4.cell? ⟨SB, 1, none⟩ = some (.slice AS sums.length cS) := (HKS3.out.below hb4 HKS3.out.lt).cell 1; clear hb4 bw4 KPP; cases b) | (go_at_call 8; (with_reducible refine PB4.out.mono ?_); rintro e w5 ⟨rfl, hb5⟩; have n0 : ∀ o, (w5.alloc o).cell? ⟨0, 0, none⟩ = some (.iface 222 (.pointer (some a))) := fun o => (((HBW4.out.trans (hb5.mono HBW4.out.size)).alloc (Nat.le_trans HBW4.out.size hb5.size) o).cell (p := ⟨0, 0, none⟩) hnl).trans HH.out.node; have HB5 := Lib.hid hb5; clear hb5) | go_in)
  · go_ret
    exact ⟨rfl, HBW3.out.trans (HB4.out.mono HBW3.out.size)⟩
  · go_ret
    exact ⟨rfl, ((HBW4.out.trans (HB5.out.mono HBW4.out.size)).alloc (Nat.le_trans HBW4.out.size HB5.out.size) _)⟩
end Go.Proofs.YtfpikilhbkeajaaGreatDoor.TablesBad
