/-
  The statement CompilePassesUptoCardSaid: for every input of bulk at most 1048576, the listed variables being laid as the program's text lays them, the law returns true and the arguments read as before.
-/
import Derived.Test.YtfpikilhbkeajaaGreatDoorRows
import Derived.Test.YtfpikilhbkeajaaGreatDoorTie
import Derived.Test.YtfpikilhbkeajaaGreatDoorCards
import Derived.Test.YtfpikilhbkeajaaGreatDoorPassesGood
import Derived.Test.YtfpikilhbkeajaaGreatDoorPassesBad
import Derived.Test.YtfpikilhbkeajaaGreatDoorCOpen
import Derived.Test.YtfpikilhbkeajaaGreatDoorLaidComp
import Derived.WalkKit
import Derived.ProofKit
import Derived.OpenShut
import Derived.ShutString
import Derived.SizedLaws
import Derived.Below
import Derived.LaidMore
import Derived.Stop.Joined
import Derived.Stop.LaidErr
import Derived.SevenTiedAt
import Derived.JoinedCond
import Derived.Deep.DeepHandedRow
import Derived.Deep.DeepWitnessRowRef
set_option linter.unusedVariables false
set_option linter.unusedSimpArgs false
namespace Go.Proofs.YtfpikilhbkeajaaGreatDoor.CompilePassesDone
open Go.ChangeShapes Go.WideShapes Go.ChangeAt Go.RowKit LaidComp PlanArgs ProgTail GoodPl AllLeaves
set_option linter.unusedVariables false

theorem own : ownKnob Tryz.prog.godebug = none := by kernel_rfl
theorem laidOut : laidOutB Tryz.prog = true := by kernel_rfl
theorem laid_eq : Rows.compilePassesUptoRow.laid = laid5 := by kernel_rfl

def zeros : Array Value := #[.agg #[.int .i64 0, .int .i64 0, .string ByteArray.empty, .slice none 0 0, .slice none 0 0, .int .i64 0, .int .u64 0, .bool false, .bool false, .string ByteArray.empty, .bool false, .bool false, .string ByteArray.empty, .slice none 0 0, .slice none 0 0, .bool false, .slice none 0 0], .agg #[.int .i64 0, .slice none 0 0]]
theorem reads (os : Os) {H : Type} (enc : TypeId × Value → H) : ∃ places, DataW.whole enc Tryz.prog ((World.laidAll Tryz.prog os laid5).forCall (fun _ _ => 0) ⟨#[], zeros, []⟩).memory Tryz.f5.params.toList Rows.compilePassesSpec.vars false zeros.toList 8 = some ([.agg [.agg [.lit (.int .i64 0), .lit (.int .i64 0), .lit (.string []), .nil, .nil, .lit (.int .i64 0), .lit (.int .u64 0), .agg [.lit (.bool false), .lit (.bool false), .lit (.string [])], .agg [.lit (.bool false), .lit (.bool false), .lit (.string [])], .nil, .nil], .lit (.bool false), .nil], .agg [.lit (.int .i64 0), .nil]], [], places) :=
  ⟨[], by kernel_rfl⟩

set_option maxHeartbeats 1000000 in
set_option maxRecDepth 100000 in
theorem lifted (os : Os) (started : os.Started) (H : Type) (enc : TypeId × Value → H) (F : Stop.Interp) :
    ReturnsInHanded {} Tryz.checked os 5 .any ((Rows.OpenSpec.upto Rows.compilePassesSpec).preRow enc Tryz.prog Tryz.f5 Rows.compilePassesUptoRow.domain false Rows.compilePassesUptoRow.laid) (((Rows.OpenSpec.upto Rows.compilePassesSpec).at F).post enc Tryz.prog Tryz.f5 false true false false) := by
  obtain ⟨places, hx⟩ := reads os enc
  refine returnsInHanded_of_row (C := Tryz.checked) (s := Rows.OpenSpec.upto Rows.compilePassesSpec) own started (by kernel_rfl) Tryz.func5
    (witness_row_atRef (enc := enc) (C := Tryz.checked) false (World.laidAll Tryz.prog os laid5) zeros (World.laidAll_os _ _ _) (by kernel_rfl) (by kernel_rfl) (by kernel_rfl)
      (OpenSpec.preRow_of_cond 8 hx (by kernel_rfl) (fun k hk => by cases hk; kernel_rfl) (by kernel_rfl) (by rw [laid_eq]; exact door_met os _))) ?_
  intro W base args ds gs before hval0 hW _ hcond _ hL _ _
  have hk0 := hcond _ rfl
  have hval : ∀ (j : Nat) t v, Tryz.f5.params[j]? = some t → args[j]? = some v → Value.okWide Tryz.prog W .any base t v := hval0
  have hW' := hW
  obtain ⟨p, q, hA0, hV, rfl, hfz, hnd⟩ := hW
  have hA : DataW.TrodAll enc Tryz.prog W 0 (fun _ => true) true Tryz.f5.params.toList args.toList ds p := hA0
  rw [Tryz.params5] at hA hval
  obtain ⟨v0, vs0, d0, ds0, p0, q0, hargs, rfl, rfl, h0, r0⟩ := trodAll_cons hA
  obtain ⟨v1, vs1, d1, ds1, p1, q1, rfl, rfl, rfl, h1, r1⟩ := trodAll_cons r0
  obtain ⟨rfl, rfl, rfl⟩ := trodAll_nil r1
  obtain rfl : args = #[v0, v1] := by cases args; simp_all
  obtain ⟨rfl, rfl⟩ := trodVars_none hV
  have hbulk : Rows.uptoBulkAll (_ : List (DataW H)) ≤ 1048576 := of_decide_eq_true hk0
  simp only [List.append_nil, List.cons_append, List.nil_append, Rows.uptoBulkAll] at hbulk
  have k0 := h0
  have lt0 : ∀ x ∈ p0, x.block < W.heap.size := by obtain ⟨m, hm⟩ := k0; exact DataW.trod_lt m _ _ _ hm
  obtain ⟨hd, ks, A1, A2, A3, A4, c1, c2, c3, c4, all, AD, cD, dr, rfl, x0, sd, okd, b0⟩ := open_plan (hval 0 32 v0 rfl rfl) h0
  have k1 := h1
  have lt1 : ∀ x ∈ p1, x.block < W.heap.size := by obtain ⟨m, hm⟩ := k1; exact DataW.trod_lt m _ _ _ hm
  obtain ⟨docs, AS, cS, sums, rfl, hdw, ss, hsw, b1⟩ := open_stats (hval 1 34 v1 rfl rfl) h1
  rw [laid_eq] at hL
  have hmet := met hL
  obtain ⟨htab, ⟨a, hnode⟩, a2, hcode⟩ := all5 hmet
  clear hA0 hval0
  have hsz := size_bulk (.mk hd ks)
  have HA : Asked hd ks A1 A2 A3 A4 c1 c2 c3 c4 AD dr AS sums a a2 W :=
    ⟨x0, sd, okd, by omega, ss, by omega, fun y hy => by have := hsw y hy; simp [Lit.wf, IntKind.min, IntKind.max, IntKind.signed, IntKind.bits] at this; omega, short_bulk (OpenPlan.bulk (.mk hd ks)) _ (Nat.le_refl _) (by omega), by omega, htab, tab_size htab, hnode, by have := tab_size htab; omega, hcode, by have := tab_size htab; omega⟩
  have WALK : Calls Tryz.prog 5 #[.agg (plC hd ks.length A1 A2 A3 A4 c1 c2 c3 c4 all AD dr.length cD), .agg #[.int .i64 docs, .slice AS sums.length cS]] W fun e w' => e = .returned (.bool true) ∧ Below W.heap.size W w' := by
    cases hg : goodPl sums.length (.mk hd ks) all dr with
    | true => exact PassesGood.walk_good hd ks A1 A2 A3 A4 c1 c2 c3 c4 all AD cD dr docs AS cS sums a a2 W HA hg
    | false => exact PassesBad.walk_bad hd ks A1 A2 A3 A4 c1 c2 c3 c4 all AD cD dr docs AS cS sums a a2 W HA hg
  refine WALK.mono fun e W' ⟨he, bel⟩ => ?_
  subst he
  exact ⟨_, rfl, _, _, _, [], _, [], hW', trodAll_mk1 (shut_bool Tryz.underlying4 _), (trodAll_cons_mk (Below.trod laidOut (by kernel_rfl) (of_decide_eq_true (by kernel_rfl)) k0 bel lt0) (trodAll_cons_mk (Below.trod laidOut (by kernel_rfl) (of_decide_eq_true (by kernel_rfl)) k1 bel lt1) trodAll_mk0)), rfl, bel.frame _, fun h => by cases h⟩

theorem over : Rows.CompilePassesUptoSaid :=
  OpenClaim.holds_of_cond 5 Tryz.f5 rfl rfl rfl rfl rfl rfl rfl ⟨rfl, rfl, rfl, rfl, rfl⟩ rfl rfl rfl rfl rfl (by kernel_rfl) Tryz.func5 (by kernel_rfl)
    (of_decide_eq_true (by kernel_rfl)) (by unfold Func.isWrapper; rw [if_neg (of_decide_eq_false (by kernel_rfl))]; exact ⟨rfl, rfl⟩)
    (fun os started H enc _ F => by rw [OpenClaim.pre_eq_preRow]; exact lifted os started H enc F)

theorem plain (f : FuncId) (fn : Func) (hf : Tryz.pinned.checked.prog.funcNamed "concord/concordlaw22.CompilePasses" = some f) (hfn : Tryz.pinned.checked.prog.funcs[f]? = some fn) :
    true = Tryz.pinned.checked.prog.looks [] ∧ ∀ (j : Nat) t, fn.params[j]? = some t → Tryz.pinned.checked.prog.wantsStandIn t = false := by
  obtain rfl : f = 5 := Option.some.inj ((show Tryz.prog.funcNamed "concord/concordlaw22.CompilePasses" = some 5 by kernel_rfl).symm.trans hf) |>.symm
  obtain rfl : fn = Tryz.f5 := (Option.some.inj (Tryz.func5.symm.trans hfn)).symm
  refine ⟨by kernel_rfl, fun j t ht => ?_⟩
  rw [Tryz.params5] at ht
  have hm := Array.mem_of_getElem? ht
  simp only [List.mem_toArray, List.mem_cons, List.not_mem_nil, or_false] at hm
  rcases hm with rfl | rfl
  · exact (show Tryz.prog.wantsStandIn 32 = false by kernel_rfl)
  · exact (show Tryz.prog.wantsStandIn 34 = false by kernel_rfl)

theorem proved : Rows.CompilePassesUptoCardSaid :=
  Claim7.holds_tied_plain_at .later [] _ _ _ _ over (fun _ h => by cases h) (by kernel_rfl) (fun _ h => by cases h) compilePassesUpto_row_tie rfl ⟨rfl, rfl⟩ (by kernel_rfl) rfl plain (by kernel_rfl)
end Go.Proofs.YtfpikilhbkeajaaGreatDoor.CompilePassesDone
