/-
  The statement BindGoodUptoCardSaid: for every input of bulk at most 1048576, the listed tables being laid as the program's text lays them, the law returns true and the arguments read as before.
-/
import Derived.Test.YtkcfgcdlnojaeaaGreatDoorRows
import Derived.Test.YtkcfgcdlnojaeaaGreatDoorTie
import Derived.Test.YtkcfgcdlnojaeaaGreatDoorCards
import Derived.Test.YtkcfgcdlnojaeaaGreatDoorBindGoodWalk
import Derived.Test.YtkcfgcdlnojaeaaGreatDoorDOpenN
import Derived.Test.YtkcfgcdlnojaeaaGreatDoorDQry
import Derived.Test.YtkcfgcdlnojaeaaGreatDoorLaidAsks
import Derived.WalkKit
import Derived.ProofKit
import Derived.OpenShut
import Derived.ShutString
import Derived.SizedLaws
import Derived.Below
import Derived.LaidMore
import Derived.Stop.Joined
import Derived.Stop.LaidErr
import Derived.SevenTiedAt
import Derived.JoinedCond
import Derived.Deep.DeepHandedRow
import Derived.Deep.DeepWitnessRowRef
set_option linter.unusedVariables false
set_option linter.unusedSimpArgs false
namespace Go.Proofs.YtkcfgcdlnojaeaaGreatDoor.BindGoodDone
open Go.ChangeShapes Go.WideShapes Go.ChangeAt Go.RowKit StopsWalk LaidBind LaidAsks OpenField OpenSchema OpenNode
open Go.ChangeMaps (open_string shut_string)
set_option linter.unusedVariables false

theorem own : ownKnob Tryz.prog.godebug = none := by kernel_rfl
theorem laidOut : laidOutB Tryz.prog = true := by kernel_rfl

theorem laid_eq : Rows.bindGoodUptoRow.laid = theLaid := by kernel_rfl

theorem reads (os : Os) {H : Type} (enc : TypeId × Value → H) : ∃ places, DataW.whole enc Tryz.prog ((World.laidAll Tryz.prog os theLaid).forCall (fun _ _ => 0) ⟨#[], #[.agg #[.slice none 0 0], .agg #[.int .i64 0, .string ByteArray.empty, .string ByteArray.empty, .int .i64 0, .bool false, .bool false, .string ByteArray.empty, .bool false, .bool false, .string ByteArray.empty, .slice none 0 0, .slice none 0 0]], []⟩).memory Tryz.f4.params.toList Rows.bindGoodSpec.vars false #[.agg #[.slice none 0 0], .agg #[.int .i64 0, .string ByteArray.empty, .string ByteArray.empty, .int .i64 0, .bool false, .bool false, .string ByteArray.empty, .bool false, .bool false, .string ByteArray.empty, .slice none 0 0, .slice none 0 0]].toList 8 = some ([.agg [.nil], .agg [.lit (.int .i64 0), .lit (.string []), .lit (.string []), .lit (.int .i64 0), .agg [.lit (.bool false), .lit (.bool false), .lit (.string [])], .agg [.lit (.bool false), .lit (.bool false), .lit (.string [])], .nil, .nil]], [], places) :=
  ⟨[], by kernel_rfl⟩

set_option maxHeartbeats 1000000 in
set_option maxRecDepth 100000 in
theorem lifted (os : Os) (started : os.Started) (H : Type) (enc : TypeId × Value → H) (F : Stop.Interp) :
    ReturnsInHanded {} Tryz.checked os 4 .any ((Rows.OpenSpec.upto Rows.bindGoodSpec).preRow enc Tryz.prog Tryz.f4 Rows.bindGoodUptoRow.domain false Rows.bindGoodUptoRow.laid) (((Rows.OpenSpec.upto Rows.bindGoodSpec).at F).post enc Tryz.prog Tryz.f4 false true false false) := by
  obtain ⟨places, hx⟩ := reads os enc
  refine returnsInHanded_of_row (C := Tryz.checked) (s := Rows.OpenSpec.upto Rows.bindGoodSpec) own started (by kernel_rfl) Tryz.func4
    (witness_row_atRef (enc := enc) (C := Tryz.checked) false (World.laidAll Tryz.prog os theLaid) #[.agg #[.slice none 0 0], .agg #[.int .i64 0, .string ByteArray.empty, .string ByteArray.empty, .int .i64 0, .bool false, .bool false, .string ByteArray.empty, .bool false, .bool false, .string ByteArray.empty, .slice none 0 0, .slice none 0 0]] (World.laidAll_os _ _ _) (by kernel_rfl) (by kernel_rfl) (by kernel_rfl)
      (OpenSpec.preRow_of_cond 8 hx (by kernel_rfl) (fun k hk => by cases hk; kernel_rfl) (by kernel_rfl) (by rw [laid_eq]; exact door_met os _))) ?_
  intro W base args ds gs before hval0 hW _ hcond _ hL _ _
  have hk0 := hcond _ rfl
  have hval : ∀ (j : Nat) t v, Tryz.f4.params[j]? = some t → args[j]? = some v → Value.okWide Tryz.prog W .any base t v := hval0
  have hW' := hW
  obtain ⟨p, q, hA0, hV, rfl, hfz, hnd⟩ := hW
  have hA : DataW.TrodAll enc Tryz.prog W 0 (fun _ => true) true Tryz.f4.params.toList args.toList ds p := hA0
  rw [Tryz.params4] at hA hval
  obtain ⟨v0, vs0, d0, ds0, p0, q0, hargs, rfl, rfl, h0, r0⟩ := trodAll_cons hA
  obtain ⟨v1, vs1, d1, ds1, p1, q1, rfl, rfl, rfl, h1, r1⟩ := trodAll_cons r0
  obtain ⟨rfl, rfl, rfl⟩ := trodAll_nil r1
  obtain rfl : args = #[v0, v1] := by cases args; simp_all
  obtain ⟨rfl, rfl⟩ := trodVars_none hV
  have hbulk : Rows.uptoBulkAll (_ : List (DataW H)) ≤ 1048576 := of_decide_eq_true hk0
  simp only [List.append_nil, List.cons_append, List.nil_append, Rows.uptoBulkAll] at hbulk
  have k0 := h0
  have lt0 : ∀ x ∈ p0, x.block < W.heap.size := by obtain ⟨m, hm⟩ := k0; exact DataW.trod_lt m _ _ _ hm
  obtain ⟨A0, c0, fs0, rfl, s0, b0⟩ := open_schema (hval 0 36 v0 rfl rfl) h0
  have k1 := h1
  have lt1 : ∀ x ∈ p1, x.block < W.heap.size := by obtain ⟨m, hm⟩ := k1; exact DataW.trod_lt m _ _ _ hm
  obtain ⟨cs1, y1, rfl, x1, b1⟩ := open_nodv (hval 1 39 v1 rfl rfl) h1
  rw [laid_eq] at hL
  have hmet := met hL
  have htab := tab_laid hmet
  obtain ⟨a, hnode⟩ := node_laid hmet
  obtain ⟨ae, hschema⟩ := schema_laid2 hmet
  clear hA0 hval0
  refine (BindGoodWalk.walk fs0 A0 c0 y1 cs1 W.heap.size W.heap.size ae a W x1 (Nat.le_refl _) (by omega) (Nat.le_refl _) s0.1 (fun f hf => (s0.2 f hf).2) (by omega) htab (tab_size htab) (asks_laid hmet) (by have := tab_size htab; omega) hschema (by have := tab_size htab; omega) hnode (by have := tab_size htab; omega)).mono fun e W' ⟨he, bel⟩ => ?_
  subst he
  exact ⟨_, rfl, _, _, _, [], _, [], hW', trodAll_mk1 (shut_bool Tryz.underlying4 _), (trodAll_cons_mk (Below.trod laidOut (by kernel_rfl) (of_decide_eq_true (by kernel_rfl)) k0 bel lt0) (trodAll_cons_mk (Below.trod laidOut (by kernel_rfl) (of_decide_eq_true (by kernel_rfl)) k1 bel lt1) trodAll_mk0)), rfl, bel.frame _, fun h => by cases h⟩

theorem over : Rows.BindGoodUptoSaid :=
  OpenClaim.holds_of_cond 4 Tryz.f4 rfl rfl rfl rfl rfl rfl rfl ⟨rfl, rfl, rfl, rfl, rfl⟩ rfl rfl rfl rfl rfl (by kernel_rfl) Tryz.func4 (by kernel_rfl)
    (of_decide_eq_true (by kernel_rfl)) (by unfold Func.isWrapper; rw [if_neg (of_decide_eq_false (by kernel_rfl))]; exact ⟨rfl, rfl⟩)
    (fun os started H enc _ F => by rw [OpenClaim.pre_eq_preRow]; exact lifted os started H enc F)

theorem plain (f : FuncId) (fn : Func) (hf : Tryz.pinned.checked.prog.funcNamed "concord/concordlaw16.BindGood" = some f) (hfn : Tryz.pinned.checked.prog.funcs[f]? = some fn) :
    true = Tryz.pinned.checked.prog.looks [] ∧ ∀ (j : Nat) t, fn.params[j]? = some t → Tryz.pinned.checked.prog.wantsStandIn t = false := by
  obtain rfl : f = 4 := Option.some.inj ((show Tryz.prog.funcNamed "concord/concordlaw16.BindGood" = some 4 by kernel_rfl).symm.trans hf) |>.symm
  obtain rfl : fn = Tryz.f4 := (Option.some.inj (Tryz.func4.symm.trans hfn)).symm
  refine ⟨by kernel_rfl, fun j t ht => ?_⟩
  rw [Tryz.params4] at ht
  have hm := Array.mem_of_getElem? ht
  simp only [List.mem_toArray, List.mem_cons, List.not_mem_nil, or_false] at hm
  rcases hm with rfl | rfl
  · exact (show Tryz.prog.wantsStandIn 36 = false by kernel_rfl)
  · exact (show Tryz.prog.wantsStandIn 39 = false by kernel_rfl)

theorem proved : Rows.BindGoodUptoCardSaid :=
  Claim7.holds_tied_plain_at .later [] _ _ _ _ over (fun _ h => by cases h) (by kernel_rfl) (fun _ h => by cases h) bindGoodUpto_row_tie rfl ⟨rfl, rfl⟩ (by kernel_rfl) rfl plain (by kernel_rfl)
end Go.Proofs.YtkcfgcdlnojaeaaGreatDoor.BindGoodDone
