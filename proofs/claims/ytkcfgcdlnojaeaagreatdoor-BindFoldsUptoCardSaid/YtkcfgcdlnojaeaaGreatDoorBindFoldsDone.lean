/-
  The statement BindFoldsUptoCardSaid: for every input of bulk at most 1048576, the listed tables being laid as the program's text lays them, the law returns true and the arguments read as before.
-/
import Derived.Test.YtkcfgcdlnojaeaaGreatDoorRows
import Derived.Test.YtkcfgcdlnojaeaaGreatDoorTie
import Derived.Test.YtkcfgcdlnojaeaaGreatDoorCards
import Derived.Test.YtkcfgcdlnojaeaaGreatDoorBindFoldsWalk
import Derived.Test.YtkcfgcdlnojaeaaGreatDoorOpenSchema
import Derived.Test.YtkcfgcdlnojaeaaGreatDoorLaidAsks
import Derived.WalkKit
import Derived.ProofKit
import Derived.OpenShut
import Derived.ShutString
import Derived.SizedLaws
import Derived.Below
import Derived.LaidMore
import Derived.Stop.Joined
import Derived.Stop.LaidErr
import Derived.SevenTiedAt
import Derived.JoinedCond
import Derived.Deep.DeepHandedRow
import Derived.Deep.DeepWitnessRowRef
set_option linter.unusedVariables false
set_option linter.unusedSimpArgs false
namespace Go.Proofs.YtkcfgcdlnojaeaaGreatDoor.BindFoldsDone
open Go.ChangeShapes Go.WideShapes Go.ChangeAt Go.RowKit StopsWalk LaidBind OpenSchema LaidAsks OpenField
open Go.ChangeMaps (open_string shut_string)
set_option linter.unusedVariables false

theorem own : ownKnob Tryz.prog.godebug = none := by kernel_rfl
theorem laidOut : laidOutB Tryz.prog = true := by kernel_rfl

theorem laid_eq : Rows.bindFoldsUptoRow.laid = theLaid := by kernel_rfl

theorem reads (os : Os) {H : Type} (enc : TypeId × Value → H) : ∃ places, DataW.whole enc Tryz.prog ((World.laidAll Tryz.prog os theLaid).forCall (fun _ _ => 0) ⟨#[], #[.agg #[.slice none 0 0], .int .i64 0, .string ByteArray.empty, .string ByteArray.empty], []⟩).memory Tryz.f8.params.toList Rows.bindFoldsSpec.vars false #[.agg #[.slice none 0 0], .int .i64 0, .string ByteArray.empty, .string ByteArray.empty].toList 8 = some ([.agg [.nil], .lit (.int .i64 0), .lit (.string []), .lit (.string [])], [], places) :=
  ⟨[], by kernel_rfl⟩

set_option maxHeartbeats 1000000 in
set_option maxRecDepth 100000 in
theorem lifted (os : Os) (started : os.Started) (H : Type) (enc : TypeId × Value → H) (F : Stop.Interp) :
    ReturnsInHanded {} Tryz.checked os 8 .any ((Rows.OpenSpec.upto Rows.bindFoldsSpec).preRow enc Tryz.prog Tryz.f8 Rows.bindFoldsUptoRow.domain false Rows.bindFoldsUptoRow.laid) (((Rows.OpenSpec.upto Rows.bindFoldsSpec).at F).post enc Tryz.prog Tryz.f8 false true false false) := by
  obtain ⟨places, hx⟩ := reads os enc
  refine returnsInHanded_of_row (C := Tryz.checked) (s := Rows.OpenSpec.upto Rows.bindFoldsSpec) own started (by kernel_rfl) Tryz.func8
    (witness_row_atRef (enc := enc) (C := Tryz.checked) false (World.laidAll Tryz.prog os theLaid) #[.agg #[.slice none 0 0], .int .i64 0, .string ByteArray.empty, .string ByteArray.empty] (World.laidAll_os _ _ _) (by kernel_rfl) (by kernel_rfl) (by kernel_rfl)
      (OpenSpec.preRow_of_cond 8 hx (by kernel_rfl) (fun k hk => by cases hk; kernel_rfl) (by kernel_rfl) (by rw [laid_eq]; exact door_met os _))) ?_
  intro W base args ds gs before hval0 hW _ hcond _ hL _ _
  have hk0 := hcond _ rfl
  have hval : ∀ (j : Nat) t v, Tryz.f8.params[j]? = some t → args[j]? = some v → Value.okWide Tryz.prog W .any base t v := hval0
  have hW' := hW
  obtain ⟨p, q, hA0, hV, rfl, hfz, hnd⟩ := hW
  have hA : DataW.TrodAll enc Tryz.prog W 0 (fun _ => true) true Tryz.f8.params.toList args.toList ds p := hA0
  rw [Tryz.params8] at hA hval
  obtain ⟨v0, vs0, d0, ds0, p0, q0, hargs, rfl, rfl, h0, r0⟩ := trodAll_cons hA
  obtain ⟨v1, vs1, d1, ds1, p1, q1, rfl, rfl, rfl, h1, r1⟩ := trodAll_cons r0
  obtain ⟨v2, vs2, d2, ds2, p2, q2, rfl, rfl, rfl, h2, r2⟩ := trodAll_cons r1
  obtain ⟨v3, vs3, d3, ds3, p3, q3, rfl, rfl, rfl, h3, r3⟩ := trodAll_cons r2
  obtain ⟨rfl, rfl, rfl⟩ := trodAll_nil r3
  obtain rfl : args = #[v0, v1, v2, v3] := by cases args; simp_all
  obtain ⟨rfl, rfl⟩ := trodVars_none hV
  have hbulk : Rows.uptoBulkAll (_ : List (DataW H)) ≤ 1048576 := of_decide_eq_true hk0
  simp only [List.append_nil, List.cons_append, List.nil_append, Rows.uptoBulkAll] at hbulk
  have k0 := h0
  have lt0 : ∀ x ∈ p0, x.block < W.heap.size := by obtain ⟨m, hm⟩ := k0; exact DataW.trod_lt m _ _ _ hm
  obtain ⟨A0, c0, fs0, rfl, s0, b0⟩ := open_schemaN (hval 0 36 v0 rfl rfl) h0
  have k1 := h1
  have lt1 : ∀ x ∈ p1, x.block < W.heap.size := by obtain ⟨m, hm⟩ := k1; exact DataW.trod_lt m _ _ _ hm
  obtain ⟨n1, rfl, rfl, rfl, w1⟩ := open_int Tryz.underlying3 (hval 1 3 v1 rfl rfl) h1
  have k2 := h2
  have lt2 : ∀ x ∈ p2, x.block < W.heap.size := by obtain ⟨m, hm⟩ := k2; exact DataW.trod_lt m _ _ _ hm
  obtain ⟨a2, rfl, rfl, rfl, w2⟩ := open_string Tryz.underlying9 (hval 2 9 v2 rfl rfl) h2
  have z2 : a2.size ≤ 1048576 := by
    have e : a2.data.toList.length = a2.size := by rw [Array.length_toList]; rfl
    simp only [Rows.uptoBulk] at hbulk
    omega
  have k3 := h3
  have lt3 : ∀ x ∈ p3, x.block < W.heap.size := by obtain ⟨m, hm⟩ := k3; exact DataW.trod_lt m _ _ _ hm
  obtain ⟨a3, rfl, rfl, rfl, w3⟩ := open_string Tryz.underlying9 (hval 3 9 v3 rfl rfl) h3
  have z3 : a3.size ≤ 1048576 := by
    have e : a3.data.toList.length = a3.size := by rw [Array.length_toList]; rfl
    simp only [Rows.uptoBulk] at hbulk
    omega
  rw [laid_eq] at hL
  have hmet := met hL
  have htab := tab_laid hmet
  obtain ⟨a, hnode⟩ := node_laid hmet
  obtain ⟨ae, hschema⟩ := schema_laid2 hmet
  clear hA0 hval0
  refine (BindFoldsWalk.walk fs0 A0 c0 n1 a2 a3 ae a W ⟨Nat.le_refl _, s0.1, htab, tab_size htab, asks_laid hmet, by have := tab_size htab; omega, hschema, by have := tab_size htab; omega, hnode, by have := tab_size htab; omega⟩ (by have := b0.1; omega) (fun f hf => (s0.2 f hf).2) (by omega) (by omega) (fun f hf => by have g := b0.2 f hf; have e2 : a2.data.toList.length = a2.size := (by rw [Array.length_toList]; rfl); have e3 : a3.data.toList.length = a3.size := (by rw [Array.length_toList]; rfl); simp only [Rows.uptoBulk] at hbulk; omega) w1).mono fun e W' ⟨he, bel⟩ => ?_
  subst he
  exact ⟨_, rfl, _, _, _, [], _, [], hW', trodAll_mk1 (shut_bool Tryz.underlying4 _), (trodAll_cons_mk (Below.trod laidOut (by kernel_rfl) (of_decide_eq_true (by kernel_rfl)) k0 bel lt0) (trodAll_cons_mk (Below.trod laidOut (by kernel_rfl) (of_decide_eq_true (by kernel_rfl)) k1 bel lt1) (trodAll_cons_mk (Below.trod laidOut (by kernel_rfl) (of_decide_eq_true (by kernel_rfl)) k2 bel lt2) (trodAll_cons_mk (Below.trod laidOut (by kernel_rfl) (of_decide_eq_true (by kernel_rfl)) k3 bel lt3) trodAll_mk0)))), rfl, bel.frame _, fun h => by cases h⟩

theorem over : Rows.BindFoldsUptoSaid :=
  OpenClaim.holds_of_cond 8 Tryz.f8 rfl rfl rfl rfl rfl rfl rfl ⟨rfl, rfl, rfl, rfl, rfl⟩ rfl rfl rfl rfl rfl (by kernel_rfl) Tryz.func8 (by kernel_rfl)
    (of_decide_eq_true (by kernel_rfl)) (by unfold Func.isWrapper; rw [if_neg (of_decide_eq_false (by kernel_rfl))]; exact ⟨rfl, rfl⟩)
    (fun os started H enc _ F => by rw [OpenClaim.pre_eq_preRow]; exact lifted os started H enc F)

theorem plain (f : FuncId) (fn : Func) (hf : Tryz.pinned.checked.prog.funcNamed "concord/concordlaw16.BindFolds" = some f) (hfn : Tryz.pinned.checked.prog.funcs[f]? = some fn) :
    true = Tryz.pinned.checked.prog.looks [] ∧ ∀ (j : Nat) t, fn.params[j]? = some t → Tryz.pinned.checked.prog.wantsStandIn t = false := by
  obtain rfl : f = 8 := Option.some.inj ((show Tryz.prog.funcNamed "concord/concordlaw16.BindFolds" = some 8 by kernel_rfl).symm.trans hf) |>.symm
  obtain rfl : fn = Tryz.f8 := (Option.some.inj (Tryz.func8.symm.trans hfn)).symm
  refine ⟨by kernel_rfl, fun j t ht => ?_⟩
  rw [Tryz.params8] at ht
  have hm := Array.mem_of_getElem? ht
  simp only [List.mem_toArray, List.mem_cons, List.not_mem_nil, or_false] at hm
  rcases hm with rfl | rfl | rfl | rfl
  · exact (show Tryz.prog.wantsStandIn 36 = false by kernel_rfl)
  · exact (show Tryz.prog.wantsStandIn 3 = false by kernel_rfl)
  · exact (show Tryz.prog.wantsStandIn 9 = false by kernel_rfl)
  · exact (show Tryz.prog.wantsStandIn 9 = false by kernel_rfl)

theorem proved : Rows.BindFoldsUptoCardSaid :=
  Claim7.holds_tied_plain_at .later [] _ _ _ _ over (fun _ h => by cases h) (by kernel_rfl) (fun _ h => by cases h) bindFoldsUpto_row_tie rfl ⟨rfl, rfl⟩ (by kernel_rfl) rfl plain (by kernel_rfl)
end Go.Proofs.YtkcfgcdlnojaeaaGreatDoor.BindFoldsDone
