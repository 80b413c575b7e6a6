/-
  The walks of bind.none, bind.kinds and the laws' schema.
-/
import Derived.Test.YtkcfgcdlnojaeaaGreatDoorQrySize
import Derived.Test.YtkcfgcdlnojaeaaGreatDoorOpenField
import Derived.Deep.WholeRow
namespace Go.Proofs.YtkcfgcdlnojaeaaGreatDoor.BindBase
set_option maxRecDepth 100000
open Go.RowKit Go.PlainAid Base Query OpenField

theorem results_cell {fn : Func} {t : Tmp} {ty : TypeId} (h : fn.results = #[.cell t ty]) {tmps : Array Value} {P : Program} {w : World} {a : Addr} {v : Value} (ht : tmps.getD t undef = .pointer (some a)) (hv : (loadVar ty a).run P w = .ok v w) :
    (results fn tmps).run P w = .ok v w := by
  have ht' : tmps[t]?.getD undef = .pointer (some a) := by simpa using ht
  simp [results, h, ht', hv, asAddr]

/-- The cells of a query of this kind that has nothing else. -/
def bareQ (k f : Int) (t : ByteArray) : Array Value :=
  #[.int .i64 k, .int .i64 f, .string t, .slice none 0 0, .slice none 0 0, .int .i64 0, .int .u64 0, .bool false, .bool false, .string ⟨#[]⟩, .bool false, .bool false, .string ⟨#[]⟩, .slice none 0 0, .slice none 0 0]

set_option maxHeartbeats 1000000 in
theorem none_any (w : World) : Calls Tryz.prog 51 #[] w fun e w' => e = .returned (.agg (bareQ 1 0 ⟨#[]⟩)) ∧ Below w.heap.size w w' := by
  go_enter Tryz.func51, Tryz.ntmps51
  go_wp2_with fail
  exact bodyPost_ret (v := .agg (bareQ 1 0 ⟨#[]⟩)) (by simp [results, Tryz.results51, go_sem, bareQ]) rfl ⟨rfl, (by (repeat (first | exact Below.refl _ _ | assumption | refine balloc ?_ _ | refine bdrew ?_ | refine bdrewN ?_ _ | refine bchain ?_ (by assumption))))⟩

def hasR (a b c : Bool) (m : Int) (d e f : Bool) (k : Int) (p : Bool) (n : List UInt8) : List Value := [.bool a, .bool b, .bool c, .int .i64 m, .bool d, .bool e, .bool f, .int .i64 k, .bool p, .string ⟨n.toArray⟩]
/-- The rows of kinds. -/
def kindRow : Nat → List Value
  | 1 => hasR false false false 0 false false false 0 true [110, 111, 110, 101]
  | 2 => hasR false false false 0 false false false 0 true [97, 108, 108]
  | 3 => hasR true false false 0 false false false 0 true [104, 97, 115]
  | 4 => hasR true true true 0 false false false 0 true [116, 101, 114, 109]
  | 5 => hasR true false true 999999999 false true false 0 true [112, 104, 114, 97, 115, 101]
  | 6 => hasR true true false 0 false false false 0 false [112, 114, 101, 102, 105, 120]
  | 7 => hasR true true false 0 false false false 0 false [119, 105, 108, 100]
  | 8 => hasR true true false 2 false false false 0 false [102, 117, 122, 122, 121]
  | 9 => hasR true false false 0 true false false 0 false [115, 112, 97, 110]
  | 10 => hasR false false false 999999999 false false true (-1) true [108, 105, 115, 116]
  | 11 => hasR false false false 0 false false false (-1) true [109, 97, 120]
  | 12 => hasR false false false 0 false false false 1 true [110, 111, 116]
  | 13 => hasR false false true 0 false false false 1 true [98, 111, 111, 115, 116]
  | 14 => hasR false false true 0 false false false 1 true [99, 111, 110, 115, 116]
  | _ => hasR false false false 0 false false false 0 false []
def kindsL : List Value := kindRow 0 ++ kindRow 1 ++ kindRow 2 ++ kindRow 3 ++ kindRow 4 ++ kindRow 5 ++ kindRow 6 ++ kindRow 7 ++ kindRow 8 ++ kindRow 9 ++ kindRow 10 ++ kindRow 11 ++ kindRow 12 ++ kindRow 13 ++ kindRow 14
def kindsA : Array Value := kindsL.toArray

theorem store_eq {P : Program} {a : Addr} {X Y : List Value} {W W' : World} {α : Type} {f : Unit → World → Result α} {G : Result α → Prop} (h : X = Y) (h2 : (storeCells a Y 0).run P W = .ok () W') (h3 : G (f () W')) :
    G (((storeCells a X 0).run P W).andThen f) := by
  subst h; rw [h2]; exact h3
theorem kindsInfo : (Tryz.prog.info? 86).map (·.size) = some kindsA.size := by kernel_rfl
theorem kindsUnd : Tryz.prog.underlying 86 = some (.array 15 85) := by kernel_rfl
theorem kindsOne : kindsA.all (·.oneCell') = true := by kernel_rfl

set_option maxHeartbeats 4000000 in
theorem kinds_any (w : World) : Calls Tryz.prog 47 #[] w fun e w' => e = .returned (.agg kindsA) ∧ Below w.heap.size w w' := by
  go_enter Tryz.func47, Tryz.ntmps47
  go_wp2_with fail
  refine store_eq (G := Oper.upon _ _ _ _ _) (Y := kindsA.toList) (by kernel_rfl) (run_storeCells_new w 86 _ kindsA kindsInfo (by kernel_rfl) kindsOne) ?_
  generalize (Value.agg _) = X
  go_wp2_with fail
  trace_state
  exact bodyPost_ret (results_cell rfl rfl (run_loadVar_new w 86 kindsA 15 85 kindsUnd kindsInfo)) rfl ⟨rfl, (by (repeat (first | exact Below.refl _ _ | assumption | refine balloc ?_ _ | refine bdrew ?_ | refine bdrewN ?_ _ | refine bchain ?_ (by assumption))))⟩
end Go.Proofs.YtkcfgcdlnojaeaaGreatDoor.BindBase
