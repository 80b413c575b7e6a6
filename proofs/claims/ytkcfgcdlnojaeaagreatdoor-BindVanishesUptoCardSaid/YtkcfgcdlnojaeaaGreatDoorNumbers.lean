/-
  The walk of bind's numbers over whatever row and query.
-/
import Derived.Test.YtkcfgcdlnojaeaaGreatDoorDQry
import Derived.Test.YtkcfgcdlnojaeaaGreatDoorDTextP
import Derived.Deep.Cut
set_option linter.unusedVariables false
set_option linter.unusedSimpArgs false
namespace Go.Proofs.YtkcfgcdlnojaeaaGreatDoor.Numbers
set_option maxRecDepth 100000
open Go.RowKit Go.PlainAid Base Query QrySize BindBase TextPlain

def rowV (x : Has) : Array Value := #[.bool x.a, .bool x.b, .bool x.c, .int .i64 x.m, .bool x.d, .bool x.e, .bool x.f, .int .i64 x.k, .bool x.p, .string ⟨x.n.toArray⟩]

theorem tl_empty (t : ByteArray) : t.toList.isEmpty = (t.size == 0) := by
  have h : t.toList.length = t.size := by rw [ByteArray.toList_eq, Array.length_toList]; rfl
  cases e : t.toList with
  | nil => rw [e] at h; simp at h; rw [← h]; rfl
  | cons a l => rw [e] at h; simp at h; rw [← h]; rfl

theorem tl_nil (t : ByteArray) : (t.toList = []) = (t.size = 0) := by
  have h := tl_empty t
  rw [← List.isEmpty_iff, h]
  simp

set_option maxHeartbeats 4000000 in
theorem numbers_no (x : Has) (hx : x.d = false) (n : Int) (hd : Head) (nk : Nat) (A1 A2 A3 A4 : Option Addr) (c1 c2 c3 c4 : Nat) (w : World) :
    Calls Tryz.prog 97 #[.agg (rowV x), .agg (qcells hd nk A1 A2 A3 A4 c1 c2 c3 c4), .int .i64 n] w fun e w' => e = .returned (.bool (numB x n hd)) ∧ Below w.heap.size w w' := by
  obtain ⟨a, b, c, m, d, e, f, k, p, nm⟩ := x
  obtain ⟨kind, field, text, terms, offs, qn, weight, ⟨lop, lin, lt⟩, ⟨hop, hin, ht⟩, occur⟩ := hd
  simp only at hx
  subst hx
  unfold rowV qcells
  cases a <;> cases b <;> cases c
  all_goals
    go_enter Tryz.func97, Tryz.ntmps97
    go_wp2_with fail
    all_goals (try go_ret)
    all_goals refine ⟨congrArg (fun b => Ending.returned (.bool b)) ?_, (by exact Base.bel)⟩
    all_goals (simp only [numB, noEnd, inR, tl_empty, tl_nil] at *)
    all_goals grind

set_option maxHeartbeats 4000000 in
theorem numbers_span (n : Int) (hd : Head) (nk : Nat) (A1 A2 A3 A4 : Option Addr) (c1 c2 c3 c4 : Nat) (w : World) :
    Calls Tryz.prog 97 #[.agg (rowV (hasOf 9)), .agg (qcells hd nk A1 A2 A3 A4 c1 c2 c3 c4), .int .i64 n] w fun e w' => e = .returned (.bool (numB (hasOf 9) n hd)) ∧ Below w.heap.size w w' := by
  obtain ⟨kind, field, text, terms, offs, qn, weight, ⟨lop, lin, lt⟩, ⟨hop, hin, ht⟩, occur⟩ := hd
  unfold rowV qcells hasOf
  simp only
  go_enter Tryz.func97, Tryz.ntmps97
  go_wp2_with fail
  all_goals (first | (go_ret; refine ⟨congrArg (fun b => Ending.returned (.bool b)) ?_, (by exact Base.bel)⟩; (simp only [numB, okEnd, inR, tl_empty, tl_nil] at *); grind) | skip)
  all_goals (refine wp_loop_rounds 3 ?_; rw [rounds_succ]; go_wp2_with fail)
  all_goals (first | (go_ret; refine ⟨congrArg (fun b => Ending.returned (.bool b)) ?_, (by exact Base.bel)⟩; (simp only [numB, okEnd, inR, tl_empty, tl_nil] at *); grind) | skip)
  all_goals (try rw [rounds_succ])
  all_goals (go_wp2_with fail)
  all_goals (first | (go_ret; refine ⟨congrArg (fun b => Ending.returned (.bool b)) ?_, (by exact Base.bel)⟩; (simp only [numB, okEnd, inR, tl_empty, tl_nil] at *); grind) | skip)
  all_goals (rw [rounds_succ]; go_wp2_with fail)
  all_goals (first | (go_ret; refine ⟨congrArg (fun b => Ending.returned (.bool b)) ?_, (by exact Base.bel)⟩; (simp only [numB, okEnd, inR, tl_empty, tl_nil] at *); grind) | skip)
end Go.Proofs.YtkcfgcdlnojaeaaGreatDoor.Numbers
