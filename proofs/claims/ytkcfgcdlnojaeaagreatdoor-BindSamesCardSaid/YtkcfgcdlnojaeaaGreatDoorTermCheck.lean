/-
  The walks of bind's numbers, lists, good and Check over a term's query.
-/
import Derived.Test.YtkcfgcdlnojaeaaGreatDoorBindBase
import Derived.Deep.Cut
namespace Go.Proofs.YtkcfgcdlnojaeaaGreatDoor.TermCheck
set_option maxRecDepth 100000
open Go.RowKit Go.PlainAid Base Query OpenField BindBase

def row4 : Array Value := #[.bool true, .bool true, .bool true, .int .i64 0, .bool false, .bool false, .bool false, .int .i64 0, .bool true, .string ⟨#[116, 101, 114, 109]⟩]
def inF (f n : Int) : Bool := decide (0 ≤ f) && decide (f < n)
theorem inF_yes {f n : Int} (h1 : 0 ≤ f) (h2 : f < n) : inF f n = true := by unfold inF; rw [decide_eq_true h1, decide_eq_true h2]; rfl
theorem inF_no {f n : Int} (h : ¬ (0 ≤ f ∧ f < n)) : inF f n = false := by
  unfold inF
  rcases (by omega : ¬ 0 ≤ f ∨ ¬ f < n) with h | h
  · rw [decide_eq_false h]; rfl
  · rw [decide_eq_false h, Bool.and_false]

set_option maxHeartbeats 2000000 in
theorem numbers_term (f n : Int) (t : ByteArray) (w : World) : Calls Tryz.prog 97 #[.agg row4, .agg (bareQ 4 f t), .int .i64 n] w fun e w' => e = .returned (.bool (inF f n)) ∧ Below w.heap.size w w' := by
  unfold row4 bareQ
  rcases (by omega : f < 0 ∨ (0 ≤ f ∧ n ≤ f) ∨ (0 ≤ f ∧ f < n)) with h | ⟨h1, h2⟩ | ⟨h1, h2⟩
  · rw [inF_no (by omega)]
    have d1 : decide (f < 0) = true := decide_eq_true h
    clear h
    go_enter Tryz.func97, Tryz.ntmps97
    go_wp2_with fail
    go_ret
    exact ⟨rfl, (by (repeat (first | exact Below.refl _ _ | assumption | refine balloc ?_ _ | refine bdrew ?_ | refine bdrewN ?_ _ | refine bchain ?_ (by assumption))))⟩
  · rw [inF_no (by omega)]
    have d1 : decide (f < 0) = false := decide_eq_false (by omega)
    have d2 : decide (n ≤ f) = true := decide_eq_true h2
    clear h1 h2
    go_enter Tryz.func97, Tryz.ntmps97
    go_wp2_with fail
    go_ret
    exact ⟨rfl, (by (repeat (first | exact Below.refl _ _ | assumption | refine balloc ?_ _ | refine bdrew ?_ | refine bdrewN ?_ _ | refine bchain ?_ (by assumption))))⟩
  · rw [inF_yes h1 h2]
    have d1 : decide (f < 0) = false := decide_eq_false (by omega)
    have d2 : decide (n ≤ f) = false := decide_eq_false (by omega)
    clear h1 h2
    go_enter Tryz.func97, Tryz.ntmps97
    go_wp2_with fail
    go_ret
    exact ⟨rfl, (by (repeat (first | exact Below.refl _ _ | assumption | refine balloc ?_ _ | refine bdrew ?_ | refine bdrewN ?_ _ | refine bchain ?_ (by assumption))))⟩

set_option maxHeartbeats 2000000 in
theorem lists_term (f : Int) (t : ByteArray) (w : World) : Calls Tryz.prog 98 #[.agg row4, .agg (bareQ 4 f t)] w fun e w' => e = .returned (.bool true) ∧ Below w.heap.size w w' := by
  unfold row4 bareQ
  go_enter Tryz.func98, Tryz.ntmps98
  go_wp2_with fail
  refine wp_loop_rounds 1 ?_
  rw [rounds_succ]
  go_wp2_with fail
  refine wp_loop_rounds 1 ?_
  rw [rounds_succ]
  go_wp2_with fail
  go_ret
  exact ⟨rfl, (by (repeat (first | exact Below.refl _ _ | assumption | refine balloc ?_ _ | refine bdrew ?_ | refine bdrewN ?_ _ | refine bchain ?_ (by assumption))))⟩

set_option maxHeartbeats 4000000 in
theorem good_term (f n : Int) (t : ByteArray) (p : Bool) (w : World) : Calls Tryz.prog 55 #[.agg kindsA, .agg (bareQ 4 f t), .int .i64 n, .bool p] w fun e w' => e = .returned (.bool (inF f n)) ∧ Below w.heap.size w w' := by
  have k0 : kindsA[40]? = some (.bool true) := by kernel_rfl
  have k1 : kindsA[41]? = some (.bool true) := by kernel_rfl
  have k2 : kindsA[42]? = some (.bool true) := by kernel_rfl
  have k3 : kindsA[43]? = some (.int .i64 0) := by kernel_rfl
  have k4 : kindsA[44]? = some (.bool false) := by kernel_rfl
  have k5 : kindsA[45]? = some (.bool false) := by kernel_rfl
  have k6 : kindsA[46]? = some (.bool false) := by kernel_rfl
  have k7 : kindsA[47]? = some (.int .i64 0) := by kernel_rfl
  have k8 : kindsA[48]? = some (.bool true) := by kernel_rfl
  have k9 : kindsA[49]? = some (.string ⟨#[116, 101, 114, 109]⟩) := by kernel_rfl
  generalize kindsA = K at *
  unfold bareQ
  have NT := Lib.hid (fun W => numbers_term f n t W)
  have LT := Lib.hid (fun W => lists_term f t W)
  unfold bareQ row4 at NT LT
  obtain ⟨W3, hW3⟩ : ∃ W, W = ((w.alloc (.cells K 86)).alloc (.cells (bareQ 4 f t) 29)).alloc (.cells row4 85) := ⟨_, rfl⟩
  have K1 : Blk W3 (w.heap.size + 1) 29 (bareQ 4 f t) := by
    rw [hW3]
    have := (Blk.new (w.alloc (.cells K 86)) 29 (bareQ 4 f t)).alloc (.cells row4 85)
    rwa [World.size_alloc] at this
  have K2 : Blk W3 (w.heap.size + 1 + 1) 85 row4 := by
    rw [hW3]
    have := Blk.new ((w.alloc (.cells K 86)).alloc (.cells (bareQ 4 f t) 29)) 85 row4
    rwa [World.size_alloc, World.size_alloc] at this
  have hsz : w.heap.size + 3 = W3.heap.size := by rw [hW3]; simp
  have hbW : Below w.heap.size w W3 := by rw [hW3]; (repeat (first | exact Below.refl _ _ | assumption | refine balloc ?_ _ | refine bdrew ?_ | refine bdrewN ?_ _ | refine bchain ?_ (by assumption)))
  have HW := Lib.hid hW3
  clear hW3
  by_cases hb : inF f n = true
  · rw [hb] at NT ⊢
    clear hb
    cases p
    all_goals
      go_enter Tryz.func55, Tryz.ntmps55
      go_wp2_with (first | (go_at_call 97; refine (NT.out _).mono ?_; rintro e w2 ⟨rfl, hb2⟩; have q2 : Below W3.heap.size W3 w2 := (by rw [HW.out]; exact hb2); have aq0 : w2.cell? ⟨w.heap.size + 1, 0, none⟩ = some (.int .i64 4) := (K1.below q2 (by omega)).cell 0; have aq1 : w2.cell? ⟨w.heap.size + 1, 1, none⟩ = some (.int .i64 f) := (K1.below q2 (by omega)).cell 1; have aq2 : w2.cell? ⟨w.heap.size + 1, 2, none⟩ = some (.string t) := (K1.below q2 (by omega)).cell 2; have aq3 : w2.cell? ⟨w.heap.size + 1, 3, none⟩ = some (.slice none 0 0) := (K1.below q2 (by omega)).cell 3; have aq4 : w2.cell? ⟨w.heap.size + 1, 4, none⟩ = some (.slice none 0 0) := (K1.below q2 (by omega)).cell 4; have aq5 : w2.cell? ⟨w.heap.size + 1, 5, none⟩ = some (.int .i64 0) := (K1.below q2 (by omega)).cell 5; have aq6 : w2.cell? ⟨w.heap.size + 1, 6, none⟩ = some (.int .u64 0) := (K1.below q2 (by omega)).cell 6; have aq7 : w2.cell? ⟨w.heap.size + 1, 7, none⟩ = some (.bool false) := (K1.below q2 (by omega)).cell 7; have aq8 : w2.cell? ⟨w.heap.size + 1, 8, none⟩ = some (.bool false) := (K1.below q2 (by omega)).cell 8; have aq9 : w2.cell? ⟨w.heap.size + 1, 9, none⟩ = some (.string ⟨#[]⟩) := (K1.below q2 (by omega)).cell 9; have aq10 : w2.cell? ⟨w.heap.size + 1, 10, none⟩ = some (.bool false) := (K1.below q2 (by omega)).cell 10; have aq11 : w2.cell? ⟨w.heap.size + 1, 11, none⟩ = some (.bool false) := (K1.below q2 (by omega)).cell 11; have aq12 : w2.cell? ⟨w.heap.size + 1, 12, none⟩ = some (.string ⟨#[]⟩) := (K1.below q2 (by omega)).cell 12; have aq13 : w2.cell? ⟨w.heap.size + 1, 13, none⟩ = some (.slice none 0 0) := (K1.below q2 (by omega)).cell 13; have aq14 : w2.cell? ⟨w.heap.size + 1, 14, none⟩ = some (.slice none 0 0) := (K1.below q2 (by omega)).cell 14; have ar0 : w2.cell? ⟨w.heap.size + 1 + 1, 0, none⟩ = some (.bool true) := (K2.below q2 (by omega)).cell 0; have ar1 : w2.cell? ⟨w.heap.size + 1 + 1, 1, none⟩ = some (.bool true) := (K2.below q2 (by omega)).cell 1; have ar2 : w2.cell? ⟨w.heap.size + 1 + 1, 2, none⟩ = some (.bool true) := (K2.below q2 (by omega)).cell 2; have ar3 : w2.cell? ⟨w.heap.size + 1 + 1, 3, none⟩ = some (.int .i64 0) := (K2.below q2 (by omega)).cell 3; have ar4 : w2.cell? ⟨w.heap.size + 1 + 1, 4, none⟩ = some (.bool false) := (K2.below q2 (by omega)).cell 4; have ar5 : w2.cell? ⟨w.heap.size + 1 + 1, 5, none⟩ = some (.bool false) := (K2.below q2 (by omega)).cell 5; have ar6 : w2.cell? ⟨w.heap.size + 1 + 1, 6, none⟩ = some (.bool false) := (K2.below q2 (by omega)).cell 6; have ar7 : w2.cell? ⟨w.heap.size + 1 + 1, 7, none⟩ = some (.int .i64 0) := (K2.below q2 (by omega)).cell 7; have ar8 : w2.cell? ⟨w.heap.size + 1 + 1, 8, none⟩ = some (.bool true) := (K2.below q2 (by omega)).cell 8; have ar9 : w2.cell? ⟨w.heap.size + 1 + 1, 9, none⟩ = some (.string ⟨#[116, 101, 114, 109]⟩) := (K2.below q2 (by omega)).cell 9) | (go_at_call 98; refine (LT.out _).mono ?_; rintro e w3 ⟨rfl, hb3⟩; have q3 : Below W3.heap.size W3 w3 := bchain q2 hb3; have bq0 : w3.cell? ⟨w.heap.size + 1, 0, none⟩ = some (.int .i64 4) := (K1.below q3 (by omega)).cell 0; have bq1 : w3.cell? ⟨w.heap.size + 1, 1, none⟩ = some (.int .i64 f) := (K1.below q3 (by omega)).cell 1; have bq2 : w3.cell? ⟨w.heap.size + 1, 2, none⟩ = some (.string t) := (K1.below q3 (by omega)).cell 2; have bq3 : w3.cell? ⟨w.heap.size + 1, 3, none⟩ = some (.slice none 0 0) := (K1.below q3 (by omega)).cell 3; have bq4 : w3.cell? ⟨w.heap.size + 1, 4, none⟩ = some (.slice none 0 0) := (K1.below q3 (by omega)).cell 4; have bq5 : w3.cell? ⟨w.heap.size + 1, 5, none⟩ = some (.int .i64 0) := (K1.below q3 (by omega)).cell 5; have bq6 : w3.cell? ⟨w.heap.size + 1, 6, none⟩ = some (.int .u64 0) := (K1.below q3 (by omega)).cell 6; have bq7 : w3.cell? ⟨w.heap.size + 1, 7, none⟩ = some (.bool false) := (K1.below q3 (by omega)).cell 7; have bq8 : w3.cell? ⟨w.heap.size + 1, 8, none⟩ = some (.bool false) := (K1.below q3 (by omega)).cell 8; have bq9 : w3.cell? ⟨w.heap.size + 1, 9, none⟩ = some (.string ⟨#[]⟩) := (K1.below q3 (by omega)).cell 9; have bq10 : w3.cell? ⟨w.heap.size + 1, 10, none⟩ = some (.bool false) := (K1.below q3 (by omega)).cell 10; have bq11 : w3.cell? ⟨w.heap.size + 1, 11, none⟩ = some (.bool false) := (K1.below q3 (by omega)).cell 11; have bq12 : w3.cell? ⟨w.heap.size + 1, 12, none⟩ = some (.string ⟨#[]⟩) := (K1.below q3 (by omega)).cell 12; have bq13 : w3.cell? ⟨w.heap.size + 1, 13, none⟩ = some (.slice none 0 0) := (K1.below q3 (by omega)).cell 13; have bq14 : w3.cell? ⟨w.heap.size + 1, 14, none⟩ = some (.slice none 0 0) := (K1.below q3 (by omega)).cell 14))
      refine wp_loop_rounds 1 ?_
      rw [rounds_succ]
      go_wp2_with fail
      go_ret
      exact ⟨rfl, (by (repeat (first | exact Below.refl _ _ | assumption | refine balloc ?_ _ | refine bdrew ?_ | refine bdrewN ?_ _ | refine bchain ?_ (by assumption))))⟩
  · have hb : inF f n = false := by simpa using hb
    rw [hb] at NT ⊢
    clear hb
    cases p
    all_goals
      go_enter Tryz.func55, Tryz.ntmps55
      go_wp2_with (first | (go_at_call 97; refine (NT.out _).mono ?_; rintro e w2 ⟨rfl, hb2⟩; have q2 : Below W3.heap.size W3 w2 := (by rw [HW.out]; exact hb2); have aq0 : w2.cell? ⟨w.heap.size + 1, 0, none⟩ = some (.int .i64 4) := (K1.below q2 (by omega)).cell 0; have aq1 : w2.cell? ⟨w.heap.size + 1, 1, none⟩ = some (.int .i64 f) := (K1.below q2 (by omega)).cell 1; have aq2 : w2.cell? ⟨w.heap.size + 1, 2, none⟩ = some (.string t) := (K1.below q2 (by omega)).cell 2; have aq3 : w2.cell? ⟨w.heap.size + 1, 3, none⟩ = some (.slice none 0 0) := (K1.below q2 (by omega)).cell 3; have aq4 : w2.cell? ⟨w.heap.size + 1, 4, none⟩ = some (.slice none 0 0) := (K1.below q2 (by omega)).cell 4; have aq5 : w2.cell? ⟨w.heap.size + 1, 5, none⟩ = some (.int .i64 0) := (K1.below q2 (by omega)).cell 5; have aq6 : w2.cell? ⟨w.heap.size + 1, 6, none⟩ = some (.int .u64 0) := (K1.below q2 (by omega)).cell 6; have aq7 : w2.cell? ⟨w.heap.size + 1, 7, none⟩ = some (.bool false) := (K1.below q2 (by omega)).cell 7; have aq8 : w2.cell? ⟨w.heap.size + 1, 8, none⟩ = some (.bool false) := (K1.below q2 (by omega)).cell 8; have aq9 : w2.cell? ⟨w.heap.size + 1, 9, none⟩ = some (.string ⟨#[]⟩) := (K1.below q2 (by omega)).cell 9; have aq10 : w2.cell? ⟨w.heap.size + 1, 10, none⟩ = some (.bool false) := (K1.below q2 (by omega)).cell 10; have aq11 : w2.cell? ⟨w.heap.size + 1, 11, none⟩ = some (.bool false) := (K1.below q2 (by omega)).cell 11; have aq12 : w2.cell? ⟨w.heap.size + 1, 12, none⟩ = some (.string ⟨#[]⟩) := (K1.below q2 (by omega)).cell 12; have aq13 : w2.cell? ⟨w.heap.size + 1, 13, none⟩ = some (.slice none 0 0) := (K1.below q2 (by omega)).cell 13; have aq14 : w2.cell? ⟨w.heap.size + 1, 14, none⟩ = some (.slice none 0 0) := (K1.below q2 (by omega)).cell 14; have ar0 : w2.cell? ⟨w.heap.size + 1 + 1, 0, none⟩ = some (.bool true) := (K2.below q2 (by omega)).cell 0; have ar1 : w2.cell? ⟨w.heap.size + 1 + 1, 1, none⟩ = some (.bool true) := (K2.below q2 (by omega)).cell 1; have ar2 : w2.cell? ⟨w.heap.size + 1 + 1, 2, none⟩ = some (.bool true) := (K2.below q2 (by omega)).cell 2; have ar3 : w2.cell? ⟨w.heap.size + 1 + 1, 3, none⟩ = some (.int .i64 0) := (K2.below q2 (by omega)).cell 3; have ar4 : w2.cell? ⟨w.heap.size + 1 + 1, 4, none⟩ = some (.bool false) := (K2.below q2 (by omega)).cell 4; have ar5 : w2.cell? ⟨w.heap.size + 1 + 1, 5, none⟩ = some (.bool false) := (K2.below q2 (by omega)).cell 5; have ar6 : w2.cell? ⟨w.heap.size + 1 + 1, 6, none⟩ = some (.bool false) := (K2.below q2 (by omega)).cell 6; have ar7 : w2.cell? ⟨w.heap.size + 1 + 1, 7, none⟩ = some (.int .i64 0) := (K2.below q2 (by omega)).cell 7; have ar8 : w2.cell? ⟨w.heap.size + 1 + 1, 8, none⟩ = some (.bool true) := (K2.below q2 (by omega)).cell 8; have ar9 : w2.cell? ⟨w.heap.size + 1 + 1, 9, none⟩ = some (.string ⟨#[116, 101, 114, 109]⟩) := (K2.below q2 (by omega)).cell 9) | (go_at_call 98; refine (LT.out _).mono ?_; rintro e w3 ⟨rfl, hb3⟩; have q3 : Below W3.heap.size W3 w3 := bchain q2 hb3; have bq0 : w3.cell? ⟨w.heap.size + 1, 0, none⟩ = some (.int .i64 4) := (K1.below q3 (by omega)).cell 0; have bq1 : w3.cell? ⟨w.heap.size + 1, 1, none⟩ = some (.int .i64 f) := (K1.below q3 (by omega)).cell 1; have bq2 : w3.cell? ⟨w.heap.size + 1, 2, none⟩ = some (.string t) := (K1.below q3 (by omega)).cell 2; have bq3 : w3.cell? ⟨w.heap.size + 1, 3, none⟩ = some (.slice none 0 0) := (K1.below q3 (by omega)).cell 3; have bq4 : w3.cell? ⟨w.heap.size + 1, 4, none⟩ = some (.slice none 0 0) := (K1.below q3 (by omega)).cell 4; have bq5 : w3.cell? ⟨w.heap.size + 1, 5, none⟩ = some (.int .i64 0) := (K1.below q3 (by omega)).cell 5; have bq6 : w3.cell? ⟨w.heap.size + 1, 6, none⟩ = some (.int .u64 0) := (K1.below q3 (by omega)).cell 6; have bq7 : w3.cell? ⟨w.heap.size + 1, 7, none⟩ = some (.bool false) := (K1.below q3 (by omega)).cell 7; have bq8 : w3.cell? ⟨w.heap.size + 1, 8, none⟩ = some (.bool false) := (K1.below q3 (by omega)).cell 8; have bq9 : w3.cell? ⟨w.heap.size + 1, 9, none⟩ = some (.string ⟨#[]⟩) := (K1.below q3 (by omega)).cell 9; have bq10 : w3.cell? ⟨w.heap.size + 1, 10, none⟩ = some (.bool false) := (K1.below q3 (by omega)).cell 10; have bq11 : w3.cell? ⟨w.heap.size + 1, 11, none⟩ = some (.bool false) := (K1.below q3 (by omega)).cell 11; have bq12 : w3.cell? ⟨w.heap.size + 1, 12, none⟩ = some (.string ⟨#[]⟩) := (K1.below q3 (by omega)).cell 12; have bq13 : w3.cell? ⟨w.heap.size + 1, 13, none⟩ = some (.slice none 0 0) := (K1.below q3 (by omega)).cell 13; have bq14 : w3.cell? ⟨w.heap.size + 1, 14, none⟩ = some (.slice none 0 0) := (K1.below q3 (by omega)).cell 14))
      go_ret
      exact ⟨rfl, (by (repeat (first | exact Below.refl _ _ | assumption | refine balloc ?_ _ | refine bdrew ?_ | refine bdrewN ?_ _ | refine bchain ?_ (by assumption))))⟩

/-- Nil, or the error. -/
def errUnless (b : Bool) (ev : Value) : Value := if b then .nilIface else ev
set_option maxHeartbeats 4000000 in
theorem check_term (f n : Int) (t : ByteArray) (p : Bool) (ev : Value) (w : World) (he : w.cell? ⟨1, 0, none⟩ = some ev) (h0 : 1 < w.heap.size) :
    Calls Tryz.prog 19 #[.agg (bareQ 4 f t), .int .i64 n, .bool p] w fun e w' => e = .returned (errUnless (inF f n) ev) ∧ Below w.heap.size w w' := by
  obtain ⟨W1, hW1⟩ : ∃ W, W = w.alloc (.cells (bareQ 4 f t) 29) := ⟨_, rfl⟩
  have K1 : Blk W1 w.heap.size 29 (bareQ 4 f t) := by rw [hW1]; exact Blk.new w _ _
  have hsz : w.heap.size + 1 = W1.heap.size := by rw [hW1]; simp
  have hbW : Below w.heap.size w W1 := by rw [hW1]; (repeat (first | exact Below.refl _ _ | assumption | refine balloc ?_ _ | refine bdrew ?_ | refine bdrewN ?_ _ | refine bchain ?_ (by assumption)))
  have z0 := Bw.cell (B := W1.heap.size) (show W1.cell? ⟨w.heap.size, 0, none⟩ = some (.int .i64 4) from K1.cell 0) (by show w.heap.size < _; omega)
  have z1 := Bw.cell (B := W1.heap.size) (show W1.cell? ⟨w.heap.size, 1, none⟩ = some (.int .i64 f) from K1.cell 1) (by show w.heap.size < _; omega)
  have z2 := Bw.cell (B := W1.heap.size) (show W1.cell? ⟨w.heap.size, 2, none⟩ = some (.string t) from K1.cell 2) (by show w.heap.size < _; omega)
  have z3 := Bw.cell (B := W1.heap.size) (show W1.cell? ⟨w.heap.size, 3, none⟩ = some (.slice none 0 0) from K1.cell 3) (by show w.heap.size < _; omega)
  have z4 := Bw.cell (B := W1.heap.size) (show W1.cell? ⟨w.heap.size, 4, none⟩ = some (.slice none 0 0) from K1.cell 4) (by show w.heap.size < _; omega)
  have z5 := Bw.cell (B := W1.heap.size) (show W1.cell? ⟨w.heap.size, 5, none⟩ = some (.int .i64 0) from K1.cell 5) (by show w.heap.size < _; omega)
  have z6 := Bw.cell (B := W1.heap.size) (show W1.cell? ⟨w.heap.size, 6, none⟩ = some (.int .u64 0) from K1.cell 6) (by show w.heap.size < _; omega)
  have z7 := Bw.cell (B := W1.heap.size) (show W1.cell? ⟨w.heap.size, 7, none⟩ = some (.bool false) from K1.cell 7) (by show w.heap.size < _; omega)
  have z8 := Bw.cell (B := W1.heap.size) (show W1.cell? ⟨w.heap.size, 8, none⟩ = some (.bool false) from K1.cell 8) (by show w.heap.size < _; omega)
  have z9 := Bw.cell (B := W1.heap.size) (show W1.cell? ⟨w.heap.size, 9, none⟩ = some (.string ⟨#[]⟩) from K1.cell 9) (by show w.heap.size < _; omega)
  have z10 := Bw.cell (B := W1.heap.size) (show W1.cell? ⟨w.heap.size, 10, none⟩ = some (.bool false) from K1.cell 10) (by show w.heap.size < _; omega)
  have z11 := Bw.cell (B := W1.heap.size) (show W1.cell? ⟨w.heap.size, 11, none⟩ = some (.bool false) from K1.cell 11) (by show w.heap.size < _; omega)
  have z12 := Bw.cell (B := W1.heap.size) (show W1.cell? ⟨w.heap.size, 12, none⟩ = some (.string ⟨#[]⟩) from K1.cell 12) (by show w.heap.size < _; omega)
  have z13 := Bw.cell (B := W1.heap.size) (show W1.cell? ⟨w.heap.size, 13, none⟩ = some (.slice none 0 0) from K1.cell 13) (by show w.heap.size < _; omega)
  have z14 := Bw.cell (B := W1.heap.size) (show W1.cell? ⟨w.heap.size, 14, none⟩ = some (.slice none 0 0) from K1.cell 14) (by show w.heap.size < _; omega)
  obtain ⟨r, hr⟩ : ∃ r, r = inF f n := ⟨_, rfl⟩
  have KA : ∀ b : Bw W1.heap.size W1, Calls Tryz.prog 47 #[] b.at_ fun e w' => e = .returned (.agg kindsA) ∧ ∃ b' : Bw W1.heap.size W1, w' = b'.at_ := fun b => calls_bw (Nat.le_refl _) (kinds_any _)
  have GT : ∀ b : Bw W1.heap.size W1, Calls Tryz.prog 55 #[.agg kindsA, .agg (bareQ 4 f t), .int .i64 n, .bool p] b.at_ fun e w' => e = .returned (.bool r) ∧ ∃ b' : Bw W1.heap.size W1, w' = b'.at_ := fun b => hr ▸ calls_bw (Nat.le_refl _) (good_term f n t p _)
  rw [← hr]
  generalize kindsA = K at KA GT
  unfold bareQ at GT hW1 ⊢
  have HW := Lib.hid hW1
  clear hW1 hr
  cases r
  · go_enter Tryz.func19, Tryz.ntmps19
    go_upto_region 1 with fail
    rw [← HW.out]
    refine wp_region_bw W1.heap.size (by kernel_rfl) (by kernel_rfl) ?_
    repeat (go_big_quiet_step ((first | (go_at_call 47; with_reducible exact KA _) | (go_at_call 55; with_reducible exact GT _))))
    refine wpQuiet_nil ?_
    intro _ hw'
    obtain ⟨⟨wq, hbq⟩, hw''⟩ := hw'
    subst hw''
    have he2 := (hbq.cell (p := ⟨1, 0, none⟩) (by show 1 < _; omega)).trans ((hbW.cell (p := ⟨1, 0, none⟩) h0).trans he)
    go_wp2_with fail
    go_ret
    exact ⟨rfl, bchain hbW hbq⟩
  · go_enter Tryz.func19, Tryz.ntmps19
    go_upto_region 1 with fail
    rw [← HW.out]
    refine wp_region_bw W1.heap.size (by kernel_rfl) (by kernel_rfl) ?_
    repeat (go_big_quiet_step ((first | (go_at_call 47; with_reducible exact KA _) | (go_at_call 55; with_reducible exact GT _))))
    refine wpQuiet_nil ?_
    intro _ hw'
    obtain ⟨⟨wq, hbq⟩, hw''⟩ := hw'
    subst hw''
    have he2 := (hbq.cell (p := ⟨1, 0, none⟩) (by show 1 < _; omega)).trans ((hbW.cell (p := ⟨1, 0, none⟩) h0).trans he)
    go_wp2_with fail
    go_ret
    exact ⟨rfl, bchain hbW hbq⟩
end Go.Proofs.YtkcfgcdlnojaeaaGreatDoor.TermCheck
