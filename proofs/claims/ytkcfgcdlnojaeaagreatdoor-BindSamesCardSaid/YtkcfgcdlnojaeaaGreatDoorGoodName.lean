/-
  The walks of schema.goodName and schema.goodKind.
-/
import Derived.Test.YtkcfgcdlnojaeaaGreatDoorDPlains
import Derived.Test.YtkcfgcdlnojaeaaGreatDoorBase
import Derived.Test.YtkcfgcdlnojaeaaGreatDoorChecked
namespace Go.Proofs.YtkcfgcdlnojaeaaGreatDoor.GoodName
set_option maxRecDepth 100000
open Go.RowKit Go.PlainAid FoldPlain Base

/-- May this byte of a name stand there? -/
def okAt (s : ByteArray) (i : Nat) : Bool := (decide (97 ≤ bt s i) && decide (bt s i ≤ 122)) || (decide (i ≠ 0) && (bt s i == 95 || (decide (48 ≤ bt s i) && decide (bt s i ≤ 57))))
def okFrom (s : ByteArray) : Nat → Nat → Bool
  | _, 0 => true
  | i, n + 1 => okAt s i && okFrom s (i + 1) n
def nameB (s : ByteArray) : Bool := decide (1 ≤ s.size) && decide (s.size ≤ 32) && okFrom s 0 s.size
def kindB (kd : Int) (a b c : Bool) : Bool := kd == 1 || ((kd == 2 || kd == 3) && !a && !b && !c)

theorem okAt_iff (s : ByteArray) (i : Nat) : okAt s i = true ↔ (97 ≤ bt s i ∧ bt s i ≤ 122) ∨ (i ≠ 0 ∧ (bt s i = 95 ∨ (48 ≤ bt s i ∧ bt s i ≤ 57))) := by
  simp [okAt]
theorem okFrom_step {s : ByteArray} {k : Nat} {r : Bool} (hk : k < s.size) (h : r = okFrom s k (s.size - k)) : r = (okAt s k && okFrom s (k + 1) (s.size - (k + 1))) := by
  rw [h, show s.size - k = (s.size - (k + 1)) + 1 by omega]
  rfl
theorem okFrom_end {s : ByteArray} {r : Bool} (h : r = okFrom s s.size (s.size - s.size)) : r = true := by
  rw [h, Nat.sub_self]; rfl

set_option maxHeartbeats 2000000 in
theorem goodName_any (s : ByteArray) (w : World) (hs : s.size ≤ 9223372036854775807) :
    Calls Tryz.prog 52 #[.string s] w fun e w' => e = .returned (.bool (nameB s)) ∧ w' = w := by
  rcases (by omega : s.size = 0 ∨ 32 < s.size ∨ (1 ≤ s.size ∧ s.size ≤ 32)) with h | h | ⟨h1, h2⟩
  · have hr : nameB s = false := by simp [nameB, h]
    rw [hr]
    go_enter Tryz.func52, Tryz.ntmps52
    have hd : decide ((s.size : Int) < 1) = true := decide_eq_true (by omega)
    clear hr h
    go_wp2_with fail
    go_ret
    exact ⟨rfl, rfl⟩
  · have hr : nameB s = false := by
      unfold nameB; rw [show decide (s.size ≤ 32) = false from decide_eq_false (by omega)]; simp
    rw [hr]
    have hd : decide ((s.size : Int) < 1) = false := decide_eq_false (by omega)
    have hd2 : decide ((32 : Int) < (s.size : Int)) = true := decide_eq_true (by omega)
    go_enter Tryz.func52, Tryz.ntmps52
    clear hr h
    go_wp2_with fail
    go_ret
    exact ⟨rfl, rfl⟩
  · obtain ⟨r, hr⟩ : ∃ r, r = nameB s := ⟨_, rfl⟩
    have hr2 : r = okFrom s 0 s.size := by rw [hr]; unfold nameB; rw [decide_eq_true h1, decide_eq_true h2]; rfl
    rw [← hr]
    have HR := Lib.hid hr2
    clear hr hr2
    have hd : decide ((s.size : Int) < 1) = false := decide_eq_false (by omega)
    have hd2 : decide ((32 : Int) < (s.size : Int)) = false := decide_eq_false (by omega)
    go_enter Tryz.func52, Tryz.ntmps52
    go_wp2_with fail
    go_loop [16] (fun i => ∃ k : Nat, k ≤ s.size ∧ i = .int .i64 k ∧ Hid (r = okFrom s k (s.size - k))) (fun i => s.size - (intOf i).toNat)
    case atStart => exact ⟨0, Nat.zero_le _, rfl, Lib.hid (by simpa using HR.out)⟩
    case round =>
      obtain ⟨k, hk, rfl, hst⟩ := hrel
      by_cases hlt : k < s.size
      · have HS := Lib.hid (okFrom_step hlt hst.out)
        have HO := Lib.hid (okAt_iff s k)
        have hb := get_bt s
        have r0 := bt_nonneg s k
        have r1 := bt_le s k
        clear hst
        go_wp2_with fail
        all_goals first
          | (go_ret
             have hno : okAt s k = false := by
               rw [← Bool.not_eq_true, HO.out]; omega
             have := HS.out
             rw [hno] at this
             rw [this]
             exact ⟨rfl, rfl⟩)
          | (go_round
             case rel =>
               have hyes : okAt s k = true := by rw [HO.out]; omega
               refine ⟨k + 1, by omega, by go_num, Lib.hid ?_⟩
               have := HS.out
               rw [hyes] at this
               exact this
             case measure => simp [intOf]; omega)
          | skip
      · obtain rfl : k = s.size := by omega
        have HE := Lib.hid (okFrom_end hst.out)
        clear hst HR
        go_wp2_with fail
        go_ret
        exact ⟨by rw [HE.out]; rfl, rfl⟩

set_option maxHeartbeats 2000000 in
theorem goodKind_any (nm : ByteArray) (kd : Int) (a b c : Bool) (w : World) :
    Calls Tryz.prog 53 #[.agg #[.string nm, .int .i64 kd, .bool a, .bool b, .bool c]] w fun e w' => e = .returned (.bool (kindB kd a b c)) ∧ Below w.heap.size w w' := by
  have HK := Lib.hid (show kindB kd a b c = (kd == 1 || ((kd == 2 || kd == 3) && !a && !b && !c)) from rfl)
  go_enter Tryz.func53, Tryz.ntmps53
  cases a <;> cases b <;> cases c <;> go_wp2_with fail
  all_goals
    go_ret
    refine ⟨?_, (by (repeat (first | exact Below.refl _ _ | assumption | refine balloc ?_ _ | refine bdrew ?_ | refine bdrewN ?_ _ | refine bchain ?_ (by assumption))))⟩
    rw [HK.out]
    simp_all
end Go.Proofs.YtkcfgcdlnojaeaaGreatDoor.GoodName
