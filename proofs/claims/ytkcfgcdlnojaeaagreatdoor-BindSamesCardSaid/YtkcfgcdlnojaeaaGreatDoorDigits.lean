/-
  The walks of strconv.AppendInt and AppendUint over numbers below ten.
-/
import Derived.Test.YtkcfgcdlnojaeaaGreatDoorBytes
namespace Go.Proofs.YtkcfgcdlnojaeaaGreatDoor.Digits
set_option maxRecDepth 100000
open Go.RowKit Go.PlainAid Base Bytes

/-- A number's decimal digits. -/
def digs (n : Nat) : List UInt8 := if n < 10 then [UInt8.ofNat (48 + n)] else digs (n / 10) ++ [UInt8.ofNat (48 + n % 10)]
theorem digs_small {n : Nat} (h : n < 10) : digs n = [UInt8.ofNat (48 + n)] := by rw [digs, if_pos h]

/-- m is put behind. -/
def Adds (base : Nat) (w : World) (v : Value) (l m : List UInt8) (e : Ending) (w' : World) : Prop := ∃ v', e = .returned v' ∧ AddB base w v l m v' w'

def digitText : ByteArray := ⟨#[48, 49, 50, 51, 52, 53, 54, 55, 56, 57, 97, 98, 99, 100, 101, 102, 103, 104, 105, 106, 107, 108, 109, 110, 111, 112, 113, 114, 115, 116, 117, 118, 119, 120, 121, 122]⟩
theorem cut_digit {n : Nat} (h : n < 10) : digitText.extract n (n + 1) = ⟨(digs n).toArray⟩ := by
  rw [digs_small h]
  rcases (by omega : n = 0 ∨ n = 1 ∨ n = 2 ∨ n = 3 ∨ n = 4 ∨ n = 5 ∨ n = 6 ∨ n = 7 ∨ n = 8 ∨ n = 9) with rfl | rfl | rfl | rfl | rfl | rfl | rfl | rfl | rfl | rfl <;> kernel_rfl

set_option maxHeartbeats 1000000 in
theorem small_any (n : Nat) (w : World) (h : n < 10) : Calls Tryz.prog 163 #[.int .i64 n] w fun e w' => e = .returned (.string ⟨(digs n).toArray⟩) ∧ w' = w := by
  have hd : decide ((n : Int) < 10) = true := decide_eq_true (by omega)
  have HC := Lib.hid (cut_digit h)
  have h1 : (n : Int) < 10 := by omega
  have hs : digitText.size = 36 := by kernel_rfl
  go_enter Tryz.func163, Tryz.ntmps163
  go_wp2_with fail
  go_ret
  exact ⟨by rw [← HC.out]; rfl, rfl⟩

section
variable {base : Nat} {w : World} {v : Value} {l : List UInt8}
set_option maxHeartbeats 1000000 in
theorem uint_any (n : Nat) (h : n < 10) (hown : Byt w base v l) (hb : base ≤ w.heap.size) (hl : l.length ≤ 70368744177664) :
    Calls Tryz.prog 146 #[v, .int .u64 n, .int .i64 10] w (Adds base w v l (digs n)) := by
  have SA := Lib.hid (small_any n w h)
  have hd : decide ((n : Int) < 100) = true := decide_eq_true (by omega)
  have hlen : (digs n).length = 1 := by rw [digs_small h]; rfl
  obtain ⟨m, hm⟩ : ∃ m, m = digs n := ⟨_, rfl⟩
  rw [← hm] at SA hlen ⊢
  have h2 : (n : Int) < 100 := by omega
  clear hm
  go_enter Tryz.func146, Tryz.ntmps146
  go_wp2_with (first | (go_at_call 163; refine SA.out.mono ?_; rintro e w2 ⟨rfl, rfl⟩) | (at_builtin; refine wpList_addB rfl _ _ rfl rfl hown rfl (src_str m) (by omega) hb (by omega) ?_; intro v' w' hadd))
  go_ret
  exact ⟨_, rfl, hadd⟩

set_option maxHeartbeats 1000000 in
theorem sUint_any (n : Nat) (h : n < 10) (hown : Byt w base v l) (hb : base ≤ w.heap.size) (hl : l.length ≤ 70368744177664) :
    Calls Tryz.prog 120 #[v, .int .u64 n, .int .i64 10] w (Adds base w v l (digs n)) := by
  have SA := Lib.hid (uint_any n h hown hb hl)
  go_enter Tryz.func120, Tryz.ntmps120
  go_wp2_with (go_at_call 146; refine SA.out.mono ?_; rintro e w2 ⟨v', rfl, hadd⟩)
  go_ret
  exact ⟨_, rfl, hadd⟩

set_option maxHeartbeats 1000000 in
theorem int_any (n : Nat) (h : n < 10) (hown : Byt w base v l) (hb : base ≤ w.heap.size) (hl : l.length ≤ 70368744177664) :
    Calls Tryz.prog 121 #[v, .int .i64 n, .int .i64 10] w (Adds base w v l (digs n)) := by
  have SA := Lib.hid (uint_any n h hown hb hl)
  have hd : decide ((n : Int) < 0) = false := decide_eq_false (by omega)
  have hw : IntKind.u64.wrap (n : Int) = (n : Int) := by show (n : Int) % 18446744073709551616 = n; omega
  clear hown
  go_enter Tryz.func121, Tryz.ntmps121
  go_wp2_with (go_at_call 146; refine SA.out.mono ?_; rintro e w2 ⟨v', rfl, hadd⟩)
  go_ret
  exact ⟨_, rfl, hadd⟩

set_option maxHeartbeats 1000000 in
theorem sInt_any (n : Nat) (h : n < 10) (hown : Byt w base v l) (hb : base ≤ w.heap.size) (hl : l.length ≤ 70368744177664) :
    Calls Tryz.prog 83 #[v, .int .i64 n, .int .i64 10] w (Adds base w v l (digs n)) := by
  have SA := Lib.hid (int_any n h hown hb hl)
  go_enter Tryz.func83, Tryz.ntmps83
  go_wp2_with (go_at_call 121; refine SA.out.mono ?_; rintro e w2 ⟨v', rfl, hadd⟩)
  go_ret
  exact ⟨_, rfl, hadd⟩
end
end Go.Proofs.YtkcfgcdlnojaeaaGreatDoor.Digits
