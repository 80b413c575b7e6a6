/-
  Plain facts on numbers: the value of a decimal text; the term of a number.
  The walks of schema.ParseNumber and of the reference's ParseNumber.
  Plain facts: the top bit of a number of 64 bits turned; the bytes of such a number.
  The walks of schema.NumberTerm and of the reference's NumberTerm.
-/
import Derived.PlainAid
import Derived.WalkKit
import Derived.Test.YtkcfgcdlnojaeaaGreatDoorBase
import Derived.Test.YtkcfgcdlnojaeaaGreatDoorChecked
import Derived.IntWalk
import Derived.Laws.Entries
set_option linter.unusedVariables false
set_option linter.unusedSimpArgs false
namespace Go.Proofs.YtkcfgcdlnojaeaaGreatDoor.NumPlain
open Go.PlainAid

def least : Int := -9223372036854775808
theorem least_eq : least = -9223372036854775808 := rfl

def nst (d : ByteArray) : Nat → Option Int
  | 0 => some 0
  | k + 1 => (nst d k).bind fun v => if 48 ≤ bt d k ∧ bt d k ≤ 57 ∧ least ≤ 10 * v - (bt d k - 48) then some (10 * v - (bt d k - 48)) else none

theorem nst_zero (d : ByteArray) : nst d 0 = some 0 := rfl
theorem nst_yes {d : ByteArray} {k : Nat} {v : Int} (h : nst d k = some v) (h1 : 48 ≤ bt d k) (h2 : bt d k ≤ 57) (h3 : least ≤ 10 * v - (bt d k - 48)) : nst d (k + 1) = some (10 * v - (bt d k - 48)) := by
  rw [nst, h, Option.bind_some, if_pos ⟨h1, h2, h3⟩]
theorem nst_no {d : ByteArray} {k : Nat} {v : Int} (h : nst d k = some v) (h1 : ¬ (48 ≤ bt d k ∧ bt d k ≤ 57 ∧ least ≤ 10 * v - (bt d k - 48))) : nst d (k + 1) = none := by
  rw [nst, h, Option.bind_some, if_neg h1]
theorem nst_none {d : ByteArray} {k : Nat} (h : nst d k = none) : nst d (k + 1) = none := by
  rw [nst, h]; rfl
theorem nst_none_le {d : ByteArray} {k n : Nat} (h : nst d k = none) (hn : k ≤ n) : nst d n = none := by
  induction n with
  | zero => obtain rfl : k = 0 := by omega
            exact h
  | succ n ih =>
    by_cases e : k = n + 1
    · subst e; exact h
    · exact nst_none (ih (by omega))
theorem nst_bd {d : ByteArray} {k : Nat} : ∀ {v : Int}, nst d k = some v → least ≤ v ∧ v ≤ 0 := by
  induction k with
  | zero => intro v h; simp [nst] at h; subst h; decide
  | succ k ih =>
    intro v h
    rw [nst] at h
    cases hk : nst d k with
    | none => rw [hk] at h; simp at h
    | some u =>
      rw [hk, Option.bind_some] at h
      by_cases hc : 48 ≤ bt d k ∧ bt d k ≤ 57 ∧ least ≤ 10 * u - (bt d k - 48)
      · rw [if_pos hc] at h
        obtain rfl := Option.some.inj h
        have := ih hk
        omega
      · rw [if_neg hc] at h; simp at h
theorem nst_digit {d : ByteArray} {k : Nat} (hk : k < d.size) (h : bt d k < 48 ∨ 57 < bt d k) : nst d d.size = none := by
  refine nst_none_le (k := k + 1) ?_ (by omega)
  cases hn : nst d k with
  | none => exact nst_none hn
  | some v => exact nst_no hn (by omega)

def minusB (s : ByteArray) : Bool := decide (0 < s.size) && (bt s 0 == 45)
def digitsOf (s : ByteArray) : ByteArray := if minusB s then s.extract 1 s.size else s
theorem digits_yes {s : ByteArray} (h : minusB s = true) : digitsOf s = s.extract 1 s.size := by unfold digitsOf; rw [if_pos h]
theorem digits_no {s : ByteArray} (h : minusB s = false) : digitsOf s = s := by unfold digitsOf; rw [if_neg (by rw [h]; simp)]
theorem digits_size (s : ByteArray) : (digitsOf s).size ≤ s.size := by
  unfold digitsOf; split
  · rw [ByteArray.size_extract]; omega
  · omega
theorem minus_yes {s : ByteArray} (h : minusB s = true) : 0 < s.size ∧ bt s 0 = 45 := by
  unfold minusB at h; simpa using h
theorem minus_mk {s : ByteArray} (h : 0 < s.size) (h2 : bt s 0 = 45) : minusB s = true := by
  unfold minusB; simp [h, h2]
theorem minus_no {s : ByteArray} (h : minusB s = false) : ¬ (0 < s.size ∧ bt s 0 = 45) := by
  intro ⟨a, b⟩; rw [minus_mk a b] at h; cases h

def parseN (s : ByteArray) : Option Int :=
  if (digitsOf s).size = 0 then none
  else (nst (digitsOf s) (digitsOf s).size).bind fun v => if minusB s then some v else if v = least then none else some (-v)

def numV (o : Option Int) : Value := .tuple #[.int .i64 (o.getD 0), .bool o.isSome]

theorem parse_empty {s : ByteArray} (h : (digitsOf s).size = 0) : parseN s = none := by unfold parseN; rw [if_pos h]
theorem parse_none {s : ByteArray} (h : nst (digitsOf s) (digitsOf s).size = none) : parseN s = none := by
  unfold parseN; rw [h]; split <;> rfl
theorem parse_minus {s : ByteArray} {v : Int} (h0 : (digitsOf s).size ≠ 0) (h : nst (digitsOf s) (digitsOf s).size = some v) (hm : minusB s = true) : parseN s = some v := by
  unfold parseN; rw [if_neg h0, h, hm]; rfl
theorem parse_least {s : ByteArray} {v : Int} (h : nst (digitsOf s) (digitsOf s).size = some v) (hm : minusB s = false) (hv : v = least) : parseN s = none := by
  unfold parseN; rw [h, hm]; subst hv; split <;> rfl
theorem parse_plus {s : ByteArray} {v : Int} (h0 : (digitsOf s).size ≠ 0) (h : nst (digitsOf s) (digitsOf s).size = some v) (hm : minusB s = false) (hv : v ≠ least) : parseN s = some (-v) := by
  unfold parseN; rw [if_neg h0, h, hm, Option.bind_some, if_neg (by simp), if_neg hv]
theorem parse_bd {s : ByteArray} {v : Int} (h : parseN s = some v) : least ≤ v ∧ v ≤ 9223372036854775807 := by
  unfold parseN at h
  split at h
  · cases h
  · cases hn : nst (digitsOf s) (digitsOf s).size with
    | none => rw [hn] at h; cases h
    | some u =>
      have hb := nst_bd hn
      have hl := least_eq
      rw [hn, Option.bind_some] at h
      split at h
      · obtain rfl := Option.some.inj h; omega
      · split at h
        · cases h
        · obtain rfl := Option.some.inj h; omega

def tbyte (v : Int) (i : Nat) : Int := (v - least) / 256 ^ (7 - i) % 256
theorem tbyte_nonneg (v : Int) (i : Nat) : 0 ≤ tbyte v i := Int.emod_nonneg _ (by decide)
theorem tbyte_lt (v : Int) (i : Nat) : tbyte v i < 256 := Int.emod_lt_of_pos _ (by decide)
def tbytes (v : Int) (k : Nat) : List UInt8 := (List.range k).map fun i => UInt8.ofNat (tbyte v i).toNat
def termN (v : Int) : ByteArray := ⟨(tbytes v 8).toArray⟩
theorem tbytes_succ (v : Int) (k : Nat) : tbytes v (k + 1) = tbytes v k ++ [UInt8.ofNat (tbyte v k).toNat] := by
  unfold tbytes; rw [List.range_succ, List.map_append]; rfl
theorem tbytes_len (v : Int) (k : Nat) : (tbytes v k).length = k := by simp [tbytes]
theorem tbyte_back (v : Int) (i : Nat) : ((UInt8.ofNat (tbyte v i).toNat).toNat : Int) = tbyte v i := by
  have h1 := tbyte_nonneg v i
  have h2 := tbyte_lt v i
  rw [UInt8.toNat_ofNat_of_lt' (by show (tbyte v i).toNat < 256; omega)]
  omega
end Go.Proofs.YtkcfgcdlnojaeaaGreatDoor.NumPlain

namespace Go.Proofs.YtkcfgcdlnojaeaaGreatDoor.NumWalk
set_option maxRecDepth 100000
open Go.RowKit Go.PlainAid Base NumPlain

def mark : ByteArray := ⟨#[45]⟩
theorem mark_eq {s : ByteArray} (h : 0 < s.size) : ((s.extract 0 1).toList == mark.toList) = (bt s 0 == 45) := by
  rw [ByteArray.toList_eq, ByteArray.toList_eq]
  have e : (s.extract 0 1).data.toList = [s[0]] := by
    rw [ByteArray.data_extract, Array.toList_extract]
    have h' : 0 < s.data.toList.length := by simpa using h
    rcases hl : s.data.toList with _ | ⟨x, r⟩
    · rw [hl] at h'; simp at h'
    · have : s[0] = x := by
        show s.data[0] = x
        have h1 : s.data.toList[0]? = some x := by rw [hl]; rfl
        rw [Array.getElem?_toList, Array.getElem?_eq_getElem (by simpa using h)] at h1
        exact Option.some.inj h1
      rw [this]
      simp
  rw [e, ← get_bt s 0 h]
  generalize s[0] = x
  show ([x] == [45]) = _
  rw [Bool.eq_iff_iff]
  simp
  constructor
  · intro h; rw [h]; rfl
  · intro h; exact UInt8.toNat_inj.1 (by have : (x.toNat : Int) = 45 := h; show x.toNat = 45; omega)

theorem mark_list : mark.toList = [45] := by rw [ByteArray.toList_eq]; rfl

set_option maxHeartbeats 1000000 in
theorem sl_hasPrefix (s : ByteArray) (w : World) (hs : s.size ≤ 281474976710656) :
    Calls Tryz.prog 145 #[.string s, .string ⟨#[45]⟩] w fun r w' => r = .returned (.bool (minusB s)) ∧ w' = w := by
  by_cases h : 0 < s.size
  · have HM := Lib.hid (mark_eq h)
    have h2 : decide (1 ≤ (s.size : Int)) = true := decide_eq_true (by omega)
    have HE := Lib.hid (show minusB s = ((s.extract 0 1).toList == [45]) by rw [← mark_list, HM.out]; unfold minusB; simp [h])
    clear HM
    go_enter Tryz.func145, Tryz.ntmps145
    go_wp2
    go_ret
    exact ⟨by rw [HE.out]; rfl, rfl⟩
  · have HE := Lib.hid (show minusB s = false by unfold minusB; simp [h])
    go_enter Tryz.func145, Tryz.ntmps145
    go_wp2
    go_ret
    exact ⟨by rw [HE.out]; rfl, rfl⟩

set_option maxHeartbeats 1000000 in
theorem cutMinus_any (s : ByteArray) (w : World) (hs : s.size ≤ 281474976710656) :
    Calls Tryz.prog 77 #[.string s, .string ⟨#[45]⟩] w fun r w' => r = .returned (.tuple #[.string (digitsOf s), .bool (minusB s)]) ∧ w' = w := by
  have HP := Lib.hid (fun W => sl_hasPrefix s W hs)
  cases h : minusB s
  · have HD := Lib.hid (digits_no h)
    rw [h] at HP
    clear h
    go_enter Tryz.func77, Tryz.ntmps77
    go_wp2_with (first
      | (go_at_call 145; refine (HP.out _).mono ?_; rintro e w' ⟨rfl, rfl⟩)
      | (go_at_call 119; go_in))
    go_ret2
    exact ⟨by rw [HD.out]; rfl, rfl⟩
  · have HD := Lib.hid (digits_yes h)
    have h1 := (minus_yes h).1
    rw [h] at HP
    clear h
    go_enter Tryz.func77, Tryz.ntmps77
    go_wp2_with (first
      | (go_at_call 145; refine (HP.out _).mono ?_; rintro e w' ⟨rfl, rfl⟩)
      | (go_at_call 119; go_in))
    go_ret2
    exact ⟨by rw [HD.out]; rfl, rfl⟩

theorem quo10 (v d : Int) (h2 : 0 ≤ d) (h3 : d ≤ 9) : v < (-9223372036854775808 + d).tdiv 10 ↔ 10 * v - d < -9223372036854775808 := by
  have e : (-9223372036854775808 + d).tdiv 10 = -((9223372036854775808 - d) / 10) := by
    rw [show -9223372036854775808 + d = -(9223372036854775808 - d) by omega, Int.neg_tdiv, Int.tdiv_eq_ediv_of_nonneg (by omega)]
  rw [e]
  omega
theorem step_val {v d : Int} (h0 : -9223372036854775808 ≤ 10 * v - d) (h1 : v ≤ 0) (h2 : 0 ≤ d) : wrap64 (wrap64 (10 * v) - d) = 10 * v - d := by
  rw [IntWalk.wrap64_in (10 * v) (by omega), IntWalk.wrap64_in _ (by omega)]
theorem ret_num {r : Option Int} {v : Int} {b : Bool} (h : r = if b then some v else none) (hv : b = false → v = 0) : Ending.returned (.tuple #[.int .i64 v, .bool b]) = .returned (numV r) := by
  subst h
  cases b
  · rw [hv rfl]; rfl
  · rfl
theorem no_str {s : ByteArray} (h : s.size = 0) : s = ByteArray.empty := by
  cases s with
  | mk d => cases d with
    | mk l => cases l with
      | nil => rfl
      | cons a r => exact absurd h (by show ¬ (r.length + 1 = 0); omega)

set_option maxHeartbeats 4000000 in
theorem parse_any (s : ByteArray) (w : World) (hs : s.size ≤ 281474976710656) :
    Calls Tryz.prog 39 #[.string s] w fun e w' => e = .returned (numV (parseN s)) ∧ w' = w := by
  have HC := Lib.hid (cutMinus_any s w hs)
  have hds := digits_size s
  obtain ⟨r, hr⟩ : ∃ r, r = parseN s := ⟨_, rfl⟩
  rw [← hr]
  have HR := Lib.hid hr
  clear hr
  have HE := Lib.hid (fun h => parse_empty (s := s) h)
  have HN := Lib.hid (fun h => parse_none (s := s) h)
  have HM := Lib.hid (fun v h0 h hm => parse_minus (s := s) (v := v) h0 h hm)
  have HL := Lib.hid (fun v h hm hv => parse_least (s := s) (v := v) h hm hv)
  have HP := Lib.hid (fun v h0 h hm hv => parse_plus (s := s) (v := v) h0 h hm hv)
  generalize digitsOf s = d at *
  generalize minusB s = m at *
  go_enter Tryz.func39, Tryz.ntmps39
  by_cases h0 : d.size = 0
  · obtain rfl := no_str h0
    have hr : r = none := by rw [HR.out]; exact HE.out h0
    subst hr
    clear h0
    go_wp2_with (go_at_call 77; refine HC.out.mono ?_; rintro e w' ⟨rfl, rfl⟩)
    go_ret2
    exact ⟨rfl, rfl⟩
  · have hne : ¬ d.toList = [] := by
      intro h; rw [ByteArray.toList_eq] at h
      have := congrArg List.length h
      rw [Array.length_toList] at this
      exact h0 this
    have hne2 : d.toList.isEmpty = false := by rw [List.isEmpty_eq_false_iff]; exact hne
    have hne3 : (d.toList == []) = false := by rw [← Bool.not_eq_true, List.beq_nil_eq]; simp [hne]
    go_wp2_with (go_at_call 77; refine HC.out.mono ?_; rintro e w' ⟨rfl, rfl⟩)
    go_loop [6, 18] (fun v6 i => ∃ (k : Nat) (v : Int), k ≤ d.size ∧ i = .int .i64 k ∧ v6 = .int .i64 v ∧ Hid (nst d k = some v)) (fun _ i => d.size - (intOf i).toNat)
    case atStart => exact ⟨0, 0, Nat.zero_le _, rfl, rfl, Lib.hid rfl⟩
    case round =>
      obtain ⟨k, v, hk, rfl, rfl, hst⟩ := hrel
      obtain ⟨b1, b2⟩ := nst_bd hst.out
      by_cases hlt : k < d.size
      · have hb := get_bt d
        have r0 := bt_nonneg d k
        have r1 := bt_le d k
        go_wp2_with fail
        · go_ret2
          exact ⟨ret_num (b := false) (HR.out.trans (HN.out (nst_digit hlt (by omega)))) (fun _ => rfl), rfl⟩
        · go_ret2
          exact ⟨ret_num (b := false) (HR.out.trans (HN.out (nst_digit hlt (by omega)))) (fun _ => rfl), rfl⟩
        · go_ret2
          have hq := (quo10 v (bt d k - 48) (by omega) (by omega)).1 (by assumption)
          exact ⟨ret_num (b := false) (HR.out.trans (HN.out (nst_none_le (nst_no hst.out (fun h => by have := least_eq; omega)) (show k + 1 ≤ d.size by omega)))) (fun _ => rfl), rfl⟩
        · have hq : ¬ v < (-9223372036854775808 + (bt d k - 48)).tdiv 10 := by omega
          rw [quo10 v (bt d k - 48) (by omega) (by omega)] at hq
          have hl := least_eq
          rw [step_val (by omega) b2 (by omega)]
          go_round
          case rel => exact ⟨k + 1, _, by omega, by go_num, rfl, Lib.hid (nst_yes hst.out (by omega) (by omega) (by omega))⟩
          case measure => simp [intOf]; omega
      · obtain rfl : k = d.size := by omega
        have hl := least_eq
        have e0 : d.size ≠ 0 := h0
        by_cases hv : v = least
        · have hvb : (v == -9223372036854775808) = true := by rw [beq_iff_eq]; omega
          cases m
          · have hr := HR.out.trans (HL.out v hst.out rfl hv)
            clear hv
            go_wp2_with fail
            go_ret2
            exact ⟨ret_num (b := false) rfl (fun _ => rfl), rfl⟩
          · have hr := HR.out.trans (HM.out v e0 hst.out rfl)
            clear hv
            go_wp2_with fail
            go_ret2
            exact ⟨ret_num (b := true) rfl (fun h => by cases h), rfl⟩
        · have hvb : (v == -9223372036854775808) = false := by rw [beq_eq_false_iff_ne]; intro h; exact hv (by omega)
          cases m
          · have hr := HR.out.trans (HP.out v e0 hst.out rfl hv)
            have hw : wrap64 (-v) = -v := IntWalk.wrap64_in _ (by omega)
            clear hv
            go_wp2_with fail
            go_ret2
            exact ⟨ret_num (b := true) rfl (fun h => by cases h), rfl⟩
          · have hr := HR.out.trans (HM.out v e0 hst.out rfl)
            clear hv
            go_wp2_with fail
            go_ret2
            exact ⟨ret_num (b := true) rfl (fun h => by cases h), rfl⟩
end Go.Proofs.YtkcfgcdlnojaeaaGreatDoor.NumWalk

namespace Go.Proofs.YtkcfgcdlnojaeaaGreatDoor.Bits63
open Go NumPlain

theorem xor_lo (a : Nat) (h : a < 2 ^ 63) : a ^^^ 2 ^ 63 = 2 ^ 63 + a := by
  apply Nat.eq_of_testBit_eq
  intro i
  rw [Nat.testBit_xor, Nat.testBit_two_pow]
  rcases Nat.lt_trichotomy i 63 with hi | rfl | hi
  · rw [Nat.testBit_two_pow_add_gt hi, decide_eq_false (by omega)]; simp
  · rw [Nat.testBit_two_pow_add_eq, Nat.testBit_lt_two_pow h]; simp
  · have hp : (2 : Nat) ^ 64 ≤ 2 ^ i := Nat.pow_le_pow_right (by decide) hi
    rw [Nat.testBit_lt_two_pow (Nat.lt_of_lt_of_le (by omega) hp), Nat.testBit_lt_two_pow (Nat.lt_of_lt_of_le (by omega) hp), decide_eq_false (by omega)]; rfl
theorem xor_hi (a : Nat) (h : a < 2 ^ 63) : (2 ^ 63 + a) ^^^ 2 ^ 63 = a := by
  rw [← xor_lo a h, Nat.xor_assoc, Nat.xor_self, Nat.xor_zero]

theorem wrap_u64_eq (v : Int) : IntKind.u64.wrap v = v % 18446744073709551616 := by simp [IntKind.wrap, IntKind.bits, IntKind.signed]

theorem xor63 (v : Int) (h0 : -9223372036854775808 ≤ v) (h1 : v ≤ 9223372036854775807) : bits .xor .u64 (IntKind.u64.wrap v) 9223372036854775808 = v + 9223372036854775808 := by
  have hb : bits .xor .u64 (IntKind.u64.wrap v) 9223372036854775808 = IntKind.u64.wrap ((BitVec.ofInt 64 (IntKind.u64.wrap v) ^^^ BitVec.ofInt 64 9223372036854775808).toNat : Nat) := rfl
  rw [hb, BitVec.toNat_xor, BitVec.toNat_ofInt, BitVec.toNat_ofInt, wrap_u64_eq, wrap_u64_eq]
  have e2 : ((9223372036854775808 : Int) % ((2 : Nat) ^ 64 : Nat)).toNat = 2 ^ 63 := by decide
  rw [e2]
  by_cases h : 0 ≤ v
  · have e1 : (v % 18446744073709551616 % ((2 : Nat) ^ 64 : Nat)).toNat = v.toNat := by
      rw [Int.emod_eq_of_lt h (by omega), Int.emod_eq_of_lt h (by have : (((2 : Nat) ^ 64 : Nat) : Int) = 18446744073709551616 := by decide
                                                                  omega)]
    rw [e1, xor_lo _ (by omega)]
    omega
  · have e1 : (v % 18446744073709551616 % ((2 : Nat) ^ 64 : Nat)).toNat = 2 ^ 63 + (v + 9223372036854775808).toNat := by
      have : (((2 : Nat) ^ 64 : Nat) : Int) = 18446744073709551616 := by decide
      rw [this]
      omega
    rw [e1, xor_hi _ (by omega)]
    omega
theorem add63 (v : Int) (h0 : -9223372036854775808 ≤ v) (h1 : v ≤ 9223372036854775807) : IntKind.u64.wrap (IntKind.u64.wrap v + 9223372036854775808) = v + 9223372036854775808 := by
  rw [wrap_u64_eq, wrap_u64_eq]; omega

theorem wrap_u8_eq (v : Int) : IntKind.u8.wrap v = v % 256 := by simp [IntKind.wrap, IntKind.bits, IntKind.signed]
theorem byte_shr (U : Int) (k : Nat) (hk : k < 8) : U / 2 ^ (56 - 8 * k) % 256 = U / 256 ^ (7 - k) % 256 := by
  have : (2 : Int) ^ (56 - 8 * k) = 256 ^ (7 - k) := by
    match k, hk with
    | 0, _ => decide
    | 1, _ => decide
    | 2, _ => decide
    | 3, _ => decide
    | 4, _ => decide
    | 5, _ => decide
    | 6, _ => decide
    | 7, _ => decide
  rw [this]
end Go.Proofs.YtkcfgcdlnojaeaaGreatDoor.Bits63

namespace Go.Proofs.YtkcfgcdlnojaeaaGreatDoor.NumTerm
set_option maxRecDepth 100000
open Go.RowKit Go.PlainAid Base NumPlain NumWalk Bits63

theorem tbyte_eq {v U : Int} (hU : U = v - least) {k : Nat} (hk : k < 8) : U / 2 ^ (56 - 8 * k) % 256 = tbyte v k := by
  rw [byte_shr U k hk, hU]; rfl

def arr (v : Int) (k : Nat) : Array Value := Array.ofFn (n := 8) fun j => .int .u8 (if j.1 < k then tbyte v j.1 else 0)
theorem arr_at (v : Int) (k j : Nat) : (arr v k)[j]? = if j < 8 then some (.int .u8 (if j < k then tbyte v j else 0)) else none := by
  unfold arr
  rw [Array.getElem?_ofFn]
  by_cases h : j < 8 <;> simp [h]
theorem arr_zero (v : Int) : arr v 0 = #[.int .u8 0, .int .u8 0, .int .u8 0, .int .u8 0, .int .u8 0, .int .u8 0, .int .u8 0, .int .u8 0] := by
  apply Array.ext_getElem?
  intro i
  rw [arr_at]
  match i with
  | 0 => rfl
  | 1 => rfl
  | 2 => rfl
  | 3 => rfl
  | 4 => rfl
  | 5 => rfl
  | 6 => rfl
  | 7 => rfl
  | n + 8 => simp
theorem term_back {w wr : World} {v : Int} {S B E : TypeId} (h1 : Tryz.prog.underlying B = some (.slice E)) (h2 : Tryz.prog.underlying E = some (.int .u8)) (h3 : Tryz.prog.underlying S = some .string)
    (hb : Blk wr w.heap.size 134 (arr v 8)) : (convert B S (.slice (some ⟨w.heap.size, 0, none⟩) 8 8)).run Tryz.prog wr = .ok (.string (termN v)) wr := by
  have h := run_convert_bytes_back (P := Tryz.prog) wr B S E ⟨w.heap.size, 0, none⟩ 8 (tbytes v 8) h1 h2 h3 (fun j hj => by
    rw [tbytes_len] at hj
    rw [Addr.add_lit, Nat.zero_add, hb.cell, arr_at, if_pos hj, if_pos hj, ← tbyte_back v j]
    congr 3
    simp [tbytes])
  rw [tbytes_len] at h
  exact h
theorem arr_set (v : Int) (k : Nat) : (arr v k).setIfInBounds k (.int .u8 (tbyte v k)) = arr v (k + 1) := by
  apply Array.ext_getElem?
  intro i
  rw [Array.getElem?_setIfInBounds, arr_at, arr_at, show (arr v k).size = 8 by simp [arr]]
  by_cases hi : k = i
  · subst hi; simp
  · rw [if_neg hi]
    by_cases hz : i < 8
    · rw [if_pos hz, if_pos hz]
      by_cases h : i < k
      · rw [if_pos h, if_pos (by omega)]
      · rw [if_neg h, if_neg (show ¬ i < k + 1 by omega)]
    · rw [if_neg hz, if_neg hz]

set_option maxHeartbeats 4000000 in
theorem term_any (v : Int) (w : World) (h0 : least ≤ v) (h1 : v ≤ 9223372036854775807) :
    Calls Tryz.prog 40 #[.int .i64 v] w fun e w' => e = .returned (.string (termN v)) ∧ Below w.heap.size w w' := by
  have hl := least_eq
  obtain ⟨U, hU⟩ : ∃ U, U = v - least := ⟨_, rfl⟩
  have hx : bits .xor .u64 (IntKind.u64.wrap v) 9223372036854775808 = U := by rw [xor63 v (by omega) h1]; omega
  have HU := Lib.hid hU
  have u0 : 0 ≤ U := by omega
  have u1 : U ≤ 18446744073709551615 := by omega
  clear hU hl
  have HA := Lib.hid (arr_zero v)
  go_enter Tryz.func40, Tryz.ntmps40
  go_wp2_with fail
  rw [← HA.out]
  go_loopw [9] (fun i wr => ∃ k : Nat, k ≤ 8 ∧ i = .int .i64 k ∧ Blk wr w.heap.size 134 (arr v k) ∧ Below w.heap.size w wr) (fun i _ => 8 - (intOf i).toNat)
  case atStart => exact ⟨0, by omega, rfl, Blk.new _ _ _, by exact Base.bel⟩
  case round =>
    obtain ⟨k, hk, rfl, hb, hbel⟩ := hrel
    by_cases hlt : k < 8
    · have hc : wr.cell? ⟨w.heap.size, k, none⟩ = some (.int .u8 0) := by rw [hb.cell, arr_at, if_pos hlt, if_neg (by omega)]
      have hz := hb.frozen k
      go_wp2_with fail
      rw [tbyte_eq HU.out hlt]
      go_roundw
      case rel => exact ⟨k + 1, by omega, by go_num, by rw [← arr_set]; exact hb.set_ _ _, hbel.setCell (p := ⟨w.heap.size, k, none⟩) (Nat.le_refl _) _⟩
      case measure => simp [intOf]; omega
    · obtain rfl : k = 8 := by omega
      have hbk := term_back Tryz.underlying82 Tryz.underlying5 Tryz.underlying9 hb
      go_wp2_with fail
      go_ret
      exact ⟨rfl, hbel⟩

theorem tm256 {U : Int} (h : 0 ≤ U) (n : Nat) : (U / 2 ^ n).tmod 256 % 256 = U / 2 ^ n % 256 := by
  rw [Int.tmod_eq_emod_of_nonneg (Int.ediv_nonneg h (Int.pow_nonneg (by decide))), Int.emod_emod]
theorem u8el : Elem Tryz.prog 82 5 (.int .u8 0) 1 1 := .mk_ (by kernel_rfl) (by kernel_rfl) rfl (by decide)
theorem tb_succ (v : Int) (k : Nat) : byteCells (tbytes v (k + 1)) = byteCells (tbytes v k) ++ [.int .u8 (tbyte v k)] := by
  rw [tbytes_succ]
  simp only [byteCells, List.map_append, List.map_cons, List.map_nil]
  rw [tbyte_back]

set_option maxHeartbeats 4000000 in
theorem term_ref (v : Int) (w : World) (h0 : least ≤ v) (h1 : v ≤ 9223372036854775807) :
    Calls Tryz.prog 133 #[.int .i64 v] w fun e w' => e = .returned (.string (termN v)) ∧ Below w.heap.size w w' := by
  have hl := least_eq
  obtain ⟨U, hU⟩ : ∃ U, U = v - least := ⟨_, rfl⟩
  have hx : IntKind.u64.wrap (IntKind.u64.wrap v + 9223372036854775808) = U := by rw [add63 v (by omega) h1]; omega
  have HU := Lib.hid hU
  have u0 : 0 ≤ U := by omega
  have u1 : U ≤ 18446744073709551615 := by omega
  clear hU hl
  go_enter Tryz.func133, Tryz.ntmps133
  go_wp2_with fail
  go_loopw [4, 5] (fun b i wr => ∃ k : Nat, k ≤ 8 ∧ i = .int .i64 k ∧ wr.ownsRow w.heap.size 5 1 b k (byteCells (tbytes v k)) ∧ Below w.heap.size w wr) (fun _ i _ => 8 - (intOf i).toNat)
  case atStart => exact ⟨0, by omega, rfl, World.ownsRow_lit w #[] 0 (Nat.le_refl _) (by decide) rfl, by exact Base.bel⟩
  case round =>
    obtain ⟨k, hk, rfl, hown, hbel⟩ := hrel
    have hsz := hbel.size
    obtain ⟨A, c, rfl⟩ := own_slice hown
    by_cases hlt : k < 8
    · have hsh := tbyte_eq HU.out hlt
      go_wp2_with (at_builtin; refine wpList_append1 (base := w.heap.size) rfl _ _ rfl u8el hown rfl rfl rfl rfl (by omega) (by unfold maxLen; omega) hsz ?_)
      intro v5 w5 own5 hg5 hb5
      have hb5' := hb5 w hbel
      clear hb5 hg5 hown
      go_wp2_with fail
      go_roundw
      case rel => exact ⟨k + 1, by omega, by go_num, by rw [tb_succ, ← hsh, ← tm256 u0 (56 - 8 * k)]; exact own5, hb5'⟩
      case measure => simp [intOf]; omega
    · obtain rfl : k = 8 := by omega
      have hbk := run_string_own (P := Tryz.prog) Tryz.underlying82 Tryz.underlying5 Tryz.underlying9 hown
      rw [show (⟨(tbytes v 8).toArray⟩ : ByteArray) = termN v from rfl] at hbk
      go_wp2_with fail
      go_ret
      exact ⟨rfl, hbel⟩
end Go.Proofs.YtkcfgcdlnojaeaaGreatDoor.NumTerm
