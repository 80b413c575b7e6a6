/-
  The walks of bind's number, weight and quoted.
-/
import Derived.Test.YtkcfgcdlnojaeaaGreatDoorDigits
import Derived.Deep.RegionLaw
namespace Go.Proofs.YtkcfgcdlnojaeaaGreatDoor.Quoted
set_option maxRecDepth 100000
open Go.RowKit Go.PlainAid Base Bytes Digits

section
variable {base : Nat} {w : World} {v : Value} {l : List UInt8}
theorem AddB.len {base : Nat} {w w' : World} {v v' : Value} {l m : List UInt8} (h : AddB base w v l m v' w') : w.heap.size ≤ w'.heap.size := h.2.1.size

set_option maxHeartbeats 1000000 in
theorem number_any (n : Nat) (h : n < 10) (hown : Byt w base v l) (hb : base ≤ w.heap.size) (hl : l.length ≤ 35184372088832) :
    Calls Tryz.prog 80 #[v, .int .i64 n] w (Adds base w v l ([32] ++ digs n)) := by
  have ho := hown.below (Below.alloc (Below.refl w.heap.size w) (Nat.le_refl _) (.cells #[.int .u8 32] 5))
  have hsr := src_blk (Blk.new w 5 #[.int .u8 32]) [32] rfl
  have SA := Lib.hid (fun v' w' (ha : AddB base (w.alloc (.cells #[.int .u8 32] 5)) v l [32] v' w') => sInt_any n h ha.1 (by have := ha.2.1.size; simp at this; omega) (by simp; omega))
  go_enter Tryz.func80, Tryz.ntmps80
  go_wp2_with (first | (at_builtin; refine wpList_addB rfl _ _ rfl rfl ho rfl hsr (by decide) (by simp; omega) (by simp; omega) ?_; intro v1 w1 ha1) | (go_at_call 83; refine (SA.out _ _ ha1).mono ?_; rintro e w2 ⟨v', rfl, hadd⟩))
  go_ret
  exact ⟨_, rfl, (ha1.trans hadd).pre (Below.alloc (Below.refl w.heap.size w) (Nat.le_refl _) _)⟩

set_option maxHeartbeats 1000000 in
theorem weight_any (n : Nat) (h : n < 10) (hown : Byt w base v l) (hb : base ≤ w.heap.size) (hl : l.length ≤ 35184372088832) :
    Calls Tryz.prog 81 #[v, .int .u64 n] w (Adds base w v l ([32] ++ digs n)) := by
  have ho := hown.below (Below.alloc (Below.refl w.heap.size w) (Nat.le_refl _) (.cells #[.int .u8 32] 5))
  have hsr := src_blk (Blk.new w 5 #[.int .u8 32]) [32] rfl
  have SA := Lib.hid (fun v' w' (ha : AddB base (w.alloc (.cells #[.int .u8 32] 5)) v l [32] v' w') => sUint_any n h ha.1 (by have := ha.2.1.size; simp at this; omega) (by simp; omega))
  go_enter Tryz.func81, Tryz.ntmps81
  go_wp2_with (first | (at_builtin; refine wpList_addB rfl _ _ rfl rfl ho rfl hsr (by decide) (by simp; omega) (by simp; omega) ?_; intro v1 w1 ha1) | (go_at_call 120; refine (SA.out _ _ ha1).mono ?_; rintro e w2 ⟨v', rfl, hadd⟩))
  go_ret
  exact ⟨_, rfl, (ha1.trans hadd).pre (Below.alloc (Below.refl w.heap.size w) (Nat.le_refl _) _)⟩

def hexd (n : Nat) : UInt8 := if n < 10 then UInt8.ofNat (48 + n) else UInt8.ofNat (87 + n)
/-- Must this byte be escaped? -/
def odd (n : Int) : Bool := decide (n < 32) || decide (126 < n) || n == 34 || n == 92
def qb (n : Int) : List UInt8 := if odd n then [92, hexd (n / 16).toNat, hexd (n % 16).toNat] else [UInt8.ofNat n.toNat]
def qfrom (s : ByteArray) (k : Nat) : List UInt8 := (List.range k).flatMap fun i => qb (bt s i)
/-- A text in quotes. -/
def quoteL (s : ByteArray) : List UInt8 := [34] ++ qfrom s s.size ++ [34]
theorem qfrom_succ (s : ByteArray) (k : Nat) : qfrom s (k + 1) = qfrom s k ++ qb (bt s k) := by simp [qfrom, List.range_succ]
theorem qb_len (n : Int) : (qb n).length ≤ 3 := by unfold qb; split <;> simp
theorem qfrom_len (s : ByteArray) (k : Nat) : (qfrom s k).length ≤ 3 * k := by
  induction k with
  | zero => simp [qfrom]
  | succ k ih => rw [qfrom_succ, List.length_append]; have := qb_len (bt s k); omega
theorem odd_no {n : Int} (h1 : 32 ≤ n) (h2 : n ≤ 126) (h3 : n ≠ 34) (h4 : n ≠ 92) : odd n = false := by
  unfold odd
  rw [decide_eq_false (by omega), decide_eq_false (by omega), beq_eq_false_iff_ne.2 h3, beq_eq_false_iff_ne.2 h4]
  rfl
theorem odd_iff {n : Int} (h : odd n = false) : 32 ≤ n ∧ n ≤ 126 ∧ n ≠ 34 ∧ n ≠ 92 := by
  unfold odd at h
  simp at h
  omega
theorem byte_cell {n : Int} (h0 : 0 ≤ n) (h1 : n ≤ 255) : Base.byteCells [UInt8.ofNat n.toNat] = [.int .u8 n] := by
  simp only [Base.byteCells, List.map_cons, List.map_nil, List.cons.injEq, Value.int.injEq, true_and, and_true]
  rw [UInt8.toNat_ofNat']
  omega

/-- No byte of the text is escaped. -/
def Plain (s : ByteArray) : Prop := ∀ k, k < s.size → odd (bt s k) = false

set_option maxHeartbeats 4000000 in
theorem quoted_plain (s : ByteArray) (hp : Plain s) (hown : Byt w base v l) (hb : base ≤ w.heap.size) (hl : l.length + 3 * s.size ≤ 35184372088832) :
    Calls Tryz.prog 82 #[v, .string s] w (Adds base w v l (quoteL s)) := by
  have ho := hown.below (Below.alloc (Below.refl w.heap.size w) (Nat.le_refl _) (.cells #[.int .u8 34] 5))
  have hsr := src_blk (Blk.new w 5 #[.int .u8 34]) [34] rfl
  go_enter Tryz.func82, Tryz.ntmps82
  go_wp2_with (at_builtin; refine wpList_addB rfl _ _ rfl rfl ho rfl hsr (by decide) (by simp; omega) (by simp; omega) ?_; intro v1 w1 ha1)
  go_loopw [5, 0] (fun i u wr => ∃ (k : Nat) (v2 : Value), k ≤ s.size ∧ i = .int .i64 k ∧ u = v2 ∧ AddB base w v l ([34] ++ qfrom s k) v2 wr) (fun i _ _ => s.size - (intOf i).toNat)
  case atStart => exact ⟨0, v1, Nat.zero_le _, rfl, rfl, ha1.pre (Below.alloc (Below.refl w.heap.size w) (Nat.le_refl _) _)⟩
  case round =>
    obtain ⟨k, v2, hk, rfl, rfl, hadd⟩ := hrel
    have hq := qfrom_len s k
    have hbr : base ≤ wr.heap.size := Nat.le_trans hb hadd.2.1.size
    rcases Nat.lt_or_ge k s.size with hlt | hge
    · have hodd := hp k hlt
      obtain ⟨q1, q2, q3, q4⟩ := odd_iff hodd
      have hqb : qb (bt s k) = [UInt8.ofNat (bt s k).toNat] := by unfold qb; rw [hodd]; rfl
      have hgb := get_bt s
      have r0 := bt_nonneg s k
      have r1 := bt_le s k
      have b1 : decide (bt s k < 32) = false := decide_eq_false (by omega)
      have b2 : decide (126 < bt s k) = false := decide_eq_false (by omega)
      have b3 : (bt s k == 34) = false := beq_eq_false_iff_ne.2 q3
      have b4 : (bt s k == 92) = false := beq_eq_false_iff_ne.2 q4
      have i3 : (k : Int) < 9223372036854775807 := by omega
      have ho2 := hadd.1.below (Below.alloc (Below.refl wr.heap.size wr) (Nat.le_refl _) (.cells #[.int .u8 (bt s k)] 5))
      have hsr2 := src_blk (Blk.new wr 5 #[.int .u8 (bt s k)]) [UInt8.ofNat (bt s k).toNat] (byte_cell r0 r1).symm
      have HQ := Lib.hid hqb
      have HA := Lib.hid hadd
      have hlen : (l ++ ([34] ++ qfrom s k)).length = l.length + 1 + (qfrom s k).length := by simp; omega
      clear hadd hodd hqb hp ho hsr
      go_wp2_with (at_builtin; refine wpList_addB rfl _ _ rfl rfl ho2 rfl hsr2 (by exact Nat.zero_lt_one) (by simp; omega) (by rw [hlen]; simp; omega) ?_; intro v3 w3 ha3)
      go_roundw
      case rel =>
        refine ⟨k + 1, v3, by omega, by go_num, rfl, ?_⟩
        rw [qfrom_succ, HQ.out, ← List.append_assoc]
        exact HA.out.trans (ha3.pre (Below.alloc (Below.refl wr.heap.size wr) (Nat.le_refl _) _))
      case measure => simp [intOf]; omega
    · obtain rfl : k = s.size := by omega
      have ho2 := hadd.1.below (Below.alloc (Below.refl wr.heap.size wr) (Nat.le_refl _) (.cells #[.int .u8 34] 5))
      have hsr2 := src_blk (Blk.new wr 5 #[.int .u8 34]) [34] rfl
      have HA := Lib.hid hadd
      have hlen : (l ++ ([34] ++ qfrom s s.size)).length = l.length + 1 + (qfrom s s.size).length := by simp; omega
      clear hadd hp ho hsr
      go_wp2_with (at_builtin; refine wpList_addB rfl _ _ rfl rfl ho2 rfl hsr2 (by decide) (by simp; omega) (by rw [hlen]; simp; omega) ?_; intro v3 w3 ha3)
      go_ret
      exact ⟨_, rfl, HA.out.trans (ha3.pre (Below.alloc (Below.refl wr.heap.size wr) (Nat.le_refl _) _))⟩
end
end Go.Proofs.YtkcfgcdlnojaeaaGreatDoor.Quoted
