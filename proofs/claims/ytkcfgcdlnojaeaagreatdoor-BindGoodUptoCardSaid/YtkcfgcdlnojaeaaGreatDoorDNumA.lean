/-
  The walk of bind's quoted over whatever text, and of bind's end.
  strconv.AppendInt and all that it reaches, as this program bears them.
  The walks of strconv.AppendInt and AppendUint over whatever numbers, and of bind's number and weight.
  Chains of calls and appends behind one list of bytes: what their walks share.
  The walk of bind's end.
-/
import Derived.Test.YtkcfgcdlnojaeaaGreatDoorDByt
import Derived.Test.YtkcfgcdlnojaeaaGreatDoorDTextP
import Derived.Deep.RegionLaw
import Derived.Deep.Cut
import Derived.Test.YtkcfgcdlnojaeaaGreatDoorChecked
import Derived.Shelf.LaysM
import Derived.Shelf.Strconv.AppendInt10
import Derived.Test.YtkcfgcdlnojaeaaGreatDoorDRel
import Derived.Test.YtkcfgcdlnojaeaaGreatDoorDQry
set_option linter.unusedVariables false
set_option linter.unusedSimpArgs false
namespace Go.Proofs.YtkcfgcdlnojaeaaGreatDoor.QuoteAll
set_option maxRecDepth 100000
open Go.RowKit Go.PlainAid Base Bytes Digits Quoted Query TextLine

def hexT : ByteArray := ⟨#[48, 49, 50, 51, 52, 53, 54, 55, 56, 57, 97, 98, 99, 100, 101, 102]⟩
theorem hex_at {n : Nat} (h : n < 16) : bt hexT n = ((hexd n).toNat : Int) := by
  have key : ∀ n : Fin 16, bt hexT n.val = ((hexd n.val).toNat : Int) := by decide +kernel
  exact key ⟨n, h⟩
theorem hex_get {n : Nat} (h : n < hexT.size) : ((hexT[n]'h).toNat : Int) = ((hexd n).toNat : Int) := by
  rw [get_bt hexT n h, hex_at h]
theorem hex_lit : ∀ (n : Nat) (h : n < (⟨#[48, 49, 50, 51, 52, 53, 54, 55, 56, 57, 97, 98, 99, 100, 101, 102]⟩ : ByteArray).size), (((⟨#[48, 49, 50, 51, 52, 53, 54, 55, 56, 57, 97, 98, 99, 100, 101, 102]⟩ : ByteArray)[n]'h).toNat : Int) = ((hexd n).toNat : Int) := fun _ h => hex_get h
theorem and15 (s : ByteArray) (k : Nat) : bits BinOp.and IntKind.u8 (bt s k) 15 = bt s k % 16 := by
  have key : ∀ n : Fin 256, bits BinOp.and IntKind.u8 (n.val : Int) 15 = (n.val : Int) % 16 := by decide +kernel
  have r0 := bt_nonneg s k
  have r1 := bt_le s k
  obtain ⟨n, hn⟩ : ∃ n : Nat, bt s k = n := ⟨_, (Int.toNat_of_nonneg r0).symm⟩
  rw [hn]
  exact key ⟨n, by omega⟩

section
variable {base : Nat} {w : World} {v : Value} {l : List UInt8}
set_option maxHeartbeats 4000000 in
theorem quoted_any (s : ByteArray) (hown : Byt w base v l) (hb : base ≤ w.heap.size) (hl : l.length + 3 * s.size ≤ 35184372088832) :
    Calls Tryz.prog 82 #[v, .string s] w (Adds base w v l (quoteL s)) := by
  have ho := hown.below (Below.alloc (Below.refl w.heap.size w) (Nat.le_refl _) (.cells #[.int .u8 34] 5))
  have hsr := src_blk (Blk.new w 5 #[.int .u8 34]) [34] rfl
  go_enter Tryz.func82, Tryz.ntmps82
  go_wp2_with (at_builtin; refine wpList_addB rfl _ _ rfl rfl ho rfl hsr (by decide) (by simp; omega) (by simp; omega) ?_; intro v1 w1 ha1)
  go_loopw [5, 0] (fun i u wr => ∃ (k : Nat) (v2 : Value), k ≤ s.size ∧ i = .int .i64 k ∧ u = v2 ∧ AddB base w v l ([34] ++ qfrom s k) v2 wr) (fun i _ _ => s.size - (intOf i).toNat)
  case atStart => exact ⟨0, v1, Nat.zero_le _, rfl, rfl, ha1.pre (Below.alloc (Below.refl w.heap.size w) (Nat.le_refl _) _)⟩
  case round =>
    obtain ⟨k, v2, hk, rfl, rfl, hadd⟩ := hrel
    have hq := qfrom_len s k
    have hbr : base ≤ wr.heap.size := Nat.le_trans hb hadd.2.1.size
    rcases Nat.lt_or_ge k s.size with hlt | hge
    · have hgb := get_bt s
      have r0 := bt_nonneg s k
      have r1 := bt_le s k
      have i3 : (k : Int) < 9223372036854775807 := by omega
      have HA := Lib.hid hadd
      have hlen : (l ++ ([34] ++ qfrom s k)).length = l.length + 1 + (qfrom s k).length := by simp; omega
      cases hodd : odd (bt s k)
      · obtain ⟨q1, q2, q3, q4⟩ := odd_iff hodd
        have hqb : qb (bt s k) = [UInt8.ofNat (bt s k).toNat] := by unfold qb; rw [hodd]; rfl
        have b1 : decide (bt s k < 32) = false := decide_eq_false (by omega)
        have b2 : decide (126 < bt s k) = false := decide_eq_false (by omega)
        have b3 : (bt s k == 34) = false := beq_eq_false_iff_ne.2 q3
        have b4 : (bt s k == 92) = false := beq_eq_false_iff_ne.2 q4
        have ho2 := hadd.1.below (Below.alloc (Below.refl wr.heap.size wr) (Nat.le_refl _) (.cells #[.int .u8 (bt s k)] 5))
        have hsr2 := src_blk (Blk.new wr 5 #[.int .u8 (bt s k)]) [UInt8.ofNat (bt s k).toNat] (byte_cell r0 r1).symm
        have HQ := Lib.hid hqb
        clear hadd hodd hqb ho hsr
        go_wp2_with (at_builtin; refine wpList_addB rfl _ _ rfl rfl ho2 rfl hsr2 (by exact Nat.zero_lt_one) (by simp; omega) (by rw [hlen]; simp; omega) ?_; intro v3 w3 ha3)
        go_roundw
        case rel =>
          refine ⟨k + 1, v3, by omega, by go_num, rfl, ?_⟩
          rw [qfrom_succ, HQ.out, ← List.append_assoc]
          exact HA.out.trans (ha3.pre (Below.alloc (Below.refl wr.heap.size wr) (Nat.le_refl _) _))
        case measure => simp [intOf]; omega
      · have hqb : qb (bt s k) = [92, hexd (bt s k / 16).toNat, hexd (bt s k % 16).toNat] := by unfold qb; rw [hodd]; rfl
        have hsh : (bt s k) >>> 4 = bt s k / 16 := by rw [Int.shiftRight_eq_div_pow]; rfl
        have han := and15 s k
        have hxl := hex_lit
        have m0 : 0 ≤ bt s k / 16 := by omega
        have m1 : bt s k / 16 < 16 := by omega
        have m2 : 0 ≤ bt s k % 16 := by omega
        have m3 : bt s k % 16 < 16 := by omega
        have H2 := Lib.hid hqb
        have OD := Lib.hid hodd
        have hcase : (decide (bt s k < 32) = true) ∨ (decide (bt s k < 32) = false ∧ decide (126 < bt s k) = true) ∨ (decide (bt s k < 32) = false ∧ decide (126 < bt s k) = false ∧ (bt s k == 34) = true) ∨ (decide (bt s k < 32) = false ∧ decide (126 < bt s k) = false ∧ (bt s k == 34) = false ∧ (bt s k == 92) = true) := by
          unfold odd at hodd
          revert hodd
          cases decide (bt s k < 32) <;> cases decide (126 < bt s k) <;> cases (bt s k == 34) <;> cases (bt s k == 92) <;> simp
        have ho2 := hadd.1.below (((Below.refl wr.heap.size wr).drew).alloc (Nat.le_refl _) (.cells #[.int .u8 92, .int .u8 (hexd (bt s k / 16).toNat).toNat, .int .u8 (hexd (bt s k % 16).toNat).toNat] 5))
        have hsr2 := src_blk (Blk.new wr.drew 5 #[.int .u8 92, .int .u8 (hexd (bt s k / 16).toNat).toNat, .int .u8 (hexd (bt s k % 16).toNat).toNat]) [92, hexd (bt s k / 16).toNat, hexd (bt s k % 16).toNat] rfl
        have hbr2 : base ≤ (wr.drew.alloc (.cells #[.int .u8 92, .int .u8 (hexd (bt s k / 16).toNat).toNat, .int .u8 (hexd (bt s k % 16).toNat).toNat] 5)).heap.size := by simp; omega
        clear hadd hqb ho hsr hodd
        rcases hcase with b1 | ⟨b1, b2⟩ | ⟨b1, b2, b3⟩ | ⟨b1, b2, b3, b4⟩
        all_goals
          go_upto_region 7 with fail
          go_region_law ((refine step_addB (by rfl) _ _ (by rfl) (by rfl) ho2 (by rfl) hsr2 (by exact Nat.zero_lt_succ _) hbr2 (by rw [hlen]; simp; omega) ?_); intro v3 w3 ha3)
        all_goals
          go_wp2_with fail
          go_roundw
          case rel =>
            refine ⟨k + 1, v3, by omega, by go_num, rfl, ?_⟩
            rw [qfrom_succ, H2.out, ← List.append_assoc]
            exact HA.out.trans (ha3.pre (((Below.refl wr.heap.size wr).drew).alloc (Nat.le_refl _) _))
          case measure => simp [intOf]; omega
    · obtain rfl : k = s.size := by omega
      have ho2 := hadd.1.below (Below.alloc (Below.refl wr.heap.size wr) (Nat.le_refl _) (.cells #[.int .u8 34] 5))
      have hsr2 := src_blk (Blk.new wr 5 #[.int .u8 34]) [34] rfl
      have HA := Lib.hid hadd
      have hlen : (l ++ ([34] ++ qfrom s s.size)).length = l.length + 1 + (qfrom s s.size).length := by simp; omega
      clear hadd ho hsr
      go_wp2_with (at_builtin; refine wpList_addB rfl _ _ rfl rfl ho2 rfl hsr2 (by decide) (by simp; omega) (by rw [hlen]; simp; omega) ?_; intro v3 w3 ha3)
      go_ret
      exact ⟨_, rfl, HA.out.trans (ha3.pre (Below.alloc (Below.refl wr.heap.size wr) (Nat.le_refl _) _))⟩
end
end Go.Proofs.YtkcfgcdlnojaeaaGreatDoor.QuoteAll

namespace Go.Proofs.YtkcfgcdlnojaeaaGreatDoor.LayNum
open Go.Shelf
set_option maxRecDepth 100000

def ren : Go.Shelf.Ren := ⟨fun | 249 => 121 | 288 => 146 | 283 => 163 | 284 => 164 | 285 => 165 | 286 => 166 | 129 => 185 | 317 => 186 | 318 => 187 | 319 => 188 | 320 => 189 | 337 => 204 | 338 => 205 | n => n, fun | 37 => 82 | 2 => 2 | 3 => 3 | 53 => 24 | 4 => 4 | 9 => 9 | 171 => 215 | 0 => 0 | 173 => 218 | 212 => 241 | 51 => 228 | 5 => 5 | 20 => 20 | 213 => 242 | 46 => 175 | 232 => 272 | 233 => 273 | n => n, fun | 17 => 5 | 18 => 6 | 19 => 7 | n => n⟩
theorem lays : LaysM.n249 Tryz.prog ren := {
  mixed := by kernel_rfl,
  f129 := Tryz.func185.trans (congrArg some (by kernel_rfl)),
  f249 := Tryz.func121.trans (congrArg some (by kernel_rfl)),
  f283 := Tryz.func163.trans (congrArg some (by kernel_rfl)),
  f284 := Tryz.func164.trans (congrArg some (by kernel_rfl)),
  f285 := Tryz.func165.trans (congrArg some (by kernel_rfl)),
  f286 := Tryz.func166.trans (congrArg some (by kernel_rfl)),
  f288 := Tryz.func146.trans (congrArg some (by kernel_rfl)),
  f317 := Tryz.func186.trans (congrArg some (by kernel_rfl)),
  f318 := Tryz.func187.trans (congrArg some (by kernel_rfl)),
  f319 := Tryz.func188.trans (congrArg some (by kernel_rfl)),
  f320 := Tryz.func189.trans (congrArg some (by kernel_rfl)),
  f337 := Tryz.func204.trans (congrArg some (by kernel_rfl)),
  f338 := Tryz.func205.trans (congrArg some (by kernel_rfl)),
  t0 := Tryz.underlying0,
  a0 := Tryz.isAgg0,
  z0 := Tryz.sizeOf0,
  v0 := Tryz.zeroValue0,
  t2 := Tryz.underlying2,
  a2 := Tryz.isAgg2,
  z2 := Tryz.sizeOf2,
  v2 := Tryz.zeroValue2,
  t3 := Tryz.underlying3,
  a3 := Tryz.isAgg3,
  z3 := Tryz.sizeOf3,
  v3 := Tryz.zeroValue3,
  t4 := Tryz.underlying4,
  a4 := Tryz.isAgg4,
  z4 := Tryz.sizeOf4,
  v4 := Tryz.zeroValue4,
  t5 := Tryz.underlying5,
  a5 := Tryz.isAgg5,
  z5 := Tryz.sizeOf5,
  v5 := Tryz.zeroValue5,
  t9 := Tryz.underlying9,
  a9 := Tryz.isAgg9,
  z9 := Tryz.sizeOf9,
  v9 := Tryz.zeroValue9,
  t20 := Tryz.underlying20,
  a20 := Tryz.isAgg20,
  z20 := Tryz.sizeOf20,
  v20 := Tryz.zeroValue20,
  t37 := Tryz.underlying82,
  a37 := Tryz.isAgg82,
  z37 := Tryz.sizeOf82,
  v37 := Tryz.zeroValue82,
  t46 := Tryz.underlying175,
  a46 := Tryz.isAgg175,
  z46 := Tryz.sizeOf175,
  v46 := Tryz.zeroValue175,
  t51 := Tryz.underlying228,
  a51 := Tryz.isAgg228,
  z51 := Tryz.sizeOf228,
  v51 := Tryz.zeroValue228,
  t53 := Tryz.underlying24,
  a53 := Tryz.isAgg24,
  z53 := Tryz.sizeOf24,
  v53 := Tryz.zeroValue24,
  t171 := Tryz.underlying215,
  a171 := Tryz.isAgg215,
  z171 := Tryz.sizeOf215,
  v171 := Tryz.zeroValue215,
  t173 := Tryz.underlying218,
  a173 := Tryz.isAgg218,
  z173 := Tryz.sizeOf218,
  v173 := Tryz.zeroValue218,
  t212 := Tryz.underlying241,
  a212 := Tryz.isAgg241,
  z212 := Tryz.sizeOf241,
  v212 := Tryz.zeroValue241,
  t213 := Tryz.underlying242,
  a213 := Tryz.isAgg242,
  z213 := Tryz.sizeOf242,
  t232 := Tryz.underlying272,
  a232 := Tryz.isAgg272,
  z232 := Tryz.sizeOf272,
  v232 := Tryz.zeroValue272,
  t233 := Tryz.underlying273,
  a233 := Tryz.isAgg273,
  z233 := Tryz.sizeOf273,
  v233 := Tryz.zeroValue273,
  g17 := by kernel_rfl,
  g18 := by kernel_rfl,
  g19 := by kernel_rfl,
  i0 := by kernel_rfl,
  i2 := by kernel_rfl,
  i3 := by kernel_rfl,
  i4 := by kernel_rfl,
  i5 := by kernel_rfl,
  i9 := by kernel_rfl,
  i20 := by kernel_rfl,
  i37 := by kernel_rfl,
  i46 := by kernel_rfl,
  i51 := by kernel_rfl,
  i53 := by kernel_rfl,
  i171 := by kernel_rfl,
  i173 := by kernel_rfl,
  i212 := by kernel_rfl,
  i232 := by kernel_rfl,
  i233 := by kernel_rfl,
  m17 := by kernel_rfl,
  m18 := by kernel_rfl,
  m19 := by kernel_rfl }
end Go.Proofs.YtkcfgcdlnojaeaaGreatDoor.LayNum

namespace Go.Proofs.YtkcfgcdlnojaeaaGreatDoor.NumAll
set_option maxRecDepth 100000
open Go.RowKit Go.PlainAid Base Bytes Digits

/-- The powers of ten lie where they were laid, whatever is written from base on. -/
def Pow (base : Nat) (w : World) : Prop := Lib.TabBelow Tryz.prog base w "internal/strconv.uint64pow10" .u64 Lib.pow10Tab
theorem Pow.on {base : Nat} {w w' : World} (h : Pow base w) (hb : Below base w w') : Pow base w' := Lib.TabBelow.on h hb
theorem AddB.below {base : Nat} {w w' : World} {v v' : Value} {l m : List UInt8} (h : AddB base w v l m v' w') (ho : Byt w base v l) (hb : base ≤ w.heap.size) : Below base w w' := below_own (Below.refl base w) ho hb h.2.1
theorem Pow.add {base : Nat} {w w' : World} {v v' : Value} {l m : List UInt8} (h : Pow base w) (ha : AddB base w v l m v' w') (ho : Byt w base v l) (hb : base ≤ w.heap.size) : Pow base w' := h.on (NumAll.AddB.below ha ho hb)

theorem digs_dd (n : Nat) : digs n = Lib.decDigits n := by
  induction n using Nat.strongRecOn with
  | _ n ih =>
    rw [digs, Lib.decDigits]
    split
    · rfl
    · rw [ih (n / 10) (by omega)]

theorem dlen {n : Nat} (h : n < 18446744073709551616) : 0 < (Lib.decDigits n).length ∧ (Lib.decDigits n).length ≤ 20 := by
  rw [Lib.decDigits_length]
  have := Lib.nDigits_pos n
  by_cases h0 : n < 1
  · rw [Lib.nDigits_small (by omega)]; omega
  · have h1 := Lib.numDigits_eq n (by omega) h
    split at h1 <;> omega

section
variable {base : Nat} {w : World} {v : Value} {l : List UInt8}
set_option maxHeartbeats 4000000 in
theorem uint_small (n : Nat) (h : n < 100) (hown : Byt w base v l) (hb : base ≤ w.heap.size) (hl : l.length ≤ 70368744177664) :
    Calls Tryz.prog 146 #[v, .int .u64 n, .int .i64 10] w (Adds base w v l (Lib.decDigits n)) := by
  have SA : RowKit.Hid (Calls Tryz.prog 163 #[.int .i64 n] w fun e w' => e = .returned (.string ⟨(Lib.decDigits n).toArray⟩) ∧ w' = w) := Lib.hid (Any.internal_strconv_small { LayNum.lays with } n h w)
  have hd : decide ((n : Int) < 100) = true := decide_eq_true (by omega)
  obtain ⟨d0, d1⟩ := dlen (n := n) (by omega)
  obtain ⟨m, hm⟩ : ∃ m, m = Lib.decDigits n := ⟨_, rfl⟩
  rw [← hm] at SA d0 d1 ⊢
  have h2 : (n : Int) < 100 := by omega
  clear hm
  go_enter Tryz.func146, Tryz.ntmps146
  go_wp2_with (first | (go_at_call 163; refine SA.out.mono ?_; rintro e w2 ⟨rfl, rfl⟩) | (at_builtin; refine wpList_addB rfl _ _ rfl rfl hown rfl (src_str m) d0 hb (by omega) ?_; intro v' w' hadd))
  go_ret
  exact ⟨_, rfl, hadd⟩

set_option maxHeartbeats 8000000 in
theorem uint_big (n : Nat) (h : 100 ≤ n) (h64 : n < 18446744073709551616) (hown : Byt w base v l) (hb : base ≤ w.heap.size) (hl : l.length ≤ 70368744177664) (ht : Pow base w) :
    Calls Tryz.prog 146 #[v, .int .u64 n, .int .i64 10] w (Adds base w v l (Lib.decDigits n)) := by
  obtain ⟨d0, d1⟩ := dlen h64
  have hnd : (Lib.decDigits n).length = Lib.nDigits n := Lib.decDigits_length n
  have hnd20 : Lib.nDigits n ≤ 20 := by omega
  have hal : Tryz.prog.arrayLen 215 = 24 := by simp [Program.arrayLen, Tryz.underlying215]
  have hsl : ∀ W, (Instr.sliceAt 215 (.pointer (some ⟨w.heap.size, 0, none⟩)) none (some (.int .i64 (Lib.nDigits n : Int))) none).run Tryz.prog W = .ok (.slice (some ⟨w.heap.size, 0, none⟩) (Lib.nDigits n) 24) W := fun W => by
    rw [run_sliceAt_array_h W 215 ⟨w.heap.size, 0, none⟩ (by simp [Program.arrayLen, Program.elem, Tryz.underlying215]) .i64 (Lib.nDigits n : Int) (by omega) (by rw [hal]; omega)]
    go_simp
  have hH0 := Lib.holds_zero0 w 215 (Lib.nDigits n) (by omega)
  have hfmt := Any.internal_strconv_formatBase10 (P := Tryz.prog) (ρ := LayNum.ren) { LayNum.lays with } w.heap.size 0 24 n (Array.replicate (Lib.nDigits n) 0) (w.alloc (.cells Lib.zeros24 215)) hH0 (by rw [Array.size_replicate]; exact Lib.lt_pow_nDigits n) h64 (by rw [Array.size_replicate]; omega)
  rw [Array.size_replicate] at hfmt
  have FM : RowKit.Hid (Calls Tryz.prog 165 #[.slice (some ⟨w.heap.size, 0, none⟩) (Lib.nDigits n) 24, .int .u64 n] (w.alloc (.cells Lib.zeros24 215)) fun e w' => e = .returned (.tuple #[]) ∧ Below w.heap.size w w' ∧ ∀ j u, (Base.byteCells (Lib.decDigits n))[j]? = some u → w'.cell? ((⟨w.heap.size, 0, none⟩ : Addr).add j) = some u) := Lib.hid (hfmt.mono (by
    rintro e w' ⟨rfl, k, v', dk, rfl, hF⟩
    refine ⟨rfl, ?_, fun j u' hj => ?_⟩
    · obtain ⟨os, eo⟩ := Lib.fin_at w (.cells Lib.zeros24 215) dk k 0
      rw [eo]
      exact Lib.below_grow w.heap.size w (Nat.le_refl _) k os
    · have hjl : j < (Lib.decDigits n).length := by
        have h5 := (List.getElem?_eq_some_iff.1 hj).1
        rwa [bc_len] at h5
      have e5 : (Base.byteCells (Lib.decDigits n))[j]? = some (Value.int .u8 ((Lib.decDigits n)[j].toNat : Int)) := by simp [Base.byteCells, hjl]
      rw [e5] at hj
      cases hj
      rw [Lib.row_is_numeral hF j hjl, Lib.add_plain, World.cell?_drewN]
      exact Go.Sort.cell?_putRow (fun (b : UInt8) => Value.int .u8 (b.toNat : Int)) _ w.heap.size 0 _ dk hH0 (by rw [hF.size, Array.size_replicate]) j (by rw [hF.size]; omega)))
  have ND : RowKit.Hid (∀ W, Below base w W → Calls Tryz.prog 164 #[.int .u64 n] W fun e w' => e = .returned (.int .i64 (Lib.nDigits n)) ∧ w' = W) := Lib.hid (fun W hW => Any.internal_strconv_numDigits { LayNum.lays with } n (by omega) h64 W (ht.on hW).here)
  clear hfmt hH0
  have h2 : (100 : Int) ≤ (n : Int) := by omega
  go_enter Tryz.func146, Tryz.ntmps146
  go_wp2_with (first | (go_at_call 164; refine (ND.out _ ((Below.refl base w).alloc hb _)).mono ?_; rintro e w2 ⟨rfl, rfl⟩))
  go_at_call 165
  refine FM.out.mono ?_
  rintro e w3 ⟨rfl, hb3, hc3⟩
  have ho3 := hown.below hb3
  have hs3 : Src Tryz.prog 1 82 (.slice (some ⟨w.heap.size, 0, none⟩) (Lib.nDigits n) 24) (Lib.decDigits n).length (Base.byteCells (Lib.decDigits n)) w3 := by
    rw [hnd]
    refine Src.ofSlice (P := Tryz.prog) _ u8und ⟨w.heap.size, 0, none⟩ (Lib.nDigits n) 24 (Base.byteCells (Lib.decDigits n)) (by rw [bc_len, hnd, Nat.mul_one]) hc3 (fun u hu => ?_)
    unfold Base.byteCells at hu
    obtain ⟨_, _, rfl⟩ := List.mem_map.1 hu
    rfl
  have hbase3 : base ≤ w3.heap.size := Nat.le_trans hb hb3.size
  clear hc3
  generalize Lib.decDigits n = m at *
  go_wp2_with (at_builtin; refine wpList_addB rfl _ _ rfl rfl ho3 rfl hs3 d0 hbase3 (by omega) ?_; intro v' w' hadd)
  go_ret
  exact ⟨_, rfl, hadd.pre hb3⟩

theorem uint_any (n : Nat) (h : n < 18446744073709551616) (hown : Byt w base v l) (hb : base ≤ w.heap.size) (hl : l.length ≤ 70368744177664) (ht : Pow base w) :
    Calls Tryz.prog 146 #[v, .int .u64 n, .int .i64 10] w (Adds base w v l (Lib.decDigits n)) := by
  by_cases h2 : n < 100
  · exact uint_small n h2 hown hb hl
  · exact uint_big n (by omega) h hown hb hl ht

set_option maxHeartbeats 1000000 in
theorem sUint_any (n : Nat) (h : n < 18446744073709551616) (hown : Byt w base v l) (hb : base ≤ w.heap.size) (hl : l.length ≤ 70368744177664) (ht : Pow base w) :
    Calls Tryz.prog 120 #[v, .int .u64 n, .int .i64 10] w (Adds base w v l (Lib.decDigits n)) := by
  have SA := Lib.hid (uint_any n h hown hb hl ht)
  go_enter Tryz.func120, Tryz.ntmps120
  go_wp2_with (go_at_call 146; refine SA.out.mono ?_; rintro e w2 ⟨v', rfl, hadd⟩)
  go_ret
  exact ⟨_, rfl, hadd⟩

set_option maxHeartbeats 1000000 in
theorem int_any (n : Nat) (h : n < 9223372036854775808) (hown : Byt w base v l) (hb : base ≤ w.heap.size) (hl : l.length ≤ 70368744177664) (ht : Pow base w) :
    Calls Tryz.prog 121 #[v, .int .i64 n, .int .i64 10] w (Adds base w v l (Lib.decDigits n)) := by
  have SA := Lib.hid (uint_any n (by omega) hown hb hl ht)
  have hd : decide ((n : Int) < 0) = false := decide_eq_false (by omega)
  have hw : IntKind.u64.wrap (n : Int) = (n : Int) := by show (n : Int) % 18446744073709551616 = n; omega
  clear hown
  go_enter Tryz.func121, Tryz.ntmps121
  go_wp2_with (go_at_call 146; refine SA.out.mono ?_; rintro e w2 ⟨v', rfl, hadd⟩)
  go_ret
  exact ⟨_, rfl, hadd⟩

set_option maxHeartbeats 1000000 in
theorem sInt_any (n : Nat) (h : n < 9223372036854775808) (hown : Byt w base v l) (hb : base ≤ w.heap.size) (hl : l.length ≤ 70368744177664) (ht : Pow base w) :
    Calls Tryz.prog 83 #[v, .int .i64 n, .int .i64 10] w (Adds base w v l (Lib.decDigits n)) := by
  have SA := Lib.hid (int_any n h hown hb hl ht)
  go_enter Tryz.func83, Tryz.ntmps83
  go_wp2_with (go_at_call 121; refine SA.out.mono ?_; rintro e w2 ⟨v', rfl, hadd⟩)
  go_ret
  exact ⟨_, rfl, hadd⟩

set_option maxHeartbeats 1000000 in
theorem number_any (n : Nat) (h : n < 9223372036854775808) (hown : Byt w base v l) (hb : base ≤ w.heap.size) (hl : l.length ≤ 35184372088832) (ht : Pow base w) :
    Calls Tryz.prog 80 #[v, .int .i64 n] w (Adds base w v l ([32] ++ Lib.decDigits n)) := by
  have hb1 : Below w.heap.size w (w.alloc (.cells #[.int .u8 32] 5)) := Below.alloc (Below.refl w.heap.size w) (Nat.le_refl _) _
  have ho := hown.below hb1
  have hsr := src_blk (Blk.new w 5 #[.int .u8 32]) [32] rfl
  have SA := Lib.hid (fun v' w' (ha : AddB base (w.alloc (.cells #[.int .u8 32] 5)) v l [32] v' w') => sInt_any n h ha.1 (by have := ha.2.1.size; simp at this; omega) (by simp; omega) ((ht.on (hb1.mono hb)).add ha ho (Nat.le_trans hb hb1.size)))
  clear hb1
  go_enter Tryz.func80, Tryz.ntmps80
  go_wp2_with (first | (at_builtin; refine wpList_addB rfl _ _ rfl rfl ho rfl hsr (by decide) (by simp; omega) (by simp; omega) ?_; intro v1 w1 ha1) | (go_at_call 83; refine (SA.out _ _ ha1).mono ?_; rintro e w2 ⟨v', rfl, hadd⟩))
  go_ret
  exact ⟨_, rfl, (ha1.trans hadd).pre (Below.alloc (Below.refl w.heap.size w) (Nat.le_refl _) _)⟩

set_option maxHeartbeats 1000000 in
theorem weight_any (n : Nat) (h : n < 18446744073709551616) (hown : Byt w base v l) (hb : base ≤ w.heap.size) (hl : l.length ≤ 35184372088832) (ht : Pow base w) :
    Calls Tryz.prog 81 #[v, .int .u64 n] w (Adds base w v l ([32] ++ Lib.decDigits n)) := by
  have hb1 : Below w.heap.size w (w.alloc (.cells #[.int .u8 32] 5)) := Below.alloc (Below.refl w.heap.size w) (Nat.le_refl _) _
  have ho := hown.below hb1
  have hsr := src_blk (Blk.new w 5 #[.int .u8 32]) [32] rfl
  have SA := Lib.hid (fun v' w' (ha : AddB base (w.alloc (.cells #[.int .u8 32] 5)) v l [32] v' w') => sUint_any n h ha.1 (by have := ha.2.1.size; simp at this; omega) (by simp; omega) ((ht.on (hb1.mono hb)).add ha ho (Nat.le_trans hb hb1.size)))
  clear hb1
  go_enter Tryz.func81, Tryz.ntmps81
  go_wp2_with (first | (at_builtin; refine wpList_addB rfl _ _ rfl rfl ho rfl hsr (by decide) (by simp; omega) (by simp; omega) ?_; intro v1 w1 ha1) | (go_at_call 120; refine (SA.out _ _ ha1).mono ?_; rintro e w2 ⟨v', rfl, hadd⟩))
  go_ret
  exact ⟨_, rfl, (ha1.trans hadd).pre (Below.alloc (Below.refl w.heap.size w) (Nat.le_refl _) _)⟩
end
end Go.Proofs.YtkcfgcdlnojaeaaGreatDoor.NumAll

namespace Go.Proofs.YtkcfgcdlnojaeaaGreatDoor.LineBase
set_option maxRecDepth 100000
open Go.RowKit Go.PlainAid Base Query BindBase Bytes Digits Quoted QuoteAll NumAll Rel Relb RelbT RelC TextLine

theorem own_lt {w : World} {base : Nat} {v : Value} {l : List UInt8} (h : Byt w base v l) (g : Nat) (hg : w.heap.size ≤ g) : some g ≠ v.ownBlock := by
  intro e
  have := h.lt g e.symm
  omega
theorem gb_post {w wx w' : World} {row : Option Nat} (h : w.grownBy wx row) (hb : Below wx.heap.size wx w') : w.grownBy w' row :=
  ⟨hb.os.trans h.os, hb.tape.trans h.tape, hb.output.trans h.output, Nat.le_trans h.size hb.size, fun k hk hne => (hb.block k (Nat.lt_of_lt_of_le hk h.size)).trans (h.block k hk hne)⟩

/-- A list of one byte, in a block. -/
def One (c : UInt8) (v : Value) (w : World) : Prop := ∃ g, v = .slice (some ⟨g, 0, none⟩) 1 1 ∧ g < w.heap.size ∧ w.cell? ⟨g, 0, none⟩ = some (.int .u8 (c.toNat : Int))
theorem One.stays {c : UInt8} {v : Value} {w w' : World} (hle : Below w.heap.size w w' ∨ (w.heap.size ≤ w'.heap.size ∧ Heads 1 w w')) (h : One c v w) : One c v w' := by
  obtain ⟨g, e, hg, hc⟩ := h
  rcases hle with hb | ⟨h1, h2⟩
  · exact ⟨g, e, Nat.lt_of_lt_of_le hg hb.size, (hb.cell hg).trans hc⟩
  · exact ⟨g, e, Nat.lt_of_lt_of_le hg h1, (h2 g 0 hg Nat.zero_lt_one).trans hc⟩
theorem one_new (w : World) (c : UInt8) (x : Int) (hx : x = (c.toNat : Int)) : One c (.slice (some ⟨w.heap.size, 0, none⟩) 1 1) (w.alloc (.cells #[.int .u8 x] 5)) := by
  subst hx
  exact ⟨w.heap.size, rfl, by simp, by rw [World.cell?_alloc_mark]; rfl⟩
theorem src_one {w : World} {g : Nat} {c : UInt8} (hc : w.cell? ⟨g, 0, none⟩ = some (.int .u8 (c.toNat : Int))) : Src Tryz.prog 1 82 (.slice (some ⟨g, 0, none⟩) 1 1) [c].length (Base.byteCells [c]) w :=
  Src.ofSlice (P := Tryz.prog) _ u8und ⟨g, 0, none⟩ 1 1 (Base.byteCells [c]) (by rw [bc_len]; rfl)
    (fun j u hu => by
      match j, hu with
      | 0, hu =>
        rw [Addr.add_lit, hc]
        exact hu)
    (fun u hu => by
      unfold Base.byteCells at hu
      obtain ⟨_, _, rfl⟩ := List.mem_map.1 hu
      rfl)

/-- The first i of some texts, put together. -/
def preL (L : List (List UInt8)) (i : Nat) : List UInt8 := (L.take i).flatten
theorem preL_succ {L : List (List UInt8)} {i : Nat} {m : List UInt8} (h : L[i]? = some m) : preL L (i + 1) = preL L i ++ m := by simp [preL, List.take_add_one, h]
theorem preL_len (L : List (List UInt8)) (i : Nat) : (preL L i).length ≤ L.flatten.length := by
  have h : L.flatten = preL L i ++ (L.drop i).flatten := by unfold preL; rw [← List.flatten_append, List.take_append_drop]
  rw [h, List.length_append]
  omega
theorem preL_le {L : List (List UInt8)} {i n N : Nat} {l : List UInt8} (h : l.length + L.flatten.length ≤ N) (hn : N ≤ n) : (l ++ preL L i).length ≤ n := by
  rw [List.length_append]
  have := preL_len L i
  omega
theorem preL_add {L : List (List UInt8)} {i k n N : Nat} {l : List UInt8} (h : l.length + L.flatten.length ≤ N) (hn : N + k ≤ n) : (l ++ preL L i).length + k ≤ n := by
  rw [List.length_append]
  have := preL_len L i
  omega
theorem chain_next {base : Nat} {w4 wx w' : World} {v4 x v' : Value} {l4 m : List UInt8} {L : List (List UInt8)} {i : Nat} (hm : L[i]? = some m) (hg : AddB base w4 v4 l4 (preL L i) x wx) (had : AddB base wx x (l4 ++ preL L i) m v' w') (hl : 1 ≤ l4.length) :
    w4.grownBy w' v4.ownBlock ∧ (wx.heap.size ≤ w'.heap.size ∧ Heads 1 wx w') ∧ AddB base w4 v4 l4 (preL L (i + 1)) v' w' := by
  have h := hg.trans had
  rw [preL_succ hm]
  exact ⟨h.2.1, ⟨had.2.1.size, fun g i hgs hi => had.2.2.2 g i hgs (by rw [List.length_append]; omega)⟩, h⟩

section
variable {base : Nat} {w : World} {v : Value} {l : List UInt8}
theorem number_int (x : Int) (h0 : 0 ≤ x) (h1 : x < 9223372036854775808) (hown : Byt w base v l) (hb : base ≤ w.heap.size) (hl : l.length ≤ 35184372088832) (ht : Pow base w) :
    Calls Tryz.prog 80 #[v, .int .i64 x] w (Adds base w v l (num x)) := by
  obtain ⟨n, rfl⟩ : ∃ n : Nat, x = n := ⟨x.toNat, (Int.toNat_of_nonneg h0).symm⟩
  exact number_any n (by omega) hown hb hl ht
theorem weight_int (x : Int) (h0 : 0 ≤ x) (h1 : x < 18446744073709551616) (hown : Byt w base v l) (hb : base ≤ w.heap.size) (hl : l.length ≤ 35184372088832) (ht : Pow base w) :
    Calls Tryz.prog 81 #[v, .int .u64 x] w (Adds base w v l (num x)) := by
  obtain ⟨n, rfl⟩ : ∃ n : Nat, x = n := ⟨x.toNat, (Int.toNat_of_nonneg h0).symm⟩
  exact weight_any n (by omega) hown hb hl ht
theorem int_int (x : Int) (h0 : 0 ≤ x) (h1 : x < 9223372036854775808) (hown : Byt w base v l) (hb : base ≤ w.heap.size) (hl : l.length ≤ 70368744177664) (ht : Pow base w) :
    Calls Tryz.prog 83 #[v, .int .i64 x, .int .i64 10] w (Adds base w v l (Lib.decDigits x.toNat)) := by
  obtain ⟨n, rfl⟩ : ∃ n : Nat, x = n := ⟨x.toNat, (Int.toNat_of_nonneg h0).symm⟩
  exact sInt_any n (by omega) hown hb hl ht
end

/-- A load that is known. -/
theorem wpList_load {P : Program} {ops : Array Oper} {rest : List Oper} {a : Act} {w : World} {Q : Exit → Act → World → Prop} {dst : Option Tmp} {ty t : TypeId} {x : Operand} {pos : String} {after : Array Edge} (ad : Addr) (v : Value)
    (hx : a.eval x = .pointer (some ad)) (hv : (loadVar ty ad).run P w = .ok v w) (h : wpList P ops Q rest (a.put dst v) w) : wpList P ops Q (⟨dst, .load ty x, t, pos, after, none⟩ :: rest) a w :=
  wpList_plain rfl fun K hK => by
    unfold Oper.wp execOp
    simp only [hx, Instr.loadAt, Instr.sureAddr, Sem.run_bind, Sem.run_pure, Result.andThen_ok, hv]
    exact hK _ _ h
theorem load_blk {P : Program} {w : World} {g : Nat} {t ty : TypeId} {cs : Array Value} (d : TypeDesc) (hb : Blk w g t cs) (hu : P.underlying ty = some d) (hd : (match d with | .struct _ | .array _ _ => true | _ => false) = true) (hi : (P.info? ty).map (·.size) = some cs.size) :
    (loadVar ty ⟨g, 0, none⟩).run P w = .ok (.agg cs) w := run_loadVar_row w g t ty cs (0, 0) d hb hu hd hi
/-- Bytes in the block that was just made, at a number that is its. -/
theorem src_last {g : Nat} (w : World) (m : List UInt8) (cs : Array Value) (hg : g = w.heap.size) (h : cs.toList = Base.byteCells m) : Src Tryz.prog 1 82 (.slice (some ⟨g, 0, none⟩) m.length m.length) m.length (Base.byteCells m) (w.alloc (.cells cs 5)) := by
  subst hg
  exact src_new w m cs h
theorem qInfo : (Tryz.prog.info? 29).map (·.size) = some 15 := by kernel_rfl
end Go.Proofs.YtkcfgcdlnojaeaaGreatDoor.LineBase

namespace Go.Proofs.YtkcfgcdlnojaeaaGreatDoor.EndWalk
set_option maxRecDepth 100000
open Go.RowKit Go.PlainAid Base Query BindBase Bytes Digits Quoted QuoteAll NumAll Rel Relb RelbT RelC TextLine LineBase

section
variable {base : Nat} {w : World} {v : Value} {l : List UInt8}
set_option maxHeartbeats 4000000 in
theorem end_any (b : Bnd) (h1 : 1 ≤ l.length) (hs : b.text.size ≤ 1099511627776) (hown : Byt w base v l) (hb : base ≤ w.heap.size) (hl : l.length ≤ 21990232555520) :
    Calls Tryz.prog 84 #[v, .agg #[.bool b.op, .bool b.inn, .string b.text]] w (Adds base w v l (endL b)) := by
  obtain ⟨o, i, t⟩ := b
  simp only at hs ⊢
  cases o <;> cases i
  · -- The end is open on this side: not in it.
    obtain ⟨w4, hw4⟩ : ∃ W, W = w.alloc (.cells #[.bool false, .bool false, .string t] 26) := ⟨_, rfl⟩
    have K1 : Blk w4 w.heap.size 26 #[.bool false, .bool false, .string t] := by rw [hw4]; exact Blk.new w _ _
    have hsz : w.heap.size + 1 = w4.heap.size := by rw [hw4]; simp
    have hbW : Below w.heap.size w w4 := by rw [hw4]; (repeat (first | exact Below.refl _ _ | assumption | refine balloc ?_ _ | refine bdrew ?_ | refine bdrewN ?_ _ | refine bchain ?_ (by assumption)))
    have H4 := Lib.hid (hown.below hbW)
    have hb4 : base ≤ w4.heap.size := Nat.le_trans hb hbW.size
    have hne4 : some w.heap.size ≠ v.ownBlock := own_lt hown _ (Nat.le_refl _)
    have qcell : ∀ {wx : World} (hx : w4.grownBy wx v.ownBlock) (j : Nat) (u : Value) (_ : (#[.bool false, .bool false, .string t] : Array Value)[j]? = some u), wx.cell? ⟨w.heap.size, j, none⟩ = some u := fun hx j u hu => ((K1.grown hx hne4).cell j).trans hu
    obtain ⟨L, hL⟩ : ∃ L : List (List UInt8), L = [[33], quoteL t] := ⟨_, rfl⟩
    have M0 := Lib.hid (show L[0]? = some ([33]) by rw [hL]; rfl)
    have M1 := Lib.hid (show L[1]? = some (quoteL t) by rw [hL]; rfl)
    have HL4 := Lib.hid (show l.length + L.flatten.length ≤ 26388279066624 by rw [hL]; have := quote_len t; simp; omega)
    have H1 := Lib.hid h1
    have HW := Lib.hid hw4
    have HE := Lib.hid (show preL L 2 = endL ⟨false, false, t⟩ by rw [hL]; simp [preL, endL])
    clear hL h1
    go_enter Tryz.func84, Tryz.ntmps84
    go_upto_region 5 with fail
    rw [← HW.out]
    clear hw4 hsz
    refine RelC.wp_region_relc 6 (fun wx => w4.grownBy wx v.ownBlock) (fun wa wb => Below wa.heap.size wa wb) (fun wa wb => wa.heap.size ≤ wb.heap.size ∧ Heads 1 wa wb) [2, 5] (fun i x wx => AddB base w4 v l (preL L i) x wx) v (by kernel_rfl) (by kernel_rfl) (by kernel_rfl) (by simp) (by kernel_rfl) ⟨rfl, rfl, rfl, Nat.le_refl _, fun _ _ _ => rfl⟩ ((AddB.refl H4.out).post (bdrew (Below.refl _ _))) (fun _ _ _ _ hle h => h.post hle) ?_
    simp only [List.take_succ_cons, List.take_zero, List.drop_succ_cons, List.drop_zero]
    apply RelC.relc_one 1 [] rfl (by kernel_rfl) (by kernel_rfl) (by rfl)
    case hs =>
      intro vv wx hx hf
      clear hf
      try simp only [Relb.putD, Act.put, Base.s1, Base.s2, Base.s3]
      intro KK hK
      go_simp
      exact hK _ _ hx (Below.refl _ _) rfl
    apply RelC.relc_kind 2 [] (One 33) rfl (by kernel_rfl) (by kernel_rfl) (by rfl) (fun _ _ _ hle h => One.stays hle h)
    case hs =>
      intro vv wx hx hf
      clear hf
      try simp only [Relb.putD, Act.put, Base.s1, Base.s2, Base.s3]
      intro KK hK
      go_simp
      exact hK _ _ (gb_post hx (Below.alloc (Below.refl _ _) (Nat.le_refl _) _)) (Below.alloc (Below.refl _ _) (Nat.le_refl _) _) (one_new wx 33 _ rfl)
    apply RelC.relc_chain 0 3 [(0, 20), (1, 21)] rfl (by kernel_rfl) (by kernel_rfl) (by rfl)
    case hs =>
      intro vv wx hx hf hg
      have e20 : vv 0 = _ := hf 0 (by simp)
      obtain ⟨g21, e21, h21, c21⟩ := hf 1 (by simp)
      replace e21 : vv 1 = _ := e21
      clear hf
      have q2 := qcell hx 2 (.string t) rfl
      try simp only [Relb.putD, e20, e21, Act.put, Base.s1, Base.s2, Base.s3]
      intro KK hK
      rw [if_pos (by rfl)]
      refine wp_addB _ _ (by rfl) (by rfl) hg.1 (by rfl) (src_one c21) (by decide) (Nat.le_trans hb4 hx.size) (preL_add HL4.out (by decide)) ?_
      intro v' w' had
      obtain ⟨n1, n2, n3⟩ := chain_next (i := 0) M0.out hg had H1.out
      exact hK _ _ n1 n2 n3
    apply RelC.relc_one 4 [] rfl (by kernel_rfl) (by kernel_rfl) (by rfl)
    case hs =>
      intro vv wx hx hf
      clear hf
      try simp only [Relb.putD, Act.put, Base.s1, Base.s2, Base.s3]
      intro KK hK
      go_simp
      exact hK _ _ hx (Below.refl _ _) rfl
    apply RelC.relc_one 5 [(3, 23)] rfl (by kernel_rfl) (by kernel_rfl) (by rfl)
    case hs =>
      intro vv wx hx hf
      have e23 : vv 3 = _ := hf 3 (by simp)
      clear hf
      have q2 := qcell hx 2 (.string t) rfl
      try simp only [Relb.putD, e23, Act.put, Base.s1, Base.s2, Base.s3]
      intro KK hK
      go_simp
      exact hK _ _ hx (Below.refl _ _) rfl
    apply RelC.relc_chain 1 6 [(2, 22), (4, 24)] rfl (by kernel_rfl) (by kernel_rfl) (by rfl)
    case hs =>
      intro vv wx hx hf hg
      have e24 : vv 4 = _ := hf 4 (by simp)
      clear hf
      have q2 := qcell hx 2 (.string t) rfl
      try simp only [Relb.putD, e24, Act.put, Base.s1, Base.s2, Base.s3]
      intro KK hK
      go_simp
      go_at_call 82
      refine (quoted_any t hg.1 (Nat.le_trans hb4 hx.size) (preL_add HL4.out (by have := hs; omega))).mono ?_
      rintro e w' ⟨v', rfl, had⟩
      obtain ⟨n1, n2, n3⟩ := chain_next (i := 1) M1.out hg had H1.out
      exact hK _ _ n1 n2 n3
    refine RelC.relc_end [(0, 20), (1, 21), (2, 22), (3, 23), (4, 24), (5, 25)] (by kernel_rfl) (by kernel_rfl) ?_
    intro vv wx hx hf hg
    have e20 : vv 0 = _ := hf 0 (by decide)
    obtain ⟨g21, e21, h21, c21⟩ := hf 1 (by decide)
    replace e21 : vv 1 = _ := e21
    have e23 : vv 3 = _ := hf 3 (by decide)
    have e24 : vv 4 = _ := hf 4 (by decide)
    clear hf
    simp only [Relb.putD, e20, e21, e23, e24, Act.put, Base.s1, Base.s2, Base.s3]
    have hg' : AddB base w4 v l (preL L 2) (vv 5) wx := hg
    clear hg
    generalize vv 5 = v9 at hg' ⊢
    rw [HE.out] at hg'
    go_wp2_with fail
    go_ret
    exact ⟨_, rfl, hg'.pre hbW⟩
  · -- The end is in it.
    obtain ⟨w4, hw4⟩ : ∃ W, W = w.alloc (.cells #[.bool false, .bool true, .string t] 26) := ⟨_, rfl⟩
    have K1 : Blk w4 w.heap.size 26 #[.bool false, .bool true, .string t] := by rw [hw4]; exact Blk.new w _ _
    have hsz : w.heap.size + 1 = w4.heap.size := by rw [hw4]; simp
    have hbW : Below w.heap.size w w4 := by rw [hw4]; (repeat (first | exact Below.refl _ _ | assumption | refine balloc ?_ _ | refine bdrew ?_ | refine bdrewN ?_ _ | refine bchain ?_ (by assumption)))
    have H4 := Lib.hid (hown.below hbW)
    have hb4 : base ≤ w4.heap.size := Nat.le_trans hb hbW.size
    have hne4 : some w.heap.size ≠ v.ownBlock := own_lt hown _ (Nat.le_refl _)
    have qcell : ∀ {wx : World} (hx : w4.grownBy wx v.ownBlock) (j : Nat) (u : Value) (_ : (#[.bool false, .bool true, .string t] : Array Value)[j]? = some u), wx.cell? ⟨w.heap.size, j, none⟩ = some u := fun hx j u hu => ((K1.grown hx hne4).cell j).trans hu
    obtain ⟨L, hL⟩ : ∃ L : List (List UInt8), L = [[61], quoteL t] := ⟨_, rfl⟩
    have M0 := Lib.hid (show L[0]? = some ([61]) by rw [hL]; rfl)
    have M1 := Lib.hid (show L[1]? = some (quoteL t) by rw [hL]; rfl)
    have HL4 := Lib.hid (show l.length + L.flatten.length ≤ 26388279066624 by rw [hL]; have := quote_len t; simp; omega)
    have H1 := Lib.hid h1
    have HW := Lib.hid hw4
    have HE := Lib.hid (show preL L 2 = endL ⟨false, true, t⟩ by rw [hL]; simp [preL, endL])
    clear hL h1
    go_enter Tryz.func84, Tryz.ntmps84
    go_upto_region 4 with fail
    rw [← HW.out]
    clear hw4 hsz
    refine RelC.wp_region_relc 6 (fun wx => w4.grownBy wx v.ownBlock) (fun wa wb => Below wa.heap.size wa wb) (fun wa wb => wa.heap.size ≤ wb.heap.size ∧ Heads 1 wa wb) [2, 5] (fun i x wx => AddB base w4 v l (preL L i) x wx) v (by kernel_rfl) (by kernel_rfl) (by kernel_rfl) (by simp) (by kernel_rfl) ⟨rfl, rfl, rfl, Nat.le_refl _, fun _ _ _ => rfl⟩ ((AddB.refl H4.out).post (bdrew (Below.refl _ _))) (fun _ _ _ _ hle h => h.post hle) ?_
    simp only [List.take_succ_cons, List.take_zero, List.drop_succ_cons, List.drop_zero]
    apply RelC.relc_one 1 [] rfl (by kernel_rfl) (by kernel_rfl) (by rfl)
    case hs =>
      intro vv wx hx hf
      clear hf
      try simp only [Relb.putD, Act.put, Base.s1, Base.s2, Base.s3]
      intro KK hK
      go_simp
      exact hK _ _ hx (Below.refl _ _) rfl
    apply RelC.relc_kind 2 [] (One 61) rfl (by kernel_rfl) (by kernel_rfl) (by rfl) (fun _ _ _ hle h => One.stays hle h)
    case hs =>
      intro vv wx hx hf
      clear hf
      try simp only [Relb.putD, Act.put, Base.s1, Base.s2, Base.s3]
      intro KK hK
      go_simp
      exact hK _ _ (gb_post hx (Below.alloc (Below.refl _ _) (Nat.le_refl _) _)) (Below.alloc (Below.refl _ _) (Nat.le_refl _) _) (one_new wx 61 _ rfl)
    apply RelC.relc_chain 0 3 [(0, 14), (1, 15)] rfl (by kernel_rfl) (by kernel_rfl) (by rfl)
    case hs =>
      intro vv wx hx hf hg
      have e14 : vv 0 = _ := hf 0 (by simp)
      obtain ⟨g15, e15, h15, c15⟩ := hf 1 (by simp)
      replace e15 : vv 1 = _ := e15
      clear hf
      have q2 := qcell hx 2 (.string t) rfl
      try simp only [Relb.putD, e14, e15, Act.put, Base.s1, Base.s2, Base.s3]
      intro KK hK
      rw [if_pos (by rfl)]
      refine wp_addB _ _ (by rfl) (by rfl) hg.1 (by rfl) (src_one c15) (by decide) (Nat.le_trans hb4 hx.size) (preL_add HL4.out (by decide)) ?_
      intro v' w' had
      obtain ⟨n1, n2, n3⟩ := chain_next (i := 0) M0.out hg had H1.out
      exact hK _ _ n1 n2 n3
    apply RelC.relc_one 4 [] rfl (by kernel_rfl) (by kernel_rfl) (by rfl)
    case hs =>
      intro vv wx hx hf
      clear hf
      try simp only [Relb.putD, Act.put, Base.s1, Base.s2, Base.s3]
      intro KK hK
      go_simp
      exact hK _ _ hx (Below.refl _ _) rfl
    apply RelC.relc_one 5 [(3, 17)] rfl (by kernel_rfl) (by kernel_rfl) (by rfl)
    case hs =>
      intro vv wx hx hf
      have e17 : vv 3 = _ := hf 3 (by simp)
      clear hf
      have q2 := qcell hx 2 (.string t) rfl
      try simp only [Relb.putD, e17, Act.put, Base.s1, Base.s2, Base.s3]
      intro KK hK
      go_simp
      exact hK _ _ hx (Below.refl _ _) rfl
    apply RelC.relc_chain 1 6 [(2, 16), (4, 18)] rfl (by kernel_rfl) (by kernel_rfl) (by rfl)
    case hs =>
      intro vv wx hx hf hg
      have e18 : vv 4 = _ := hf 4 (by simp)
      clear hf
      have q2 := qcell hx 2 (.string t) rfl
      try simp only [Relb.putD, e18, Act.put, Base.s1, Base.s2, Base.s3]
      intro KK hK
      go_simp
      go_at_call 82
      refine (quoted_any t hg.1 (Nat.le_trans hb4 hx.size) (preL_add HL4.out (by have := hs; omega))).mono ?_
      rintro e w' ⟨v', rfl, had⟩
      obtain ⟨n1, n2, n3⟩ := chain_next (i := 1) M1.out hg had H1.out
      exact hK _ _ n1 n2 n3
    refine RelC.relc_end [(0, 14), (1, 15), (2, 16), (3, 17), (4, 18), (5, 19)] (by kernel_rfl) (by kernel_rfl) ?_
    intro vv wx hx hf hg
    have e14 : vv 0 = _ := hf 0 (by decide)
    obtain ⟨g15, e15, h15, c15⟩ := hf 1 (by decide)
    replace e15 : vv 1 = _ := e15
    have e17 : vv 3 = _ := hf 3 (by decide)
    have e18 : vv 4 = _ := hf 4 (by decide)
    clear hf
    simp only [Relb.putD, e14, e15, e17, e18, Act.put, Base.s1, Base.s2, Base.s3]
    have hg' : AddB base w4 v l (preL L 2) (vv 5) wx := hg
    clear hg
    generalize vv 5 = v9 at hg' ⊢
    rw [HE.out] at hg'
    go_wp2_with fail
    go_ret
    exact ⟨_, rfl, hg'.pre hbW⟩
  · have hb1 : Below w.heap.size w (w.alloc (.cells #[.bool true, .bool false, .string t] 26)) := by (repeat (first | exact Below.refl _ _ | assumption | refine balloc ?_ _ | refine bdrew ?_ | refine bdrewN ?_ _ | refine bchain ?_ (by assumption)))
    have ho := (hown.below hb1).below (Below.alloc (Below.refl (w.alloc (.cells #[.bool true, .bool false, .string t] 26)).heap.size _) (Nat.le_refl _) (.cells #[.int .u8 42] 5))
    have hsr := src_blk (Blk.new (w.alloc (.cells #[.bool true, .bool false, .string t] 26)) 5 #[.int .u8 42]) [42] rfl
    rw [World.size_alloc] at hsr
    go_enter Tryz.func84, Tryz.ntmps84
    go_wp2_with (at_builtin; refine wpList_addB rfl _ _ rfl rfl ho rfl hsr (by decide) (by simp; omega) (by simp; omega) ?_; intro v1 w1 ha1)
    go_ret
    exact ⟨_, rfl, (ha1.pre (Below.alloc (Below.refl _ _) (Nat.le_refl _) _)).pre hb1⟩
  · have hb1 : Below w.heap.size w (w.alloc (.cells #[.bool true, .bool true, .string t] 26)) := by (repeat (first | exact Below.refl _ _ | assumption | refine balloc ?_ _ | refine bdrew ?_ | refine bdrewN ?_ _ | refine bchain ?_ (by assumption)))
    have ho := (hown.below hb1).below (Below.alloc (Below.refl (w.alloc (.cells #[.bool true, .bool true, .string t] 26)).heap.size _) (Nat.le_refl _) (.cells #[.int .u8 42] 5))
    have hsr := src_blk (Blk.new (w.alloc (.cells #[.bool true, .bool true, .string t] 26)) 5 #[.int .u8 42]) [42] rfl
    rw [World.size_alloc] at hsr
    go_enter Tryz.func84, Tryz.ntmps84
    go_wp2_with (at_builtin; refine wpList_addB rfl _ _ rfl rfl ho rfl hsr (by decide) (by simp; omega) (by simp; omega) ?_; intro v1 w1 ha1)
    go_ret
    exact ⟨_, rfl, (ha1.pre (Below.alloc (Below.refl _ _) (Nat.le_refl _) _)).pre hb1⟩
end
end Go.Proofs.YtkcfgcdlnojaeaaGreatDoor.EndWalk
