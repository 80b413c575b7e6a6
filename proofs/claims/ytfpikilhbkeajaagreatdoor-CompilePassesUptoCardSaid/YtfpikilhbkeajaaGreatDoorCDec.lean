/-
  The codec's reader: how much is left, a byte, a uvarint.
  isa.Decode of the bytes of instructions that can be encoded.
-/
import Derived.Test.YtfpikilhbkeajaaGreatDoorCTab
import Derived.Test.YtfpikilhbkeajaaGreatDoorEncode
import Derived.BigRegion
import Derived.Test.YtfpikilhbkeajaaGreatDoorCodePlain
set_option linter.unusedVariables false
set_option linter.unusedSimpArgs false
namespace Go.Proofs.YtfpikilhbkeajaaGreatDoor.Reader
set_option maxRecDepth 100000
open Go.RowKit Go.PlainAid Base Query EmitPlain EmitBase HitBase TabMem Writer Args Encode

structure Rdr (w : World) (R p : Nat) (bs : List UInt8) (A : Option Addr) (c : Nat) : Prop where
  blk : Blk w R 103 #[.int .i64 (p : Int), .int .i64 (bs.length : Int), .slice A bs.length c]
  src : Slc w R A (byteCells bs)
  le : p ≤ bs.length
  few : bs.length ≤ 1099511627776
def RdE (w w' : World) (R p : Nat) (bs : List UInt8) (A : Option Addr) (c : Nat) : Prop := Foot w w' (fun k => k ≠ R) ∧ Rdr w' R p bs A c
section
variable {w w' : World} {R p : Nat} {bs : List UInt8} {A : Option Addr} {c : Nat}
theorem Rdr.lt (m : Rdr w R p bs A c) : R < w.heap.size := m.blk.lt
theorem Rdr.below (m : Rdr w R p bs A c) (hb : Below w.heap.size w w') : Rdr w' R p bs A c := ⟨m.blk.below hb m.lt, m.src.below hb (Nat.le_of_lt m.lt), m.le, m.few⟩
theorem Rdr.foot {ok : Nat → Prop} (m : Rdr w R p bs A c) (hf : Foot w w' ok) (h : ∀ k, k ≤ R → ok k) : Rdr w' R p bs A c := ⟨hf.blk m.blk (h R (Nat.le_refl _)), TabMem.foot_slc hf m.src (Nat.le_of_lt m.lt) (fun k hk => h k (Nat.le_of_lt hk)), m.le, m.few⟩
theorem Rdr.drew (m : Rdr w R p bs A c) : Rdr w.drew R p bs A c := m.below (Below.refl _ _).drew
theorem Rdr.step {q : Nat} (m : Rdr w R p bs A c) (hq : q ≤ bs.length) : RdE w (w.setCell ⟨R, 0, none⟩ (.int .i64 (q : Int))) R q bs A c :=
  ⟨(Foot.refl w _).set_ (p := ⟨R, 0, none⟩) (fun _ h => h rfl) _, by have := m.blk.set_ 0 (.int .i64 (q : Int)); simpa using this, fun hx => by
    obtain ⟨g, o, e, hg, hc⟩ := m.src hx
    exact ⟨g, o, e, hg, fun j u hu => (World.cell?_setCell_other _ _ _ _ (by simp <;> omega)).trans (hc j u hu)⟩, hq, m.few⟩
theorem Rdr.byte (m : Rdr w R p bs A c) {j : Nat} {b : UInt8} (hj : bs[j]? = some b) : ∃ g o, A = some ⟨g, o, none⟩ ∧ g < R ∧ w.cell? ⟨g, o + j, none⟩ = some (.int .u8 (b.toNat : Int)) := by
  obtain ⟨g, o, e, hg, hc⟩ := m.src (by intro e; unfold byteCells at e; have := List.map_eq_nil_iff.1 e; rw [this] at hj; simp at hj)
  exact ⟨g, o, e, hg, hc j _ (by simp [byteCells, hj])⟩
end

theorem left_any (R p : Nat) (bs : List UInt8) (A : Option Addr) (c : Nat) (w : World) (m : Rdr w R p bs A c) :
    Calls Tryz.prog 38 #[.pointer (some ⟨R, 0, none⟩)] w fun e w' => e = .returned (.int .i64 ((bs.length - p : Nat) : Int)) ∧ Below w.heap.size w w' := by
  have y0 : w.cell? ⟨R, 0, none⟩ = some (.int .i64 (p : Int)) := m.blk.cell 0
  have y1 : w.cell? ⟨R, 1, none⟩ = some (.int .i64 (bs.length : Int)) := m.blk.cell 1
  have h1 := m.le
  have h2 := m.few
  rw [show ((bs.length - p : Nat) : Int) = (bs.length : Int) - (p : Int) by omega]
  clear m
  go_enter Tryz.func38, Tryz.ntmps38
  go_upto_region 1 with fail
  go_region
  go_wp2_with fail
  go_ret
  exact ⟨rfl, by exact Base.bel⟩

set_option maxHeartbeats 1000000 in
theorem byte_any (R p : Nat) (bs : List UInt8) (A : Option Addr) (c : Nat) (b : UInt8) (w : World) (m : Rdr w R p bs A c) (hb : bs[p]? = some b) :
    Calls Tryz.prog 39 #[.pointer (some ⟨R, 0, none⟩)] w fun e w' => e = .returned (.tuple #[.int .u8 (b.toNat : Int), .nilIface]) ∧ RdE w w' R (p + 1) bs A c := by
  have hp : p < bs.length := (List.getElem?_eq_some_iff.1 hb).1
  have LC := Lib.hid (left_any R p bs A c w m)
  have h2 := m.few
  have b1 : (((bs.length - p : Nat) : Int) == 0) = false := beq_eq_false_iff_ne.2 (by omega)
  have b1n : ((bs.length - p) == 0) = false := beq_eq_false_iff_ne.2 (by omega)
  have nz : ¬ (bs.length - p = 0) := by omega
  have HM := Lib.hid m
  have HB := Lib.hid hb
  clear m hb
  go_enter Tryz.func39, Tryz.ntmps39
  go_upto_region 3 with (go_at_call 38; (with_reducible refine LC.out.mono ?_); rintro e w1 ⟨rfl, hb1⟩; have HB1 := Lib.hid hb1; clear hb1)
  have m1 := HM.out.below HB1.out
  have y0 : w1.cell? ⟨R, 0, none⟩ = some (.int .i64 (p : Int)) := m1.blk.cell 0
  have f0 : w1.frozen? ⟨R, 0, none⟩ = false := m1.blk.frozen 0
  have HM1 := Lib.hid m1
  clear m1
  go_upto_region 4 with fail
  obtain ⟨W2, hW2⟩ : ∃ W, W = w1.setCell ⟨R, 0, none⟩ (.int .i64 ((p + 1 : Nat) : Int)) := ⟨_, rfl⟩
  obtain ⟨hF, hM⟩ := HM1.out.step (q := p + 1) (by omega)
  rw [← hW2] at hF hM
  rw [show ((p : Int) + 1) = ((p + 1 : Nat) : Int) by omega, ← hW2]
  obtain ⟨g, o, rfl, hg, hx⟩ := hM.byte HB.out
  have z0 : W2.cell? ⟨R, 0, none⟩ = some (.int .i64 ((p + 1 : Nat) : Int)) := hM.blk.cell 0
  have z2 : W2.cell? ⟨R, 2, none⟩ = some (.slice (some ⟨g, o, none⟩) bs.length c) := hM.blk.cell 2
  have e1 : ((p + 1 : Nat) : Int) - 1 = (p : Int) := by omega
  have i1 : (p : Int) < (bs.length : Int) := by omega
  have HF := Lib.hid hF
  have HMM := Lib.hid hM
  have HBB := Lib.hid HB1
  clear hF hM hW2 y0 f0
  go_region
  go_wp2_with fail
  go_ret2
  exact ⟨rfl, (foot_chain (Foot.ofBelow HB1.out _) (Below.refl _ _) |>.trans HF.out).drew, HMM.out.drew⟩
theorem uvar_at : ∀ (k n : Nat), k < (uvar n).length → ((uvar n)[k]? = some (UInt8.ofNat (if n / 128 ^ k < 128 then n / 128 ^ k else n / 128 ^ k % 128 + 128))) ∧ (n / 128 ^ k < 128 ↔ k + 1 = (uvar n).length) ∧ (0 < k → 0 < n / 128 ^ k)
  | 0, n, h => by
    rw [uvar]
    simp only [Nat.pow_zero, Nat.div_one]
    by_cases hn : n < 128
    · simp [hn]
    · simp only [hn, dite_false, if_false, List.getElem?_cons_zero, List.length_cons, false_iff]
      refine ⟨trivial, ?_, fun h => absurd h (by omega)⟩
      have : 0 < (uvar (n / 128)).length := by rw [uvar]; split <;> simp
      omega
  | k + 1, n, h => by
    by_cases hn : n < 128
    · rw [uvar, dif_pos hn] at h; simp at h
    · rw [uvar, dif_neg hn] at h ⊢
      simp only [List.length_cons] at h ⊢
      obtain ⟨h1, h2, h3⟩ := uvar_at k (n / 128) (by omega)
      have e : n / 128 ^ (k + 1) = n / 128 / 128 ^ k := by rw [Nat.div_div_eq_div_mul, Nat.pow_succ, Nat.mul_comm]
      rw [e, List.getElem?_cons_succ]
      refine ⟨h1, ⟨fun h => by rw [h2.1 h], fun h => h2.2 (by omega)⟩, fun _ => ?_⟩
      rcases Nat.eq_zero_or_pos k with h0 | h0
      · subst h0; simp only [Nat.pow_zero, Nat.div_one]; omega
      · exact h3 h0

theorem wrap64 (n : Nat) (h : n < 18446744073709551616) : IntKind.u64.wrap (n : Int) = (n : Int) := by
  unfold IntKind.wrap
  simp [IntKind.signed, IntKind.bits]
  omega
theorem or64 (a b : Nat) (ha : a < 18446744073709551616) (hb : b < 18446744073709551616) : bits .or .u64 (a : Int) (b : Int) = ((a ||| b : Nat) : Int) := by
  have h : a ||| b < 18446744073709551616 := Nat.or_lt_two_pow (n := 64) (by omega) (by omega)
  have e : (BitVec.ofInt 64 (a : Int) ||| BitVec.ofInt 64 (b : Int)).toNat = a ||| b := by
    rw [BitVec.ofInt_natCast, BitVec.ofInt_natCast, BitVec.toNat_or, BitVec.toNat_ofNat, BitVec.toNat_ofNat, Nat.mod_eq_of_lt (by omega : a < 2 ^ 64), Nat.mod_eq_of_lt (by omega : b < 2 ^ 64)]
  show IntKind.u64.wrap (((BitVec.ofInt 64 (a : Int) ||| BitVec.ofInt 64 (b : Int)).toNat : Nat) : Int) = _
  rw [e, wrap64 _ h]
theorem and8 : ∀ r : Fin 256, bits .and .u8 ((r.val : Nat) : Int) 127 = ((r.val % 128 : Nat) : Int) := by decide
theorem acc (n k : Nat) (hn : n < 18446744073709551616) (x : Nat) (hx : x % 128 = n / 128 ^ k % 128) (hx2 : x < 256) :
    bits .or .u64 ((n : Int) % 128 ^ k) (IntKind.u64.wrap (IntKind.u64.wrap (bits .and .u8 (x : Int) 127) * 2 ^ (7 * k))) = ((n % 128 ^ (k + 1) : Nat) : Int) := by
  have ha := and8 ⟨x, hx2⟩
  simp only at ha
  rw [ha, hx]
  have e7 : (2 : Nat) ^ (7 * k) = 128 ^ k := by rw [Nat.pow_mul]
  have hp : 0 < 128 ^ k := Nat.pow_pos (by decide)
  have hd : n / 128 ^ k % 128 * 128 ^ k + n % 128 ^ k = n % 128 ^ (k + 1) := by
    rw [Nat.pow_succ, Nat.mod_mul, Nat.mul_comm (128 ^ k), Nat.add_comm]
  have hle : n % 128 ^ (k + 1) ≤ n := Nat.mod_le _ _
  have w1 : IntKind.u64.wrap ((n / 128 ^ k % 128 : Nat) : Int) = ((n / 128 ^ k % 128 : Nat) : Int) := by
    exact wrap64 _ (by omega)
  rw [w1]
  have e1 : ((n / 128 ^ k % 128 : Nat) : Int) * 2 ^ (7 * k) = ((n / 128 ^ k % 128 * 128 ^ k : Nat) : Int) := by
    rw [← e7]; push_cast; rfl
  rw [e1]
  have w2 : IntKind.u64.wrap ((n / 128 ^ k % 128 * 128 ^ k : Nat) : Int) = ((n / 128 ^ k % 128 * 128 ^ k : Nat) : Int) := by
    have : n / 128 ^ k % 128 * 128 ^ k < 18446744073709551616 := by omega
    exact wrap64 _ this
  rw [w2]
  have e2 : ((n : Int) % 128 ^ k) = ((n % 128 ^ k : Nat) : Int) := by push_cast; rfl
  have hlt : n % 128 ^ k < 128 ^ k := Nat.mod_lt _ hp
  rw [e2, or64 _ _ (by have := Nat.mod_le n (128 ^ k); omega) (by omega)]
  rw [← hd]
  congr 1
  rw [← e7] at hlt ⊢
  have := Nat.two_pow_add_eq_or_of_lt hlt (n / 2 ^ (7 * k) % 128)
  rw [Nat.or_comm, Nat.mul_comm _ (2 ^ (7 * k)), this]

set_option maxHeartbeats 2000000 in
theorem ruv_any (n R p : Nat) (bs : List UInt8) (A : Option Addr) (c : Nat) (w : World) (m : Rdr w R p bs A c) (hn : n < 18446744073709551616) (hv : ∀ j, j < (uvar n).length → bs[p + j]? = (uvar n)[j]?) (hl : p + (uvar n).length ≤ bs.length) :
    Calls Tryz.prog 41 #[.pointer (some ⟨R, 0, none⟩)] w fun e w' => e = .returned (.tuple #[.int .u64 (n : Int), .nilIface]) ∧ RdE w w' R (p + (uvar n).length) bs A c := by
  have hln : (uvar n).length ≤ 10 := uvar_len 9 n (by omega)
  have hl0 : 0 < (uvar n).length := by rw [uvar]; split <;> simp
  have HM := Lib.hid m
  have HV := Lib.hid hv
  have HL := Lib.hid hl
  have h2 := m.few
  have hR := m.lt
  obtain ⟨UL, hUL⟩ : ∃ x, x = (uvar n).length := ⟨_, rfl⟩
  have HUL := Lib.hid hUL
  rw [← hUL] at hln hl0
  clear m hv hl hUL
  go_enter Tryz.func41, Tryz.ntmps41
  go_wp2_with fail
  go_loopw [4, 5] (fun v i wr => ∃ k : Nat, k < UL ∧ i = .int .i64 k ∧ v = .int .u64 ((n % 128 ^ k : Nat) : Int) ∧ Below w.heap.size w wr) (fun _ i _ => UL - (intOf i).toNat)
  case atStart => exact ⟨0, hl0, rfl, by rw [Nat.pow_zero, Nat.mod_one]; rfl, Below.refl _ _⟩
  case round =>
    obtain ⟨k, hk, rfl, rfl, hb⟩ := hrel
    have m1 := HM.out.below hb
    obtain ⟨u1, u2, u3⟩ := uvar_at k n (by rw [← HUL.out]; exact hk)
    rw [← HUL.out] at u2
    obtain ⟨x, hx⟩ : ∃ x, x = (if n / 128 ^ k < 128 then n / 128 ^ k else n / 128 ^ k % 128 + 128) := ⟨_, rfl⟩
    rw [← hx] at u1
    have hx256 : x < 256 := by rw [hx]; split <;> omega
    have hbx : bs[p + k]? = some (UInt8.ofNat x) := (HV.out k (by rw [← HUL.out]; exact hk)).trans u1
    have hpk : p + k < bs.length := (List.getElem?_eq_some_iff.1 hbx).1
    obtain ⟨g, o, rfl, hg, hcx⟩ := m1.byte hbx
    rw [UInt8.toNat_ofNat_of_lt' hx256] at hcx
    have LC := Lib.hid (left_any R p bs _ c wr m1)
    have y0 : ∀ W, Below wr.heap.size wr W → W.cell? ⟨R, 0, none⟩ = some (.int .i64 (p : Int)) := fun W hW => (hW.cell (p := ⟨R, 0, none⟩) m1.lt).trans (m1.blk.cell 0)
    have y2 : ∀ W, Below wr.heap.size wr W → W.cell? ⟨R, 2, none⟩ = some (.slice (some ⟨g, o, none⟩) bs.length c) := fun W hW => (hW.cell (p := ⟨R, 2, none⟩) m1.lt).trans (m1.blk.cell 2)
    have yx : ∀ W, Below wr.heap.size wr W → W.cell? ⟨g, o + (p + k), none⟩ = some (.int .u8 (x : Int)) := fun W hW => (hW.cell (p := ⟨g, o + (p + k), none⟩) (by show g < _; have := m1.lt; omega)).trans hcx
    have i1 : ¬ (bs.length - p ≤ k) := by omega
    have i2 : (p : Int) + (k : Int) < 9223372036854775808 := by omega
    have i3 : (p : Int) + (k : Int) < (bs.length : Int) := by omega
    have i4 : p + k < bs.length := hpk
    have b9 : ((k : Int) == 9) = decide (k = 9) := by
      rcases Nat.lt_trichotomy k 9 with h | h | h
      · rw [decide_eq_false (by omega)]; exact beq_eq_false_iff_ne.2 (by omega)
      · rw [decide_eq_true h, h]; rfl
      · rw [decide_eq_false (by omega)]; exact beq_eq_false_iff_ne.2 (by omega)
    have x9 : k = 9 → decide ((1 : Int) < (x : Int)) = false := fun h => by
      subst h
      have h9 : n / 128 ^ 9 < 2 := by omega
      rw [if_pos (by omega)] at hx
      exact decide_eq_false (by omega)
    have HAC := Lib.hid (acc n k hn x (by rw [hx]; split <;> omega) hx256)
    have HX := Lib.hid hx
    have H3 := Lib.hid u3
    have H2 := Lib.hid u2
    have HB := Lib.hid hb
    have HM1 := Lib.hid m1
    have HY0 := Lib.hid y0
    have HY2 := Lib.hid y2
    have HYX := Lib.hid yx
    clear hx u1 u2 u3 hb m1 hcx y0 y2 yx hbx hpk
    go_upto_region 6 with (go_at_call 38; (with_reducible refine LC.out.mono ?_); rintro e w1 ⟨rfl, hb1⟩; have z0 := HY0.out _ hb1; have z2 := HY2.out _ hb1; have zx := HYX.out _ hb1; have HB1 := Lib.hid hb1; clear hb1)
    go_region
    have h9 : (((k : Int) == 9) = true ∧ decide ((1 : Int) < (x : Int)) = false) ∨ ((k : Int) == 9) = false := by
      rcases Decidable.em (k = 9) with h | h
      · exact .inl ⟨by rw [b9, decide_eq_true h], x9 h⟩
      · exact .inr (by rw [b9, decide_eq_false h])
    clear b9 x9
    rcases h9 with ⟨h9, h1⟩ | h9
    all_goals
      have j7 : (7 : Int) * (k : Int) < 9223372036854775808 := by omega
      go_upto_region 10 with fail
      rw [HAC.out]
      rcases Nat.lt_or_ge (n / 128 ^ k) 128 with hlast | hmore
      · have hx1 : x = n / 128 ^ k := by rw [HX.out, if_pos hlast]
        have d1 : decide ((128 : Int) ≤ (x : Int)) = false := decide_eq_false (by omega)
        have hul : k + 1 = UL := H2.out.1 hlast
        have hnn : n % 128 ^ (k + 1) = n := Nat.mod_eq_of_lt (by rw [Nat.pow_succ, Nat.mul_comm]; exact (Nat.div_lt_iff_lt_mul (Nat.pow_pos (by decide))).1 hlast)
        rw [hnn]
        have f0 : w1.frozen? ⟨R, 0, none⟩ = false := (HM1.out.below HB1.out).blk.frozen 0
        have b0 : (((x : Int) == 0) = true ∧ ¬ 0 < k) ∨ ((x : Int) == 0) = false := by
          rcases Nat.eq_zero_or_pos x with h | h
          · refine .inl ⟨by rw [h]; rfl, fun hk0 => ?_⟩
            have := H3.out hk0
            omega
          · exact .inr (beq_eq_false_iff_ne.2 (by omega))
        have j8 : (p : Int) + ((k : Int) + 1) < 9223372036854775808 := by omega
        have HUL2 := Lib.hid hul
        clear hlast hx1 hnn hul
        rcases b0 with ⟨b0, b1⟩ | b0
        all_goals
          go_wp2_with fail
          go_ret2
          have hb2 : Below w.heap.size w w1 := HB.out.trans (HB1.out.mono HB.out.size)
          have st := ((HM.out.below hb2).drew).step (q := p + UL) (by have := HL.out; rw [← HUL.out] at this; exact this)
          rw [← HUL.out]
          have e : ((p : Int) + ((k : Int) + 1)) = ((p + UL : Nat) : Int) := by rw [← HUL2.out]; omega
          refine ⟨rfl, ?_⟩
          rw [e]
          exact ⟨(Foot.ofBelow hb2.drew _).trans st.1, st.2⟩
      · have d1 : decide ((128 : Int) ≤ (x : Int)) = true := decide_eq_true (by have := HX.out; rw [if_neg (by omega)] at this; omega)
        have hul : k + 1 < UL := by
          have := H2.out
          rcases Nat.lt_or_ge (k + 1) UL with h | h
          · exact h
          · have := this.2 (by omega); omega
        clear hmore
        go_wp2_with fail
        go_roundw
        case rel => exact ⟨k + 1, hul, by go_num, rfl, (HB.out.trans (HB1.out.mono HB.out.size)).drew⟩
        case measure => simp [intOf]; omega
end Go.Proofs.YtfpikilhbkeajaaGreatDoor.Reader

namespace Go.Proofs.YtfpikilhbkeajaaGreatDoor.Decode
set_option maxRecDepth 100000
open Go.RowKit Go.PlainAid Base Query EmitPlain EmitBase EmitNear HitBase TabMem Writer Args Concat Encode Reader CodePlain

theorem foot_drew {a b : World} {ok : Nat → Prop} (h : Foot a b ok) : Foot a b.drew ok := h.drew
set_option maxHeartbeats 2000000 in
theorem newReader_any (A : Option Addr) (c : Nat) (bs : List UInt8) (w : World) (S : Slc w w.heap.size A (byteCells bs)) (hl : bs.length ≤ 1099511627776) :
    Calls Tryz.prog 37 #[.slice A bs.length c] w fun e w' => ∃ R A', e = .returned (.pointer (some ⟨R, 0, none⟩)) ∧ w.heap.size ≤ R ∧ Below w.heap.size w w' ∧ Rdr w' R 0 bs A' bs.length := by
  obtain ⟨W1, hW1⟩ : ∃ W, W = w.alloc (.cells #[.slice A bs.length c] 38) := ⟨_, rfl⟩
  have b1 : Below w.heap.size w W1 := by rw [hW1]; exact Base.bel
  have K1 : Blk W1 w.heap.size 38 #[.slice A bs.length c] := by rw [hW1]; exact Blk.new _ _ _
  have s1 : W1.heap.size = w.heap.size + 1 := by rw [hW1]; simp
  have CC := Lib.hid (by
    have := concat1 w.heap.size w.heap.size A c bs.length (byteCells bs) (by simp [byteCells]) (bc_one bs) W1 (K1.cell 0) K1.lt (by omega) (S.below b1 (Nat.le_refl _)) hl
    rw [hW1] at this
    exact this)
  have HS1 := Lib.hid s1
  have HW1 := Lib.hid hW1
  have HB1 := Lib.hid b1
  clear s1 hW1 b1 K1 S
  go_enter Tryz.func37, Tryz.ntmps37
  go_wp2_with (go_at_call 66; (with_reducible refine CC.out.mono ?_); rw [← HW1.out]; rintro e w2 ⟨rfl, hb2, hs2⟩; have HB2 := Lib.hid hb2; have HS2 := Lib.hid hs2; clear hb2 hs2)
  go_ret
  have h12 := HB2.out.size
  have h1 := HS1.out
  obtain ⟨W3, hW3⟩ : ∃ W, W = w2.alloc (.cells #[.int .i64 0, .int .i64 (bs.length : Int), .slice (some ⟨W1.heap.size, 0, none⟩) bs.length bs.length] 103) := ⟨_, rfl⟩
  rw [← hW3]
  have b3 : Below w2.heap.size w2 W3 := by rw [hW3]; exact Base.bel
  have hsrc : Slc W3 w2.heap.size (some ⟨W1.heap.size, 0, none⟩) (byteCells bs) := fun hx => by
    obtain ⟨g, o, e, hg, hc⟩ := HS2.out hx
    simp only [Option.some.injEq, Addr.mk.injEq, and_true] at e
    obtain ⟨rfl, rfl⟩ := e
    have hlt : W1.heap.size < w2.heap.size := by
      obtain ⟨u, hu⟩ : ∃ u, (byteCells bs)[0]? = some u := by
        cases hb : byteCells bs with
        | nil => exact absurd hb hx
        | cons a r => exact ⟨a, rfl⟩
      have := hc 0 u hu
      rcases Nat.lt_or_ge W1.heap.size w2.heap.size with h | h
      · exact h
      · rw [World.cell?, Array.getElem?_eq_none h] at this; cases this
    exact ⟨_, _, rfl, hlt, fun j u hu => (b3.cell (p := ⟨W1.heap.size, 0 + j, none⟩) hlt).trans (hc j u hu)⟩
  refine ⟨w2.heap.size, some ⟨W1.heap.size, 0, none⟩, rfl, by omega, HB1.out.trans ((HB2.out.mono (by omega)).trans (b3.mono (by omega))), ?_, hsrc, Nat.zero_le _, hl⟩
  rw [hW3]
  exact Blk.new _ _ _
def DecR (L : List Ins) (w : World) (e : Ending) (w' : World) : Prop := ∃ A c, e = .returned (.tuple #[.slice A L.length c, .nilIface]) ∧ Slc w' w'.heap.size A (insCs L) ∧ Below w.heap.size w w'
theorem enc_split {L : List Ins} {j : Nat} {i : Ins} (h : L[j]? = some i) : ∃ r, enc L = enc (L.take j) ++ Encode.encI i ++ r := by
  refine ⟨enc (L.drop (j + 1)), ?_⟩
  have hj : j < L.length := (List.getElem?_eq_some_iff.1 h).1
  rw [← enc_take h]
  unfold enc
  rw [← List.flatten_append, ← List.map_append, List.take_append_drop]
theorem at_mid {a b c : List UInt8} {l : List UInt8} (h : l = a ++ b ++ c) {j : Nat} (hj : j < b.length) : l[a.length + j]? = b[j]? := by
  rw [h, List.append_assoc, List.getElem?_append_right (by omega), show a.length + j - a.length = j by omega, List.getElem?_append_left hj]
theorem encI_pos (i : Ins) : 0 < (Encode.encI i).length := by unfold Encode.encI; simp
theorem insEl : Elem Tryz.prog 60 84 (.agg #[.int .i64 0, .int .u64 0, .int .u64 0]) 3 24 := .mk_ (by kernel_rfl) (by kernel_rfl) rfl (by decide)
def posOf (w : World) (R N : Nat) : Nat := match w.cell? ⟨R, 0, none⟩ with | some (.int _ n) => N - n.toNat | _ => 0
theorem posOf_eq {w : World} {R p : Nat} {bs : List UInt8} {A : Option Addr} {c : Nat} (m : Rdr w R p bs A c) (N : Nat) : posOf w R N = N - p := by
  unfold posOf
  rw [show w.cell? ⟨R, 0, none⟩ = some (.int .i64 (p : Int)) from m.blk.cell 0]
  simp

set_option maxHeartbeats 8000000 in
theorem decode_any (L : List Ins) (A : Option Addr) (c : Nat) (w : World) (S : Slc w w.heap.size A (byteCells (enc L))) (T : Tab w) (hT : 24 < w.heap.size) (HI : ∀ i ∈ L, okI i) (hL : L.length ≤ 1073741824) :
    Calls Tryz.prog 17 #[.slice A (enc L).length c] w (DecR L w) := by
  have hel : (enc L).length ≤ 1099511627776 := by
    have := enc_len (L := L) fun i hi => ⟨(HI i hi).2.1.2, (HI i hi).2.2.2⟩
    omega
  obtain ⟨bs, hbs⟩ : ∃ b, b = enc L := ⟨_, rfl⟩
  have NR := Lib.hid (newReader_any A c (enc L) w S hel)
  rw [← hbs] at NR hel ⊢
  have HBS := Lib.hid hbs
  have HT := Lib.hid T
  have HH := Lib.hid HI
  clear S T HI hbs
  go_enter Tryz.func17, Tryz.ntmps17
  go_wp2_with (go_at_call 37; (with_reducible refine NR.out.mono ?_); rintro e w2 ⟨R, AB, rfl, hR, hb2, hm2⟩; have HB2 := Lib.hid hb2; have HM2 := Lib.hid hm2; clear hb2 hm2)
  have hR2 := HM2.out.lt
  go_loopw [4] (fun v wr => ∃ j : Nat, j ≤ L.length ∧ Foot w2 wr (fun k => k ≠ R) ∧ Rdr wr R (enc (L.take j)).length bs AB bs.length ∧ wr.ownsRow w2.heap.size 84 3 v j (insCs (L.take j))) (fun _ wr => posOf wr R bs.length)
  case atStart => exact ⟨0, Nat.zero_le _, Foot.refl _ _, HM2.out, World.ownsRow_nil _ _ _ _⟩
  case round =>
    obtain ⟨j, hj, hF, hM, hown⟩ := hrel
    obtain ⟨A4, c4, rfl⟩ := own_slice hown
    have hsr := hF.size
    have HF := Lib.hid hF
    have HM := Lib.hid hM
    have HO := Lib.hid hown
    clear hF hM hown
    have HP0 := Lib.hid (posOf_eq HM.out bs.length)
    rcases Nat.lt_or_ge j L.length with hlt | hge
    · obtain ⟨i, hi⟩ : ∃ i, L[j]? = some i := ⟨_, List.getElem?_eq_getElem hlt⟩
      obtain ⟨rr, hrr⟩ := enc_split hi
      have hok := HH.out i (List.mem_of_getElem? hi)
      rw [← HBS.out] at hrr
      have hpos := encI_pos i
      have htk := enc_take hi
      obtain ⟨p, hp⟩ : ∃ p, p = (enc (L.take j)).length := ⟨_, rfl⟩
      rw [← hp] at HM HP0
      have hlen : p + (Encode.encI i).length ≤ bs.length := by rw [hrr, hp]; simp only [List.length_append]; omega
      have hat : ∀ m, m < (Encode.encI i).length → bs[p + m]? = (Encode.encI i)[m]? := fun m hm => by rw [hp]; exact at_mid hrr hm
      obtain ⟨op, a, b⟩ := i
      obtain ⟨hk1, ⟨ha0, ha1⟩, hb0, hb1⟩ := hok
      simp only at ha0 ha1 hb0 hb1
      obtain ⟨na, rfl⟩ := Int.eq_ofNat_of_zero_le ha0
      obtain ⟨nb, rfl⟩ := Int.eq_ofNat_of_zero_le hb0
      obtain ⟨k, rfl, hk⟩ : ∃ k : Nat, op = (k : Int) ∧ k < 17 := by
        have h := hk1
        unfold insOk okN at h
        simp only [Bool.and_eq_true, decide_eq_true_iff] at h
        exact ⟨op.toNat, by omega, by omega⟩
      have hopb : bs[p]? = some (UInt8.ofNat k) := by
        have := hat 0 hpos
        rw [Nat.add_zero] at this
        rw [this]
        unfold Encode.encI
        simp
      have HOKN := Lib.hid (show okN (k : Int) = true by unfold okN; rw [decide_eq_true (by omega), decide_eq_true (by omega)]; rfl)
      have LC := Lib.hid (left_any R p bs AB bs.length wr HM.out)
      have l1 : decide ((0 : Int) < ((bs.length - p : Nat) : Int)) = true := decide_eq_true (by omega)
      have l2 : 0 < bs.length - p := by omega
      have BC := Lib.hid (show ∀ W, Below wr.heap.size wr W → _ from fun W hW => byte_any R p bs AB bs.length (UInt8.ofNat k) W (HM.out.below hW) hopb)
      rw [show (UInt8.ofNat k).toNat = k from UInt8.toNat_ofNat_of_lt' (show k < 256 by omega)] at BC
      have HI1 := Lib.hid hi
      have HTK := Lib.hid htk
      have HAT := Lib.hid hat
      have HLEN := Lib.hid hlen
      have HPP := Lib.hid hp
      have hna : na < 18446744073709551616 := by omega
      have hnb : nb < 18446744073709551616 := by omega
      have hpl : p < bs.length := by omega
      have HK1 := Lib.hid hk1
      clear hrr hi htk hat hlen hp hopb ha0 hb0 ha1 hb1 hk1 hpos
      go_upto_region 6 with (first | (go_at_call 38; (with_reducible refine LC.out.mono ?_); rintro e w3 ⟨rfl, hb3⟩; have HB3 := Lib.hid hb3; clear hb3) | (go_at_call 39; (with_reducible refine (BC.out _ HB3.out).mono ?_); rintro e w4 ⟨rfl, hf4, hm4⟩; have HF4 := Lib.hid hf4; have HM4 := Lib.hid hm4; clear hf4 hm4))
      obtain ⟨X, hX⟩ : ∃ X, X = w4.heap.size := ⟨_, rfl⟩
      obtain ⟨W5, hW5⟩ : ∃ W, W = w4.alloc (.cells #[.int .i64 (k : Int), .int .u64 0, .int .u64 0] 84) := ⟨_, rfl⟩
      have b5 : Below w4.heap.size w4 W5 := by rw [hW5]; exact Base.bel
      have K5 : Blk W5 X 84 #[.int .i64 (k : Int), .int .u64 0, .int .u64 0] := by rw [hW5, hX]; exact Blk.new _ _ _
      have F5 : Foot wr W5 (fun k => k ≠ R) := foot_chain ((Foot.ofBelow HB3.out _).trans (HF4.out)) b5
      have M5 := HM4.out.below b5
      have x0 : W5.cell? ⟨X, 0, none⟩ = some (.int .i64 (k : Int)) := K5.cell 0
      have hRX : R < X := by rw [hX]; exact HM4.out.lt
      have hwX : wr.heap.size ≤ X := by rw [hX]; exact Nat.le_trans HB3.out.size HF4.out.size
      rw [← hX, ← hW5]
      have HF5 := Lib.hid F5
      have HM5 := Lib.hid M5
      have HK5 := Lib.hid K5
      have hTW : Tab W5 := HT.out.below (HB2.out.trans (foot_below (HF.out.trans F5) (fun k hk => by omega) (by have := HB2.out.size; omega))) hT
      have AC := Lib.hid (args_any (k : Int) W5 hTW)
      rw [HOKN.out] at AC
      clear hX hW5 b5 K5 F5 M5 hTW
      rcases argI_cases (k : Int) with hn | hn | hn
      · rw [hn] at AC
        obtain rfl : na = 0 := by have := HK1.out; unfold insOk at this; rw [HOKN.out, hn] at this; simp at this <;> omega
        obtain rfl : nb = 0 := by have := HK1.out; unfold insOk at this; rw [HOKN.out, hn] at this; simp at this <;> omega
        have HENC := Lib.hid (show Encode.encI ⟨(k : Int), ((0 : Nat) : Int), ((0 : Nat) : Int)⟩ = [UInt8.ofNat k] by unfold Encode.encI; simp only [hn]; simp)
        clear hn HK1
        go_wp2_with (go_at_call 40; (with_reducible refine AC.out.mono ?_); rintro e w6 ⟨rfl, hb6⟩; have HB6 := Lib.hid hb6; clear hb6)
        clear x0
        obtain ⟨PB, hPB⟩ : ∃ X, X = w6.heap.size := ⟨_, rfl⟩
        obtain ⟨V0, hV0⟩ : ∃ W, W = w6.alloc (.cells #[.pointer (some ⟨X, 1, none⟩), .pointer (some ⟨X, 2, none⟩)] 108) := ⟨_, rfl⟩
        have c6 : Below w6.heap.size w6 V0 := by rw [hV0]; exact Base.bel
        have c5 : Below W5.heap.size W5 V0 := bchain HB6.out c6
        have KP0 : Blk V0 PB 108 #[.pointer (some ⟨X, 1, none⟩), .pointer (some ⟨X, 2, none⟩)] := by rw [hV0, hPB]; exact Blk.new _ _ _
        have G0 := Lib.hid (foot_chain HF5.out c5)
        have M0 := Lib.hid (HM5.out.below c5)
        have KX0 := Lib.hid (HK5.out.below c5 HK5.out.lt)
        have hXP : X < PB := by rw [hPB]; exact Nat.lt_of_lt_of_le HK5.out.lt HB6.out.size
        rw [← hPB, ← hV0]
        have HKP0 := Lib.hid KP0
        have px0 : V0.cell? ⟨PB, 0, none⟩ = some (.pointer (some ⟨X, 1, none⟩)) := KP0.cell 0
        have px1 : V0.cell? ⟨PB, 1, none⟩ = some (.pointer (some ⟨X, 2, none⟩)) := KP0.cell 1
        clear hPB hV0 c6 c5 KP0
        refine wp_loop_rounds 3 ?_
        have l0 : V0.cell? ⟨X, 0, none⟩ = some (.int .i64 (k : Int)) := KX0.out.cell 0
        have l1 : V0.cell? ⟨X, 1, none⟩ = some (.int .u64 0) := KX0.out.cell 1
        have l2 : V0.cell? ⟨X, 2, none⟩ = some (.int .u64 0) := KX0.out.cell 2
        have HOn := Lib.hid (foot_own G0.out HO.out (fun g hg _ => by omega))
        have hgs := G0.out.size
        rw [rounds_succ]
        go_wp2_with (at_builtin; refine wpList_append1 (by rfl) _ _ (by rfl) insEl HOn.out (by rfl) (cs := #[.int .i64 (k : Int), .int .u64 0, .int .u64 0]) (by rfl) (by rfl) (by simp [Value.oneCell']) (by omega) (by unfold maxLen; omega) (by omega) ?_; intro v9 w9 ho9 hg9 _; obtain ⟨A9, c9, rfl⟩ := own_slice ho9)
        have hMR : Rdr w9 R (p + 1) bs AB bs.length := M0.out.foot ((Foot.refl V0 (fun k => k ≤ R)).grown hg9 (fun k' _ e h => by have := (HOn.out.lt k' e).1; omega)) (fun _ h => h)
        have hq : (enc (L.take (j + 1))).length = p + 1 := by rw [HTK.out, List.length_append, HENC.out, ← HPP.out]; simp <;> omega
        go_roundw
        case rel => exact ⟨j + 1, by omega, (HF.out.trans G0.out).grown hg9 (fun k' hk' e he => by have := (HOn.out.lt k' e).1; omega), by rw [hq]; exact hMR, by rw [List.take_add_one, HI1.out]; simpa [insCs, insC] using ho9⟩
        case measure => rw [posOf_eq hMR, HP0.out]; have := HLEN.out; rw [HENC.out] at this; simp at this; omega
      · rw [hn] at AC
        obtain rfl : nb = 0 := by have := HK1.out; unfold insOk at this; rw [HOKN.out, hn] at this; simp at this <;> omega
        have HENC := Lib.hid (show Encode.encI ⟨(k : Int), ((na : Nat) : Int), ((0 : Nat) : Int)⟩ = [UInt8.ofNat k] ++ uvar na by unfold Encode.encI; simp only [hn]; simp)
        have HVA := Lib.hid (show ∀ m, m < (uvar na).length → bs[p + 1 + m]? = (uvar na)[m]? from fun m hm => by
          have := HAT.out (1 + m) (by rw [HENC.out]; simp <;> omega)
          rw [HENC.out] at this
          rw [Nat.add_assoc, this, Nat.add_comm 1 m]
          simp)
        have HLA := Lib.hid (show p + 1 + (uvar na).length ≤ bs.length by have := HLEN.out; rw [HENC.out] at this; simp at this <;> omega)
        clear hn HK1
        go_wp2_with (go_at_call 40; (with_reducible refine AC.out.mono ?_); rintro e w6 ⟨rfl, hb6⟩; have HB6 := Lib.hid hb6; clear hb6)
        clear x0
        obtain ⟨PB, hPB⟩ : ∃ X, X = w6.heap.size := ⟨_, rfl⟩
        obtain ⟨V0, hV0⟩ : ∃ W, W = w6.alloc (.cells #[.pointer (some ⟨X, 1, none⟩), .pointer (some ⟨X, 2, none⟩)] 108) := ⟨_, rfl⟩
        have c6 : Below w6.heap.size w6 V0 := by rw [hV0]; exact Base.bel
        have c5 : Below W5.heap.size W5 V0 := bchain HB6.out c6
        have KP0 : Blk V0 PB 108 #[.pointer (some ⟨X, 1, none⟩), .pointer (some ⟨X, 2, none⟩)] := by rw [hV0, hPB]; exact Blk.new _ _ _
        have G0 := Lib.hid (foot_chain HF5.out c5)
        have M0 := Lib.hid (HM5.out.below c5)
        have KX0 := Lib.hid (HK5.out.below c5 HK5.out.lt)
        have hXP : X < PB := by rw [hPB]; exact Nat.lt_of_lt_of_le HK5.out.lt HB6.out.size
        rw [← hPB, ← hV0]
        have HKP0 := Lib.hid KP0
        have px0 : V0.cell? ⟨PB, 0, none⟩ = some (.pointer (some ⟨X, 1, none⟩)) := KP0.cell 0
        have px1 : V0.cell? ⟨PB, 1, none⟩ = some (.pointer (some ⟨X, 2, none⟩)) := KP0.cell 1
        clear hPB hV0 c6 c5 KP0
        refine wp_loop_rounds 3 ?_
        rw [rounds_succ]
        go_wp2_with (go_at_call 41; (with_reducible refine (ruv_any na R (p + 1) bs AB bs.length V0 M0.out hna HVA.out HLA.out).mono ?_); rintro e u0 ⟨rfl, hf0, hm0⟩; have KX' := hf0.blk KX0.out (by omega); have xx : u0.cell? ⟨X, 1, none⟩ = some (.int .u64 0) := KX'.cell 1; have xf : u0.frozen? ⟨X, 1, none⟩ = false := KX'.frozen 1; have HF0' := Lib.hid hf0; have HM0' := Lib.hid hm0; have HKX0' := Lib.hid KX'; clear hf0 hm0 KX')
        clear px0 px1
        obtain ⟨V1, hV⟩ : ∃ W, W = u0.setCell ⟨X, 1, none⟩ (.int .u64 (na : Int)) := ⟨_, rfl⟩
        have KX1 := Lib.hid (show Blk V1 X 84 #[.int .i64 (k : Int), .int .u64 (na : Int), .int .u64 0] by rw [hV]; have := HKX0'.out.set_ 1 (.int .u64 (na : Int)); simpa using this)
        have st0 : Foot V0 V1 (fun k => k ≠ R ∧ k ≠ X) := by rw [hV]; exact (HF0'.out.imp (fun k _ h => h.1)).set_ (p := ⟨X, 1, none⟩) (fun _ h => h.2 rfl) _
        have G1 := Lib.hid (show Foot wr V1 (fun k => k ≠ R) by rw [hV]; exact ((G0.out.trans HF0'.out).set_ (p := ⟨X, 1, none⟩) (fun h => absurd h (by show ¬ X < wr.heap.size; omega)) _))
        have M1 := Lib.hid (show Rdr V1 R (p + 1 + (uvar na).length) bs AB bs.length by rw [hV]; exact HM0'.out.foot ((Foot.refl u0 _).set_ (p := ⟨X, 1, none⟩) (ok := fun k => k ≠ X) (fun _ h => h rfl) _) (fun k hk => by omega))
        have KP1 := st0.blk HKP0.out (by omega)
        have HKP1 := Lib.hid KP1
        have px0 : V1.cell? ⟨PB, 0, none⟩ = some (.pointer (some ⟨X, 1, none⟩)) := KP1.cell 0
        have px1 : V1.cell? ⟨PB, 1, none⟩ = some (.pointer (some ⟨X, 2, none⟩)) := KP1.cell 1
        rw [← hV]
        clear hV st0 KP1 xx xf
        have l0 : V1.cell? ⟨X, 0, none⟩ = some (.int .i64 (k : Int)) := KX1.out.cell 0
        have l1 : V1.cell? ⟨X, 1, none⟩ = some (.int .u64 (na : Int)) := KX1.out.cell 1
        have l2 : V1.cell? ⟨X, 2, none⟩ = some (.int .u64 0) := KX1.out.cell 2
        have HOn := Lib.hid (foot_own G1.out HO.out (fun g hg _ => by omega))
        have hgs := G1.out.size
        rw [rounds_succ]
        go_wp2_with (at_builtin; refine wpList_append1 (by rfl) _ _ (by rfl) insEl HOn.out (by rfl) (cs := #[.int .i64 (k : Int), .int .u64 (na : Int), .int .u64 0]) (by rfl) (by rfl) (by simp [Value.oneCell']) (by omega) (by unfold maxLen; omega) (by omega) ?_; intro v9 w9 ho9 hg9 _; obtain ⟨A9, c9, rfl⟩ := own_slice ho9)
        have hMR : Rdr w9 R (p + 1 + (uvar na).length) bs AB bs.length := M1.out.foot ((Foot.refl V1 (fun k => k ≤ R)).grown hg9 (fun k' _ e h => by have := (HOn.out.lt k' e).1; omega)) (fun _ h => h)
        have hq : (enc (L.take (j + 1))).length = p + 1 + (uvar na).length := by rw [HTK.out, List.length_append, HENC.out, ← HPP.out]; simp <;> omega
        go_roundw
        case rel => exact ⟨j + 1, by omega, (HF.out.trans G1.out).grown hg9 (fun k' hk' e he => by have := (HOn.out.lt k' e).1; omega), by rw [hq]; exact hMR, by rw [List.take_add_one, HI1.out]; simpa [insCs, insC] using ho9⟩
        case measure => rw [posOf_eq hMR, HP0.out]; have := HLEN.out; rw [HENC.out] at this; simp at this; omega
      · rw [hn] at AC
        have HENC := Lib.hid (show Encode.encI ⟨(k : Int), ((na : Nat) : Int), ((nb : Nat) : Int)⟩ = [UInt8.ofNat k] ++ (uvar na ++ uvar nb) by unfold Encode.encI; simp only [hn]; simp)
        have HVA := Lib.hid (show ∀ m, m < (uvar na).length → bs[p + 1 + m]? = (uvar na)[m]? from fun m hm => by
          have := HAT.out (1 + m) (by rw [HENC.out]; simp <;> omega)
          rw [HENC.out] at this
          rw [Nat.add_assoc, this, Nat.add_comm 1 m]
          rw [List.singleton_append, List.getElem?_cons_succ, List.getElem?_append_left hm])
        have HLA := Lib.hid (show p + 1 + (uvar na).length ≤ bs.length by have := HLEN.out; rw [HENC.out] at this; simp at this <;> omega)
        have HVB := Lib.hid (show ∀ m, m < (uvar nb).length → bs[p + 1 + (uvar na).length + m]? = (uvar nb)[m]? from fun m hm => by
          have := HAT.out (1 + (uvar na).length + m) (by rw [HENC.out]; simp <;> omega)
          rw [HENC.out] at this
          rw [show p + 1 + (uvar na).length + m = p + (1 + (uvar na).length + m) by omega, this, show 1 + (uvar na).length + m = ((uvar na).length + m) + 1 by omega]
          rw [List.singleton_append, List.getElem?_cons_succ, List.getElem?_append_right (by omega), show (uvar na).length + m - (uvar na).length = m by omega])
        have HLB := Lib.hid (show p + 1 + (uvar na).length + (uvar nb).length ≤ bs.length by have := HLEN.out; rw [HENC.out] at this; simp at this <;> omega)
        clear hn HK1
        go_wp2_with (go_at_call 40; (with_reducible refine AC.out.mono ?_); rintro e w6 ⟨rfl, hb6⟩; have HB6 := Lib.hid hb6; clear hb6)
        clear x0
        obtain ⟨PB, hPB⟩ : ∃ X, X = w6.heap.size := ⟨_, rfl⟩
        obtain ⟨V0, hV0⟩ : ∃ W, W = w6.alloc (.cells #[.pointer (some ⟨X, 1, none⟩), .pointer (some ⟨X, 2, none⟩)] 108) := ⟨_, rfl⟩
        have c6 : Below w6.heap.size w6 V0 := by rw [hV0]; exact Base.bel
        have c5 : Below W5.heap.size W5 V0 := bchain HB6.out c6
        have KP0 : Blk V0 PB 108 #[.pointer (some ⟨X, 1, none⟩), .pointer (some ⟨X, 2, none⟩)] := by rw [hV0, hPB]; exact Blk.new _ _ _
        have G0 := Lib.hid (foot_chain HF5.out c5)
        have M0 := Lib.hid (HM5.out.below c5)
        have KX0 := Lib.hid (HK5.out.below c5 HK5.out.lt)
        have hXP : X < PB := by rw [hPB]; exact Nat.lt_of_lt_of_le HK5.out.lt HB6.out.size
        rw [← hPB, ← hV0]
        have HKP0 := Lib.hid KP0
        have px0 : V0.cell? ⟨PB, 0, none⟩ = some (.pointer (some ⟨X, 1, none⟩)) := KP0.cell 0
        have px1 : V0.cell? ⟨PB, 1, none⟩ = some (.pointer (some ⟨X, 2, none⟩)) := KP0.cell 1
        clear hPB hV0 c6 c5 KP0
        refine wp_loop_rounds 3 ?_
        rw [rounds_succ]
        go_wp2_with (go_at_call 41; (with_reducible refine (ruv_any na R (p + 1) bs AB bs.length V0 M0.out hna HVA.out HLA.out).mono ?_); rintro e u0 ⟨rfl, hf0, hm0⟩; have KX' := hf0.blk KX0.out (by omega); have xx : u0.cell? ⟨X, 1, none⟩ = some (.int .u64 0) := KX'.cell 1; have xf : u0.frozen? ⟨X, 1, none⟩ = false := KX'.frozen 1; have HF0' := Lib.hid hf0; have HM0' := Lib.hid hm0; have HKX0' := Lib.hid KX'; clear hf0 hm0 KX')
        clear px0 px1
        obtain ⟨V1, hV⟩ : ∃ W, W = u0.setCell ⟨X, 1, none⟩ (.int .u64 (na : Int)) := ⟨_, rfl⟩
        have KX1 := Lib.hid (show Blk V1 X 84 #[.int .i64 (k : Int), .int .u64 (na : Int), .int .u64 0] by rw [hV]; have := HKX0'.out.set_ 1 (.int .u64 (na : Int)); simpa using this)
        have st0 : Foot V0 V1 (fun k => k ≠ R ∧ k ≠ X) := by rw [hV]; exact (HF0'.out.imp (fun k _ h => h.1)).set_ (p := ⟨X, 1, none⟩) (fun _ h => h.2 rfl) _
        have G1 := Lib.hid (show Foot wr V1 (fun k => k ≠ R) by rw [hV]; exact ((G0.out.trans HF0'.out).set_ (p := ⟨X, 1, none⟩) (fun h => absurd h (by show ¬ X < wr.heap.size; omega)) _))
        have M1 := Lib.hid (show Rdr V1 R (p + 1 + (uvar na).length) bs AB bs.length by rw [hV]; exact HM0'.out.foot ((Foot.refl u0 _).set_ (p := ⟨X, 1, none⟩) (ok := fun k => k ≠ X) (fun _ h => h rfl) _) (fun k hk => by omega))
        have KP1 := st0.blk HKP0.out (by omega)
        have HKP1 := Lib.hid KP1
        have px0 : V1.cell? ⟨PB, 0, none⟩ = some (.pointer (some ⟨X, 1, none⟩)) := KP1.cell 0
        have px1 : V1.cell? ⟨PB, 1, none⟩ = some (.pointer (some ⟨X, 2, none⟩)) := KP1.cell 1
        rw [← hV]
        clear hV st0 KP1 xx xf
        rw [rounds_succ]
        go_wp2_with (go_at_call 41; (with_reducible refine (ruv_any nb R (p + 1 + (uvar na).length) bs AB bs.length V1 M1.out hnb HVB.out HLB.out).mono ?_); rintro e u1 ⟨rfl, hf1, hm1⟩; have KX' := hf1.blk KX1.out (by omega); have xx : u1.cell? ⟨X, 2, none⟩ = some (.int .u64 0) := KX'.cell 2; have xf : u1.frozen? ⟨X, 2, none⟩ = false := KX'.frozen 2; have HF1' := Lib.hid hf1; have HM1' := Lib.hid hm1; have HKX1' := Lib.hid KX'; clear hf1 hm1 KX')
        clear px0 px1
        obtain ⟨V2, hV⟩ : ∃ W, W = u1.setCell ⟨X, 2, none⟩ (.int .u64 (nb : Int)) := ⟨_, rfl⟩
        have KX2 := Lib.hid (show Blk V2 X 84 #[.int .i64 (k : Int), .int .u64 (na : Int), .int .u64 (nb : Int)] by rw [hV]; have := HKX1'.out.set_ 2 (.int .u64 (nb : Int)); simpa using this)
        have st1 : Foot V1 V2 (fun k => k ≠ R ∧ k ≠ X) := by rw [hV]; exact (HF1'.out.imp (fun k _ h => h.1)).set_ (p := ⟨X, 2, none⟩) (fun _ h => h.2 rfl) _
        have G2 := Lib.hid (show Foot wr V2 (fun k => k ≠ R) by rw [hV]; exact ((G1.out.trans HF1'.out).set_ (p := ⟨X, 2, none⟩) (fun h => absurd h (by show ¬ X < wr.heap.size; omega)) _))
        have M2 := Lib.hid (show Rdr V2 R (p + 1 + (uvar na).length + (uvar nb).length) bs AB bs.length by rw [hV]; exact HM1'.out.foot ((Foot.refl u1 _).set_ (p := ⟨X, 2, none⟩) (ok := fun k => k ≠ X) (fun _ h => h rfl) _) (fun k hk => by omega))
        have KP2 := st1.blk HKP1.out (by omega)
        have HKP2 := Lib.hid KP2
        have px0 : V2.cell? ⟨PB, 0, none⟩ = some (.pointer (some ⟨X, 1, none⟩)) := KP2.cell 0
        have px1 : V2.cell? ⟨PB, 1, none⟩ = some (.pointer (some ⟨X, 2, none⟩)) := KP2.cell 1
        rw [← hV]
        clear hV st1 KP2 xx xf
        have l0 : V2.cell? ⟨X, 0, none⟩ = some (.int .i64 (k : Int)) := KX2.out.cell 0
        have l1 : V2.cell? ⟨X, 1, none⟩ = some (.int .u64 (na : Int)) := KX2.out.cell 1
        have l2 : V2.cell? ⟨X, 2, none⟩ = some (.int .u64 (nb : Int)) := KX2.out.cell 2
        have HOn := Lib.hid (foot_own G2.out HO.out (fun g hg _ => by omega))
        have hgs := G2.out.size
        rw [rounds_succ]
        go_wp2_with (at_builtin; refine wpList_append1 (by rfl) _ _ (by rfl) insEl HOn.out (by rfl) (cs := #[.int .i64 (k : Int), .int .u64 (na : Int), .int .u64 (nb : Int)]) (by rfl) (by rfl) (by simp [Value.oneCell']) (by omega) (by unfold maxLen; omega) (by omega) ?_; intro v9 w9 ho9 hg9 _; obtain ⟨A9, c9, rfl⟩ := own_slice ho9)
        have hMR : Rdr w9 R (p + 1 + (uvar na).length + (uvar nb).length) bs AB bs.length := M2.out.foot ((Foot.refl V2 (fun k => k ≤ R)).grown hg9 (fun k' _ e h => by have := (HOn.out.lt k' e).1; omega)) (fun _ h => h)
        have hq : (enc (L.take (j + 1))).length = p + 1 + (uvar na).length + (uvar nb).length := by rw [HTK.out, List.length_append, HENC.out, ← HPP.out]; simp <;> omega
        go_roundw
        case rel => exact ⟨j + 1, by omega, (HF.out.trans G2.out).grown hg9 (fun k' hk' e he => by have := (HOn.out.lt k' e).1; omega), by rw [hq]; exact hMR, by rw [List.take_add_one, HI1.out]; simpa [insCs, insC] using ho9⟩
        case measure => rw [posOf_eq hMR, HP0.out]; have := HLEN.out; rw [HENC.out] at this; simp at this; omega
    · obtain rfl : j = L.length := by omega
      rw [List.take_length] at HM HO HP0
      have LC := Lib.hid (left_any R (enc L).length bs AB bs.length wr HM.out)
      rw [← HBS.out, Nat.sub_self] at LC
      go_wp2_with (go_at_call 38; (with_reducible refine LC.out.mono ?_); rintro e w3 ⟨rfl, hb3⟩; have HB3 := Lib.hid hb3; clear hb3)
      go_ret2
      exact ⟨A4, c4, rfl, slc_own (own_below HO.out HB3.out), HB2.out.trans ((foot_below HF.out (fun k hk => by have := HB2.out.size; omega) HB2.out.size).trans (HB3.out.mono (by have := HB2.out.size; omega)))⟩
end Go.Proofs.YtfpikilhbkeajaaGreatDoor.Decode
