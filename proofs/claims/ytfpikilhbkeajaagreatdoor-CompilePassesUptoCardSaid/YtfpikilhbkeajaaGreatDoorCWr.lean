/-
  The walks of the writer: NewWriter, Byte, Uvarint.
  isa.Args: an operation's operands, out of the table.
  codec.Concat of one list of bytes, and (*codec.Writer).Bytes.
-/
import Derived.Test.YtfpikilhbkeajaaGreatDoorCEmitB
import Derived.Laws.CopyOwn
set_option linter.unusedVariables false
set_option linter.unusedSimpArgs false
namespace Go.Proofs.YtfpikilhbkeajaaGreatDoor.Writer
set_option maxRecDepth 100000
open Go.RowKit Go.PlainAid Base EmitPlain EmitBase EmitPut EmitRaw

def uvar (n : Nat) : List UInt8 := if h : n < 128 then [UInt8.ofNat n] else UInt8.ofNat (n % 128 + 128) :: uvar (n / 128)
termination_by n
decreasing_by omega
structure Wr (w : World) (WB : Nat) (l : List UInt8) (v : Value) : Prop where
  blk : Blk w WB 163 #[v]
  own : w.ownsRow (WB + 1) 5 1 v l.length (byteCells l)
def KW (WB : Nat) (w w' : World) : Prop := ∀ g cs t fr, w.heap[g]? = some (Obj.cells cs t fr) → t ≠ 5 → g ≠ WB → w'.heap[g]? = some (Obj.cells cs t fr)
theorem KW.refl (WB : Nat) (w : World) : KW WB w w := fun _ _ _ _ h _ _ => h
theorem KW.trans {WB : Nat} {a b c : World} (h1 : KW WB a b) (h2 : KW WB b c) : KW WB a c := fun g cs t fr h ht hg => h2 g cs t fr (h1 g cs t fr h ht hg) ht hg
theorem Blk.kw {WB : Nat} {w w' : World} {g : Nat} {t : TypeId} {cs : Array Value} (h : Blk w g t cs) (k : KW WB w w') (ht : t ≠ 5) (hg : g ≠ WB) : Blk w' g t cs := k g cs t _ h ht hg
def WrE (w w' : World) (WB : Nat) (l : List UInt8) : Prop := Below WB w w' ∧ KW WB w w' ∧ ∃ v, Wr w' WB l v
theorem Wr.stay {w w' : World} {WB : Nat} {l : List UInt8} {v : Value} (m : Wr w WB l v) (hb : Below w.heap.size w w') : Wr w' WB l v := ⟨m.blk.below hb m.blk.lt, own_below m.own hb⟩
theorem bytEl : Elem Tryz.prog 38 5 (.int .u8 0) 1 1 := .mk_ (by kernel_rfl) (by kernel_rfl) rfl (by decide)
theorem bc_app (a b : List UInt8) : byteCells (a ++ b) = byteCells a ++ byteCells b := by simp [byteCells]
section
variable {w w5 : World} {WB : Nat} {l : List UInt8} {v v' : Value} {b : UInt8}
theorem Wr.lt (m : Wr w WB l v) : WB < w.heap.size := m.blk.lt
theorem Wr.more (m : Wr w WB l v) (ho : w5.ownsRow (WB + 1) 5 1 v' (l.length + 1) (byteCells l ++ [.int .u8 (b.toNat : Int)])) (hg : w.grownBy w5 v.ownBlock) :
    Blk w5 WB 163 #[v] ∧ Wr (w5.setCell ⟨WB, 0, none⟩ v') WB (l ++ [b]) v' ∧ Below WB w (w5.setCell ⟨WB, 0, none⟩ v') ∧ KW WB w (w5.setCell ⟨WB, 0, none⟩ v') := by
  have K5 := m.blk.grown hg fun e => own_far m.own (Nat.lt_succ_self _) e.symm
  have hlt := m.lt
  refine ⟨K5, ⟨?_, ?_⟩, ?_, ?_⟩
  · have := K5.set_ 0 v'
    simpa using this
  · rw [List.length_append, bc_app]
    exact own_setFar ho (p := ⟨WB, 0, none⟩) (own_far ho (Nat.lt_succ_self _)) _
  · have h1 : Below WB w w5 := grown_below hg (fun k e => by have := (m.own.lt k e).1; omega) (by omega)
    exact h1.setCell (p := ⟨WB, 0, none⟩) (Nat.le_refl _) _
  · intro g cs t fr h ht hne
    refine (Below.heap_setCell w5 ⟨WB, 0, none⟩ v' g hne).trans ((hg.block g (Array.getElem?_eq_some_iff.1 h).1 fun e => ?_).trans h)
    rcases m.own.2 with ⟨rfl, _⟩ | ⟨g', cap, cur, rfl, _, hg', _⟩
    · simp [Value.ownBlock] at e
    · simp only [Value.ownBlock, Option.some.injEq] at e
      subst e
      rw [hg'] at h
      exact ht (Obj.cells.inj (Option.some.inj h)).2.1.symm
end

theorem newWriter_any (w : World) : Calls Tryz.prog 52 #[] w fun e w' => e = .returned (.pointer (some ⟨w.heap.size, 0, none⟩)) ∧ Wr w' w.heap.size [] (.slice none 0 0) ∧ Below w.heap.size w w' := by
  go_enter Tryz.func52, Tryz.ntmps52
  go_wp2_with fail
  go_ret
  exact ⟨rfl, ⟨Blk.new w _ _, World.ownsRow_nil _ _ _ _⟩, by exact Base.bel⟩

theorem byte_any (WB : Nat) (l : List UInt8) (v : Value) (b : UInt8) (w : World) (m : Wr w WB l v) (hl : l.length ≤ 1099511627776) :
    Calls Tryz.prog 53 #[.pointer (some ⟨WB, 0, none⟩), .int .u8 (b.toNat : Int)] w fun e w' => e = .returned (.tuple #[]) ∧ WrE w w' WB (l ++ [b]) := by
  obtain ⟨A, c, rfl⟩ := own_slice m.own
  have e0 : w.cell? ⟨WB, 0, none⟩ = some (.slice A l.length c) := m.blk.cell 0
  have hW := m.lt
  go_enter Tryz.func53, Tryz.ntmps53
  go_wp2_with ((at_builtin; refine wpList_append1 (base := WB + 1) rfl _ _ rfl bytEl m.own rfl rfl rfl rfl (by omega) (by unfold maxLen; omega) hW ?_; intro v' w5 ho hg hb; obtain ⟨K5, M6, q6, k6⟩ := Wr.more m ho hg; have f5 : w5.frozen? ⟨WB, 0, none⟩ = false := K5.frozen 0; have e5 : w5.cell? ⟨WB, 0, none⟩ = some (.slice A l.length c) := K5.cell 0; obtain ⟨A5, c5, rfl⟩ := own_slice ho))
  go_end0
  exact ⟨rfl, q6, k6, _, M6⟩

theorem wrap8 (n : Nat) : IntKind.u8.wrap (n : Int) = ((n % 256 : Nat) : Int) := by
  unfold IntKind.wrap
  simp [IntKind.signed, IntKind.bits]
theorem uvar_small {n : Nat} (h : n < 128) : uvar n = [UInt8.ofNat n] := by rw [uvar, dif_pos h]
theorem uvar_big {n : Nat} (h : ¬ n < 128) : uvar n = UInt8.ofNat (n % 128 + 128) :: uvar (n / 128) := by rw [uvar, dif_neg h]
theorem uvar_len : ∀ (k n : Nat), n < 128 ^ (k + 1) → (uvar n).length ≤ k + 1
  | 0, n, h => by rw [uvar_small (by simpa using h)]; simp
  | k + 1, n, h => by
    by_cases hs : n < 128
    · rw [uvar_small hs]; simp
    · rw [uvar_big hs]
      have := uvar_len k (n / 128) (by rw [Nat.pow_succ] at h; exact Nat.div_lt_of_lt_mul (by rw [Nat.mul_comm]; exact h))
      simp only [List.length_cons]
      omega
theorem or8 : ∀ r : Fin 256, bits .or .u8 ((r.val : Nat) : Int) 128 = ((r.val % 128 + 128 : Nat) : Int) := by decide
theorem byte_or (k : Nat) : bits .or .u8 ((k : Int) % 256) 128 = ((UInt8.ofNat (k % 128 + 128)).toNat : Int) := by
  have h := or8 ⟨k % 256, Nat.mod_lt _ (by decide)⟩
  simp only at h
  rw [show ((k : Int) % 256) = ((k % 256 : Nat) : Int) by omega, h]
  rw [show k % 256 % 128 = k % 128 by omega]
  have : (UInt8.ofNat (k % 128 + 128)).toNat = k % 128 + 128 := by
    rw [UInt8.toNat_ofNat']
    omega
  rw [this]
theorem byte_low {k : Nat} (h : k < 128) : ((k : Int) % 256) = ((UInt8.ofNat k).toNat : Int) := by
  have : (UInt8.ofNat k).toNat = k := by
    rw [UInt8.toNat_ofNat']
    omega
  rw [this]; omega
set_option maxHeartbeats 1000000 in
theorem uvarint_any (n : Nat) (WB : Nat) (l : List UInt8) (v : Value) (w : World) (hn : n < 18446744073709551616) (m : Wr w WB l v) (hl : l.length ≤ 1099511627776) :
    Calls Tryz.prog 54 #[.pointer (some ⟨WB, 0, none⟩), .int .u64 (n : Int)] w fun e w' => e = .returned (.tuple #[]) ∧ WrE w w' WB (l ++ uvar n) := by
  have hln : (uvar n).length ≤ 10 := uvar_len 9 n (by omega)
  have HM := Lib.hid m
  have HLN := Lib.hid hln
  clear m hln
  go_enter Tryz.func54, Tryz.ntmps54
  go_wp2_with fail
  go_loopw [1] (fun s wr => ∃ (k : Nat) (pre : List UInt8) (v1 : Value), s = .int .u64 (k : Int) ∧ k < 18446744073709551616 ∧ pre ++ uvar k = uvar n ∧ (Below WB w wr ∧ KW WB w wr) ∧ Wr wr WB (l ++ pre) v1) (fun s _ => (intOf s).toNat)
  case atStart => exact ⟨n, [], v, rfl, hn, rfl, ⟨Below.refl _ _, KW.refl _ _⟩, by rw [List.append_nil]; exact HM.out⟩
  case round =>
    obtain ⟨k, pre, v1, rfl, hk, hpre, hbel, hm⟩ := hrel
    obtain ⟨lp, hlp0⟩ : ∃ x, x = l ++ pre := ⟨_, rfl⟩
    rw [← hlp0] at hm
    have HLP := Lib.hid hlp0
    obtain ⟨A, c, rfl⟩ := own_slice hm.own
    have e0 : wr.cell? ⟨WB, 0, none⟩ = some (.slice A lp.length c) := hm.blk.cell 0
    have hW := hm.lt
    have hpl : pre.length ≤ 10 := by have := HLN.out; rw [← hpre, List.length_append] at this; omega
    have hlp : lp.length ≤ 1099511627790 := by rw [hlp0, List.length_append]; omega
    clear hlp0
    have w8 := wrap8 k
    have HPRE := Lib.hid hpre
    have HH := Lib.hid hm
    have HB := Lib.hid hbel
    clear hpre hm hbel
    by_cases h : k < 128
    · have d1 : decide ((128 : Int) ≤ (k : Int)) = false := decide_eq_false (by omega)
      have d1n : decide (128 ≤ k) = false := decide_eq_false (by omega)
      have hbv := Lib.hid (byte_low h)
      have HK := Lib.hid h
      clear h
      go_wp2_with ((at_builtin; rw [hbv.out]; refine wpList_append1 (base := WB + 1) rfl _ _ rfl bytEl HH.out.own rfl rfl rfl rfl (by omega) (by unfold maxLen; omega) hW ?_; intro v' w5 ho hg hb; obtain ⟨K5, M6, q6, k6⟩ := Wr.more HH.out ho hg; have f5 : w5.frozen? ⟨WB, 0, none⟩ = false := K5.frozen 0; have e5 : w5.cell? ⟨WB, 0, none⟩ = some (.slice A lp.length c) := K5.cell 0; obtain ⟨A5, c5, rfl⟩ := own_slice ho))
      go_end0
      refine ⟨rfl, HB.out.1.trans q6, HB.out.2.trans k6, .slice A5 (lp.length + 1) c5, ?_⟩
      rw [← HPRE.out, uvar_small HK.out, ← List.append_assoc, ← HLP.out]
      exact M6
    · have d1 : decide ((128 : Int) ≤ (k : Int)) = true := decide_eq_true (by omega)
      have d1n : decide (128 ≤ k) = true := decide_eq_true (by omega)
      have hbv := Lib.hid (byte_or k)
      have HK := Lib.hid h
      clear h
      go_wp2_with ((at_builtin; rw [hbv.out]; refine wpList_append1 (base := WB + 1) rfl _ _ rfl bytEl HH.out.own rfl rfl rfl rfl (by omega) (by unfold maxLen; omega) hW ?_; intro v' w5 ho hg hb; obtain ⟨K5, M6, q6, k6⟩ := Wr.more HH.out ho hg; have f5 : w5.frozen? ⟨WB, 0, none⟩ = false := K5.frozen 0; have e5 : w5.cell? ⟨WB, 0, none⟩ = some (.slice A lp.length c) := K5.cell 0; obtain ⟨A5, c5, rfl⟩ := own_slice ho))
      have hk0 : ¬ k < 128 := HK.out
      refine ⟨⟨k / 128, pre ++ [UInt8.ofNat (k % 128 + 128)], .slice A5 (lp.length + 1) c5, by rw [show ((k : Int) / 128) = ((k / 128 : Nat) : Int) by omega], by omega, ?_, ⟨HB.out.1.trans q6, HB.out.2.trans k6⟩, ?_⟩, ?_⟩
      · rw [← HPRE.out, uvar_big hk0, List.append_assoc]; rfl
      · rw [← List.append_assoc, ← HLP.out]; exact M6
      · simp only [intOf]
        omega
end Go.Proofs.YtfpikilhbkeajaaGreatDoor.Writer

namespace Go.Proofs.YtfpikilhbkeajaaGreatDoor.Args
set_option maxRecDepth 100000
open Go.RowKit Go.PlainAid Base

def argN (k : Nat) : Nat := if k = 3 ∨ k = 12 ∨ k = 13 ∨ k = 15 ∨ k = 16 then 1 else if k = 4 ∨ k = 5 ∨ k = 14 then 2 else 0
def okN (k : Int) : Bool := decide (0 ≤ k) && decide (k < 17)
def argI (k : Int) : Nat := if okN k then argN k.toNat else 0
def Tab (w : World) : Prop := ∀ k : Nat, k < 17 → w.cell? ⟨24, k * 2 + 1, none⟩ = some (.int .i64 (argN k : Int))
theorem Tab.below {w w' : World} {B : Nat} (h : Tab w) (hb : Below B w w') (hB : 24 < B) : Tab w' := fun k hk => (hb.cell (p := ⟨24, k * 2 + 1, none⟩) hB).trans (h k hk)

theorem args_any (k : Int) (w : World) (T : Tab w) : Calls Tryz.prog 40 #[.int .i64 k] w fun e w' => e = .returned (.tuple #[.int .i64 (argI k : Int), .bool (okN k)]) ∧ Below w.heap.size w w' := by
  rcases (by omega : k < 0 ∨ 0 ≤ k) with h | h
  · have b1 : decide (k < 0) = true := decide_eq_true h
    have e1 : okN k = false := by unfold okN; rw [decide_eq_false (by omega)]; rfl
    have e2 : argI k = 0 := by unfold argI; rw [e1]; rfl
    rw [e1, e2]
    go_enter Tryz.func40, Tryz.ntmps40
    go_wp2_with fail
    go_ret2
    exact ⟨rfl, by exact Base.bel⟩
  rcases (by omega : k < 17 ∨ 17 ≤ k) with h2 | h2
  · obtain ⟨n, rfl⟩ := Int.eq_ofNat_of_zero_le h
    have b1 : decide ((n : Int) < 0) = false := decide_eq_false (by omega)
    have b2 : decide ((17 : Int) ≤ (n : Int)) = false := decide_eq_false (by omega)
    have hn : n < 17 := by omega
    have e1 : okN (n : Int) = true := by unfold okN; rw [decide_eq_true h, decide_eq_true h2]; rfl
    have e2 : argI (n : Int) = argN n := by unfold argI; rw [e1]; simp
    have c1 := T n hn
    rw [e1, e2]
    clear T e1 e2 h h2
    go_enter Tryz.func40, Tryz.ntmps40
    go_wp2_with fail
    go_ret2
    exact ⟨rfl, by exact Base.bel⟩
  · have b1 : decide (k < 0) = false := decide_eq_false (by omega)
    have b2 : decide (17 ≤ k) = true := decide_eq_true h2
    have e1 : okN k = false := by unfold okN; rw [decide_eq_true h, decide_eq_false (by omega)]; rfl
    have e2 : argI k = 0 := by unfold argI; rw [e1]; rfl
    rw [e1, e2]
    go_enter Tryz.func40, Tryz.ntmps40
    go_wp2_with fail
    go_ret2
    exact ⟨rfl, by exact Base.bel⟩
end Go.Proofs.YtfpikilhbkeajaaGreatDoor.Args

namespace Go.Proofs.YtfpikilhbkeajaaGreatDoor.Concat
set_option maxRecDepth 100000
open Go.RowKit Go.PlainAid Base EmitPlain EmitBase Writer

theorem bytElem : (Tryz.prog.info? 5).map (fun i => (i.zero, i.size, i.bytes)) = some (some (.int .u8 0), 1, 1) := by kernel_rfl
theorem bc_one (l : List UInt8) : ∀ v ∈ byteCells l, v.oneCell' = true := by
  intro v hv
  unfold byteCells at hv
  obtain ⟨b, _, rfl⟩ := List.mem_map.1 hv
  rfl

theorem own_full {w : World} {base g n : Nat} {e : TypeId} {xs : List Value} (h : w.ownsRow base e 1 (.slice (some ⟨g, 0, none⟩) n n) n xs) : w.heap[g]? = some (.cells xs.toArray e (0, 0)) ∧ xs.length = n := by
  obtain ⟨hl, hh⟩ := h
  refine ⟨?_, by omega⟩
  rcases hh with ⟨h1, _⟩ | ⟨g', cap, cur, hv, _, hg, _, _, hc, ht⟩
  · exact absurd h1 (by simp)
  · simp only [Value.slice.injEq, Option.some.injEq, Addr.mk.injEq] at hv
    obtain ⟨⟨rfl, _⟩, _, rfl⟩ := hv
    rw [hg, ← ht, List.take_of_length_le (by simp; omega)]
theorem splice_all {L X : List Value} (h : X.length = L.length) : splice L 0 X = X := by
  unfold splice
  rw [List.take_zero, List.nil_append, List.drop_of_length_le (by omega), List.append_nil]

set_option maxHeartbeats 4000000 in
theorem concat1 (SB N : Nat) (A : Option Addr) (c n : Nat) (X : List Value) (hX : X.length = n) (h1 : ∀ v ∈ X, v.oneCell' = true) (w : World) (hs : w.cell? ⟨SB, 0, none⟩ = some (.slice A n c)) (hB : SB < w.heap.size) (hN : N ≤ w.heap.size) (S : Slc w N A X) (hn : n ≤ 1099511627776) :
    Calls Tryz.prog 66 #[.slice (some ⟨SB, 0, none⟩) 1 1] w fun e w' => e = .returned (.slice (some ⟨w.heap.size, 0, none⟩) n n) ∧ Below w.heap.size w w' ∧ Slc w' (w.heap.size + 1) (some ⟨w.heap.size, 0, none⟩) X := by
  obtain ⟨i0, hi, hz0, hz1, hz2⟩ := info_parts bytElem
  have HX := Lib.hid hX
  have H1 := Lib.hid h1
  have HS := Lib.hid S
  clear hX h1 S
  go_enter Tryz.func66, Tryz.ntmps66
  go_wp2_with fail
  refine wp_loop_rounds 2 ?_
  rw [rounds_succ]
  go_wp2_with fail
  rw [rounds_succ]
  go_wp2_with (at_make; refine wpList_make_full _ rfl _ _ 38 rfl w.heap.size 5 i0 _ 1 Tryz.underlying38 hi hz0 hz1 .i64 .i64 _ _ n rfl rfl rfl rfl (by rw [hz2]; omega) (by unfold maxLen; omega) (Nat.le_refl _) ?_; intro w1 hown1 hg1; have q1 : Below w.heap.size w w1 := (Below.refl _ _).grown hg1 (Nat.le_refl _) (by simp); have e1 : w1.cell? ⟨SB, 0, none⟩ = some (.slice A n c) := (q1.cell (p := ⟨SB, 0, none⟩) hB).trans hs; obtain ⟨r1, l1⟩ := own_full hown1; generalize (madeCells (Value.cells _) _).toList = X0 at r1 l1; have R1 := Lib.hid r1; have L1 := Lib.hid l1; clear hown1 hg1 r1 l1)
  refine wp_loop_rounds 2 ?_
  rw [rounds_succ]
  go_wp2_with (refine wpList_copy_splice rfl _ _ _ _ rfl 5 Tryz.underlying38 (by kernel_rfl) _ _ _ _ _ _ rfl rfl w.heap.size 0 X0 5 R1.out X (by rw [HX.out]; simp) (fun hp => ?_) (by rw [HX.out, L1.out]; omega) H1.out w.heap.size w q1 (Nat.le_refl _) ?_)
  · obtain ⟨g, o, e, hg, hc⟩ := HS.out (by intro h; rw [h] at hp; simp at hp)
    refine ⟨⟨g, o, none⟩, e, fun j v hv => ?_⟩
    rw [Addr.add_lit]
    exact (q1.cell (p := ⟨g, o + j, none⟩) (show g < w.heap.size by omega)).trans (hc j v hv)
  intro w2 h2 hb2
  have E2 := Lib.hid (show w2.heap[w.heap.size]? = some (Obj.cells X.toArray 5 (0, 0)) by rw [h2.out, splice_all (by rw [HX.out, L1.out])])
  clear h2
  go_wp2_with fail
  rw [rounds_succ]
  go_wp2_with fail
  go_ret
  refine ⟨rfl, hb2, fun _ => ⟨w.heap.size, 0, rfl, Nat.lt_succ_self _, fun j u hu => ?_⟩⟩
  have := E2.out
  rw [Nat.zero_add]
  unfold World.cell?
  simp [this, hu]

theorem bytes_any (WB : Nat) (l : List UInt8) (v : Value) (w : World) (m : Wr w WB l v) (hl : l.length ≤ 1099511627776) :
    Calls Tryz.prog 55 #[.pointer (some ⟨WB, 0, none⟩)] w fun e w' => ∃ A, e = .returned (.slice A l.length l.length) ∧ Below w.heap.size w w' ∧ Slc w' (w.heap.size + 2) A (byteCells l) := by
  obtain ⟨A, c, rfl⟩ := own_slice m.own
  have e0 : w.cell? ⟨WB, 0, none⟩ = some (.slice A l.length c) := m.blk.cell 0
  have hW := m.lt
  have S := slc_own m.own
  obtain ⟨n, hn⟩ : ∃ n, n = l.length := ⟨_, rfl⟩
  obtain ⟨X, hX⟩ : ∃ X, X = byteCells l := ⟨_, rfl⟩
  have hXn : X.length = n := by rw [hX, hn]; simp [byteCells]
  have h1 : ∀ v ∈ X, v.oneCell' = true := by rw [hX]; exact bc_one l
  rw [← hn] at hl e0
  rw [← hX] at S
  rw [← hn, ← hX]
  obtain ⟨W1, hW1⟩ : ∃ W, W = w.alloc (.cells #[.slice A n c] 38) := ⟨_, rfl⟩
  have q1 : Below w.heap.size w W1 := by rw [hW1]; exact Base.bel
  have z1 : W1.heap.size = w.heap.size + 1 := by rw [hW1]; simp
  have c1 : W1.cell? ⟨w.heap.size, 0, none⟩ = some (.slice A n c) := by
    rw [hW1]
    exact (Blk.new w 38 #[.slice A n c]).cell 0
  have CC := concat1 w.heap.size w.heap.size A c n X hXn h1 W1 c1 (by omega) (by omega) (S.below q1 (Nat.le_refl _)) hl
  rw [z1] at CC
  have C := Lib.hid CC
  have HW := Lib.hid hW1
  clear CC hW1 S hn hX hXn h1 m c1
  go_enter Tryz.func55, Tryz.ntmps55
  go_wp2_with (go_at_call 66; rw [← HW.out]; refine C.out.mono ?_; rintro e w2 ⟨rfl, q2, S2⟩)
  go_ret
  exact ⟨_, rfl, bchain q1 (q2.mono (by omega)), S2⟩
end Go.Proofs.YtfpikilhbkeajaaGreatDoor.Concat
