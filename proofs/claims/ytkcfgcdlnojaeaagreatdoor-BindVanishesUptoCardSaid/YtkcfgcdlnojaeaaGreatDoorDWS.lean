/-
  The walk of auto.Literal over whatever text.
  The walk of bind.wild over any node and field.
  The walk of bind.span over any node and field.
-/
import Derived.Test.YtkcfgcdlnojaeaaGreatDoorDByt
import Derived.Deep.Cut
import Derived.Deep.RegionLaw
import Derived.Test.YtkcfgcdlnojaeaaGreatDoorDNodT
import Derived.Test.YtkcfgcdlnojaeaaGreatDoorDLeafB
import Derived.Deep.CutRange
set_option linter.unusedVariables false
set_option linter.unusedSimpArgs false
namespace Go.Proofs.YtkcfgcdlnojaeaaGreatDoor.LitWalk
set_option maxRecDepth 100000
open Go.RowKit Go.PlainAid Base Bytes Quoted

def mark (n : Int) : Bool := n == 42 || n == 63 || n == 92
def litb (n : Int) : List UInt8 := if mark n then [92, UInt8.ofNat n.toNat] else [UInt8.ofNat n.toNat]
def litF (s : ByteArray) (k : Nat) : List UInt8 := (List.range k).flatMap fun i => litb (bt s i)
def litS (s : ByteArray) : ByteArray := ⟨(litF s s.size).toArray⟩
theorem litF_succ (s : ByteArray) (k : Nat) : litF s (k + 1) = litF s k ++ litb (bt s k) := by simp [litF, List.range_succ]
theorem litb_len (n : Int) : (litb n).length ≤ 2 := by unfold litb; split <;> simp
theorem litF_len (s : ByteArray) (k : Nat) : (litF s k).length ≤ 2 * k := by
  induction k with
  | zero => simp [litF]
  | succ k ih => rw [litF_succ, List.length_append]; have := litb_len (bt s k); omega
theorem litb_yes {n : Int} (h : n = 42 ∨ n = 63 ∨ n = 92) : litb n = [92] ++ [UInt8.ofNat n.toNat] := by
  have e : mark n = true := by rcases h with rfl | rfl | rfl <;> rfl
  unfold litb
  rw [e]
  rfl
theorem litb_no {n : Int} (h1 : n ≠ 42) (h2 : n ≠ 63) (h3 : n ≠ 92) : litb n = [UInt8.ofNat n.toNat] := by
  have e : mark n = false := by unfold mark; rw [beq_eq_false_iff_ne.2 h1, beq_eq_false_iff_ne.2 h2, beq_eq_false_iff_ne.2 h3]; rfl
  unfold litb
  rw [e]
  rfl

theorem AddB.bel {base : Nat} {w w' : World} {v v' : Value} {l m : List UInt8} (h : AddB base w v l m v' w') (hown : Byt w base v l) (hb : base ≤ w.heap.size) : Below base w w' := below_own (Below.refl _ _) hown hb h.2.1
set_option maxHeartbeats 4000000 in
theorem lit_any (s : ByteArray) (w : World) (hs : s.size ≤ 2097152) : Calls Tryz.prog 38 #[.string s] w fun e w' => e = .returned (.string (litS s)) ∧ Below w.heap.size w w' := by
  go_enter Tryz.func38, Tryz.ntmps38
  go_wp2_with fail
  go_loopw [7, 3] (fun i u wr => ∃ (k : Nat) (v2 : Value), k ≤ s.size ∧ i = .int .i64 k ∧ u = v2 ∧ Byt wr w.heap.size v2 (litF s k) ∧ Below w.heap.size w wr) (fun i _ _ => s.size - (intOf i).toNat)
  case atStart => exact ⟨0, _, Nat.zero_le _, rfl, rfl, World.ownsRow_nil _ _ _ _, (by exact Base.bel)⟩
  case round =>
    obtain ⟨k, v2, hk, rfl, rfl, hown, hbel⟩ := hrel
    have hq := litF_len s k
    have hbr := hbel.size
    rcases Nat.lt_or_ge k s.size with hlt | hge
    · have hgb := get_bt s
      have r0 := bt_nonneg s k
      have r1 := bt_le s k
      have i2 : (k : Int) < s.size := by omega
      have i3 : (k : Int) < 9223372036854775807 := by omega
      have HLS := Lib.hid (litF_succ s k)
      by_cases hm : bt s k = 42 ∨ bt s k = 63 ∨ bt s k = 92
      · have HL := Lib.hid (HLS.out.trans (by rw [litb_yes hm] : _ = litF s k ++ ([92] ++ [UInt8.ofNat (bt s k).toNat])))
        have ho2 := hown.below (Below.alloc (Below.refl wr.heap.size wr) (Nat.le_refl _) (.cells #[.int .u8 92] 5))
        have hsr2 := src_blk (Blk.new wr 5 #[.int .u8 92]) [92] rfl
        rcases (by omega : bt s k = 42 ∨ (bt s k ≠ 42 ∧ bt s k = 63) ∨ (bt s k ≠ 42 ∧ bt s k ≠ 63 ∧ bt s k = 92)) with c | ⟨c1, c⟩ | ⟨c1, c2, c⟩
        all_goals
          first
          | (have b1 : (bt s k == 42) = true := beq_iff_eq.2 c)
          | (have b1 : (bt s k == 42) = false := beq_eq_false_iff_ne.2 c1
             have b2 : (bt s k == 63) = true := beq_iff_eq.2 c)
          | (have b1 : (bt s k == 42) = false := beq_eq_false_iff_ne.2 c1
             have b2 : (bt s k == 63) = false := beq_eq_false_iff_ne.2 c2
             have b3 : (bt s k == 92) = true := beq_iff_eq.2 c)
          clear c hm
          go_upto_region 7 with (at_builtin; refine wpList_addB rfl _ _ rfl rfl ho2 rfl hsr2 (by exact Nat.zero_lt_one) (by simp; omega) (by simp; omega) ?_; intro v3 w3 ha3)
          have s3 := ha3.2.1.size
          have ho3 := ha3.1.below (Below.alloc (Below.refl w3.heap.size w3) (Nat.le_refl _) (.cells #[.int .u8 (bt s k)] 5))
          have hsr3 := src_blk (Blk.new w3 5 #[.int .u8 (bt s k)]) [UInt8.ofNat (bt s k).toNat] (byte_cell r0 r1).symm
          have hb3 := hbel.trans (Below.trans ((Below.refl w.heap.size wr).alloc hbr (.cells #[.int .u8 92] 5)) (AddB.bel ha3 ho2 (by simp; omega)))
          have hsz3 : w.heap.size ≤ w3.heap.size := hb3.size
          clear ho2 hsr2
          go_wp2_with (at_builtin; refine wpList_addB rfl _ _ rfl rfl ho3 rfl hsr3 (by exact Nat.zero_lt_one) (by simp; omega) (by simp; omega) ?_; intro v4 w4 ha4)
          go_roundw
          case rel =>
            refine ⟨k + 1, v4, by omega, by go_num, rfl, ?_, hb3.trans (Below.trans ((Below.refl w.heap.size w3).alloc hsz3 _) (AddB.bel ha4 ho3 (by simp; omega)))⟩
            rw [HL.out, ← List.append_assoc]
            exact ha4.1
          case measure => simp [intOf]; omega
      · have c1 : bt s k ≠ 42 := fun h => hm (.inl h)
        have c2 : bt s k ≠ 63 := fun h => hm (.inr (.inl h))
        have c3 : bt s k ≠ 92 := fun h => hm (.inr (.inr h))
        have HL := Lib.hid (HLS.out.trans (by rw [litb_no c1 c2 c3] : _ = litF s k ++ [UInt8.ofNat (bt s k).toNat]))
        have b1 : (bt s k == 42) = false := beq_eq_false_iff_ne.2 c1
        have b2 : (bt s k == 63) = false := beq_eq_false_iff_ne.2 c2
        have b3 : (bt s k == 92) = false := beq_eq_false_iff_ne.2 c3
        have ho2 := hown.below (Below.alloc (Below.refl wr.heap.size wr) (Nat.le_refl _) (.cells #[.int .u8 (bt s k)] 5))
        have hsr2 := src_blk (Blk.new wr 5 #[.int .u8 (bt s k)]) [UInt8.ofNat (bt s k).toNat] (byte_cell r0 r1).symm
        clear c1 c2 c3 hm
        go_wp2_with (at_builtin; refine wpList_addB rfl _ _ rfl rfl ho2 rfl hsr2 (by exact Nat.zero_lt_one) (by simp; omega) (by simp; omega) ?_; intro v3 w3 ha3)
        go_roundw
        case rel =>
          refine ⟨k + 1, v3, by omega, by go_num, rfl, ?_, hbel.trans (Below.trans ((Below.refl w.heap.size wr).alloc hbr _) (AddB.bel ha3 ho2 (by simp; omega)))⟩
          rw [HL.out]
          exact ha3.1
        case measure => simp [intOf]; omega
    · obtain rfl : k = s.size := by omega
      have hcv := run_string_own (P := Tryz.prog) (B := 82) (S := 9) u8und Tryz.underlying5 Tryz.underlying9 hown
      have i2 : ¬ ((s.size : Int) < s.size) := by omega
      go_wp2_with fail
      go_ret
      exact ⟨rfl, hbel⟩
end Go.Proofs.YtkcfgcdlnojaeaaGreatDoor.LitWalk

namespace Go.Proofs.YtkcfgcdlnojaeaaGreatDoor.WildBind
set_option maxRecDepth 100000
open Go.RowKit Go.PlainAid Base Bytes Query NodeTree NodePlain BindBase NodeTerm WordPlain WordsOne OpenField FieldPlain WordsAny PhraseBase WordsMany LeafBase FoldPlain FoldLeaf Quoted LitWalk Rel Relb RelbT RelbA

def flushS (f : Fld) (run : List UInt8) : ByteArray := litS (foldedS f ⟨run.toArray⟩)
def byB (s : ByteArray) (i : Nat) : UInt8 := UInt8.ofNat (bt s i).toNat
def wGo (f : Fld) (s : ByteArray) (i : Nat) (out : ByteArray) (run : List UInt8) : ByteArray :=
  if i < s.size then
    if bt s i = 42 ∨ bt s i = 63 then wGo f s (i + 1) ((out ++ flushS f run) ++ s.extract i (i + 1)) []
    else if bt s i = 92 then if i + 1 < s.size then wGo f s (i + 2) out (run ++ [byB s (i + 1)]) else out
    else wGo f s (i + 1) out (run ++ [byB s i])
  else out ++ flushS f run
termination_by s.size - i
def wildQ (f : Fld) (at_ : Int) (T : ByteArray) : Qry := if f.kd = 3 then noneQ else .mk (bareH 7 at_ (wGo f T 0 ⟨#[]⟩ [])) []
theorem litS_size (s : ByteArray) : (litS s).size ≤ 2 * s.size := by
  have h : (litS s).size = (litF s s.size).length := List.size_toArray ..
  rw [h]
  exact litF_len s s.size
theorem run_size (l : List UInt8) : (⟨l.toArray⟩ : ByteArray).size = l.length := List.size_toArray ..
theorem flush_size (f : Fld) (run : List UInt8) : (flushS f run).size ≤ 2 * run.length := by
  unfold flushS
  have := litS_size (foldedS f ⟨run.toArray⟩)
  rw [folded_size, run_size] at this
  exact this
structure WI (w : World) (s : Nat) (wr : World) (nd fld : Array Value) (out : ByteArray) (run : List UInt8) (v : Value) : Prop where
  bel : Below w.heap.size w wr
  KN : Blk wr w.heap.size 39 nd
  KF : Blk wr (w.heap.size + 1) 67 fld
  KR : Blk wr (w.heap.size + 1 + 1) 29 (bareQ 0 0 ⟨#[]⟩)
  KO : Blk wr (s + 1) 9 #[.string out]
  KB : Blk wr (s + 1 + 1) 82 #[v]
  own : Byt wr s v run
  hs : w.heap.size + 3 = s
section
variable {w wr wx : World} {s : Nat} {nd fld : Array Value} {out : ByteArray} {run : List UInt8} {v : Value}
theorem WI.below (h : WI w s wr nd fld out run v) (hb : Below wr.heap.size wr wx) : WI w s wx nd fld out run v :=
  ⟨h.bel.trans (hb.mono h.bel.size), h.KN.below hb h.KN.lt, h.KF.below hb h.KF.lt, h.KR.below hb h.KR.lt, h.KO.below hb h.KO.lt, h.KB.below hb h.KB.lt, h.own.below hb, h.hs⟩
theorem WI.setOut (h : WI w s wr nd fld out run v) (out' : ByteArray) : WI w s (wr.setCell ⟨s + 1, 0, none⟩ (.string out')) nd fld out' run v := by
  refine ⟨h.bel.setCell (p := ⟨s + 1, 0, none⟩) (show w.heap.size ≤ s + 1 by have := h.hs; omega) _, h.KN.far (p := ⟨s + 1, 0, none⟩) (show w.heap.size ≠ s + 1 by have := h.hs; omega) _, h.KF.far (p := ⟨s + 1, 0, none⟩) (show w.heap.size + 1 ≠ s + 1 by have := h.hs; omega) _, h.KR.far (p := ⟨s + 1, 0, none⟩) (show w.heap.size + 1 + 1 ≠ s + 1 by have := h.hs; omega) _, ?_, h.KB.far (p := ⟨s + 1, 0, none⟩) (show s + 1 + 1 ≠ s + 1 by have := h.hs; omega) _, own_setFar h.own (p := ⟨s + 1, 0, none⟩) (own_ne h.own h.KO (by decide)) _, h.hs⟩
  have := h.KO.set_ 0 (.string out')
  simpa using this
theorem WI.setRun {run' : List UInt8} {v' : Value} (h : WI w s wr nd fld out run v) (hv : Byt wr s v' run') : WI w s (wr.setCell ⟨s + 1 + 1, 0, none⟩ v') nd fld out run' v' := by
  refine ⟨h.bel.setCell (p := ⟨s + 1 + 1, 0, none⟩) (show w.heap.size ≤ s + 1 + 1 by have := h.hs; omega) _, h.KN.far (p := ⟨s + 1 + 1, 0, none⟩) (show w.heap.size ≠ s + 1 + 1 by have := h.hs; omega) _, h.KF.far (p := ⟨s + 1 + 1, 0, none⟩) (show w.heap.size + 1 ≠ s + 1 + 1 by have := h.hs; omega) _, h.KR.far (p := ⟨s + 1 + 1, 0, none⟩) (show w.heap.size + 1 + 1 ≠ s + 1 + 1 by have := h.hs; omega) _, h.KO.far (p := ⟨s + 1 + 1, 0, none⟩) (show s + 1 ≠ s + 1 + 1 by have := h.hs; omega) _, ?_, own_setFar hv (p := ⟨s + 1 + 1, 0, none⟩) (own_ne hv h.KB (by decide)) _, h.hs⟩
  have := h.KB.set_ 0 v'
  simpa using this
theorem WI.grown {run' : List UInt8} {v' : Value} (h : WI w s wr nd fld out run v) (ha : AddB s wr v run run' v' wx) : Below w.heap.size w wx ∧ Blk wx w.heap.size 39 nd ∧ Blk wx (w.heap.size + 1) 67 fld ∧ Blk wx (w.heap.size + 1 + 1) 29 (bareQ 0 0 ⟨#[]⟩) ∧
    Blk wx (s + 1) 9 #[.string out] ∧ Blk wx (s + 1 + 1) 82 #[v] :=
  ⟨h.bel.trans ((below_own (Below.refl s wr) h.own (by have := h.KB.lt; omega) ha.2.1).mono (by have := h.hs; omega)), h.KN.grown ha.2.1 (fun e => own_ne h.own h.KN (by decide) e.symm), h.KF.grown ha.2.1 (fun e => own_ne h.own h.KF (by decide) e.symm), h.KR.grown ha.2.1 (fun e => own_ne h.own h.KR (by decide) e.symm), h.KO.grown ha.2.1 (fun e => own_ne h.own h.KO (by decide) e.symm), h.KB.grown ha.2.1 (fun e => own_ne h.own h.KB (by decide) e.symm)⟩
theorem WI.put {run' : List UInt8} {v' : Value} (hs : w.heap.size + 3 = s) (g : Below w.heap.size w wx ∧ Blk wx w.heap.size 39 nd ∧ Blk wx (w.heap.size + 1) 67 fld ∧ Blk wx (w.heap.size + 1 + 1) 29 (bareQ 0 0 ⟨#[]⟩) ∧
    Blk wx (s + 1) 9 #[.string out] ∧ Blk wx (s + 1 + 1) 82 #[v]) (hv : Byt wx s v' run') : WI w s (wx.setCell ⟨s + 1 + 1, 0, none⟩ v') nd fld out run' v' := by
  obtain ⟨b, kn, kf, kr, ko, kb⟩ := g
  refine ⟨b.setCell (p := ⟨s + 1 + 1, 0, none⟩) (show w.heap.size ≤ s + 1 + 1 by omega) _, kn.far (p := ⟨s + 1 + 1, 0, none⟩) (show w.heap.size ≠ s + 1 + 1 by omega) _, kf.far (p := ⟨s + 1 + 1, 0, none⟩) (show w.heap.size + 1 ≠ s + 1 + 1 by omega) _, kr.far (p := ⟨s + 1 + 1, 0, none⟩) (show w.heap.size + 1 + 1 ≠ s + 1 + 1 by omega) _, ko.far (p := ⟨s + 1 + 1, 0, none⟩) (show s + 1 ≠ s + 1 + 1 by omega) _, ?_, own_setFar hv (p := ⟨s + 1 + 1, 0, none⟩) (own_ne hv kb (by decide)) _, hs⟩
  have := kb.set_ 0 v'
  simpa using this
theorem byt_cut {base : Nat} {A : Option Addr} {n c : Nat} (h : Byt w base (.slice A n c) run) : Byt w base (.slice A 0 c) [] := by
  refine ⟨rfl, ?_⟩
  rcases h.2 with ⟨e, _⟩ | ⟨g, cap, cur, e, hb, hg, hn, hc, hs, _⟩
  · simp only [Value.slice.injEq] at e
    obtain ⟨rfl, _, rfl⟩ := e
    exact .inl ⟨rfl, rfl⟩
  · simp only [Value.slice.injEq] at e
    obtain ⟨rfl, _, rfl⟩ := e
    exact .inr ⟨g, c, cur, rfl, hb, hg, Nat.zero_le _, hc, hs, rfl⟩
end

set_option maxHeartbeats 4000000 in
theorem flush_any (nd : Array Value) (nm : ByteArray) (kd : Int) (a b c : Bool) (out : ByteArray) (run : List UInt8) (v : Value) (w : World) (s : Nat) (wr : World) (h : WI w s wr nd #[.string nm, .int .i64 kd, .bool a, .bool b, .bool c] out run v) (hr : run.length ≤ 2097152) (ho : out.size ≤ 8388608) :
    Calls Tryz.prog 123 #[.pointer (some ⟨s + 1, 0, none⟩), .pointer (some ⟨w.heap.size + 1, 0, none⟩), .pointer (some ⟨s + 1 + 1, 0, none⟩)] wr fun e w' => e = .returned (.tuple #[]) ∧ ∃ v', WI w s w' nd #[.string nm, .int .i64 kd, .bool a, .bool b, .bool c] (out ++ flushS ⟨nm, kd, a, b, c⟩ run) [] v' := by
  have FA := Lib.hid (fun W => folded_any ⟨nm, kd, a, b, c⟩ ⟨run.toArray⟩ W (by rw [run_size]; omega))
  have LA := Lib.hid (fun W => lit_any (foldedS ⟨nm, kd, a, b, c⟩ ⟨run.toArray⟩) W (by rw [folded_size, run_size]; omega))
  have hfs := flush_size ⟨nm, kd, a, b, c⟩ run
  unfold flushS at hfs
  simp only at FA
  obtain ⟨FS, hFS⟩ : ∃ x, x = foldedS ⟨nm, kd, a, b, c⟩ ⟨run.toArray⟩ := ⟨_, rfl⟩
  rw [← hFS] at FA LA hfs
  obtain ⟨LS, hLS⟩ : ∃ x, x = litS FS := ⟨_, rfl⟩
  rw [← hLS] at LA hfs
  have HFL := Lib.hid (show LS = flushS ⟨nm, kd, a, b, c⟩ run by rw [hLS, hFS]; rfl)
  have hsum : ¬ (9223372036854775807 < out.size + LS.size) := by omega
  clear hLS hFS
  go_enter Tryz.func123, Tryz.ntmps123
  go_upto_region 0 with fail
  refine RelbA.wp_region_relba 7 (fun wx => Below wr.heap.size wr wx) (fun wa wb => Below wa.heap.size wa wb) (by kernel_rfl) (by kernel_rfl) (by kernel_rfl) (by simp) (bdrew (Below.refl _ _)) ?_
  simp only [List.take_succ_cons, List.take_zero, List.drop_succ_cons, List.drop_zero]
  apply Relb.relb_one [] [] (by kernel_rfl) (by kernel_rfl) (by kernel_rfl)
  case hs =>
    intro vv wx hx hf
    clear hf
    have o0 := (show wx.cell? ⟨s + 1, 0, none⟩ = some (.string out) from (h.KO.below hx h.KO.lt).cell 0)
    have f0 := (show wx.cell? ⟨w.heap.size + 1, 0, none⟩ = some (.string nm) from (h.KF.below hx h.KF.lt).cell 0)
    have f1 := (show wx.cell? ⟨w.heap.size + 1, 1, none⟩ = some (.int .i64 kd) from (h.KF.below hx h.KF.lt).cell 1)
    have f2 := (show wx.cell? ⟨w.heap.size + 1, 2, none⟩ = some (.bool a) from (h.KF.below hx h.KF.lt).cell 2)
    have f3 := (show wx.cell? ⟨w.heap.size + 1, 3, none⟩ = some (.bool b) from (h.KF.below hx h.KF.lt).cell 3)
    have f4 := (show wx.cell? ⟨w.heap.size + 1, 4, none⟩ = some (.bool c) from (h.KF.below hx h.KF.lt).cell 4)
    have b0 := (show wx.cell? ⟨s + 1 + 1, 0, none⟩ = some v from (h.KB.below hx h.KB.lt).cell 0)
    have hcv := run_string_own (P := Tryz.prog) (B := 82) (S := 9) u8und Tryz.underlying5 Tryz.underlying9 (h.own.below hx)
    try simp only [Relb.putD, Act.put, Base.s1, Base.s2, Base.s3]
    intro KK hK
    go_simp
    exact hK _ _ hx (Below.refl _ _) rfl
  apply Relb.relb_one [] [] (by kernel_rfl) (by kernel_rfl) (by kernel_rfl)
  case hs =>
    intro vv wx hx hf
    clear hf
    have o0 := (show wx.cell? ⟨s + 1, 0, none⟩ = some (.string out) from (h.KO.below hx h.KO.lt).cell 0)
    have f0 := (show wx.cell? ⟨w.heap.size + 1, 0, none⟩ = some (.string nm) from (h.KF.below hx h.KF.lt).cell 0)
    have f1 := (show wx.cell? ⟨w.heap.size + 1, 1, none⟩ = some (.int .i64 kd) from (h.KF.below hx h.KF.lt).cell 1)
    have f2 := (show wx.cell? ⟨w.heap.size + 1, 2, none⟩ = some (.bool a) from (h.KF.below hx h.KF.lt).cell 2)
    have f3 := (show wx.cell? ⟨w.heap.size + 1, 3, none⟩ = some (.bool b) from (h.KF.below hx h.KF.lt).cell 3)
    have f4 := (show wx.cell? ⟨w.heap.size + 1, 4, none⟩ = some (.bool c) from (h.KF.below hx h.KF.lt).cell 4)
    have b0 := (show wx.cell? ⟨s + 1 + 1, 0, none⟩ = some v from (h.KB.below hx h.KB.lt).cell 0)
    have hcv := run_string_own (P := Tryz.prog) (B := 82) (S := 9) u8und Tryz.underlying5 Tryz.underlying9 (h.own.below hx)
    try simp only [Relb.putD, Act.put, Base.s1, Base.s2, Base.s3]
    intro KK hK
    go_simp
    exact hK _ _ hx (Below.refl _ _) rfl
  apply Relb.relb_one [] [] (by kernel_rfl) (by kernel_rfl) (by kernel_rfl)
  case hs =>
    intro vv wx hx hf
    clear hf
    have o0 := (show wx.cell? ⟨s + 1, 0, none⟩ = some (.string out) from (h.KO.below hx h.KO.lt).cell 0)
    have f0 := (show wx.cell? ⟨w.heap.size + 1, 0, none⟩ = some (.string nm) from (h.KF.below hx h.KF.lt).cell 0)
    have f1 := (show wx.cell? ⟨w.heap.size + 1, 1, none⟩ = some (.int .i64 kd) from (h.KF.below hx h.KF.lt).cell 1)
    have f2 := (show wx.cell? ⟨w.heap.size + 1, 2, none⟩ = some (.bool a) from (h.KF.below hx h.KF.lt).cell 2)
    have f3 := (show wx.cell? ⟨w.heap.size + 1, 3, none⟩ = some (.bool b) from (h.KF.below hx h.KF.lt).cell 3)
    have f4 := (show wx.cell? ⟨w.heap.size + 1, 4, none⟩ = some (.bool c) from (h.KF.below hx h.KF.lt).cell 4)
    have b0 := (show wx.cell? ⟨s + 1 + 1, 0, none⟩ = some v from (h.KB.below hx h.KB.lt).cell 0)
    have hcv := run_string_own (P := Tryz.prog) (B := 82) (S := 9) u8und Tryz.underlying5 Tryz.underlying9 (h.own.below hx)
    try simp only [Relb.putD, Act.put, Base.s1, Base.s2, Base.s3]
    intro KK hK
    go_simp
    exact hK _ _ hx (Below.refl _ _) rfl
  apply Relb.relb_one [(2, 5)] [2] (by kernel_rfl) (by kernel_rfl) (by kernel_rfl)
  case hs =>
    intro vv wx hx hf
    have e5 : vv 2 = _ := hf 2 (by simp)
    clear hf
    have o0 := (show wx.cell? ⟨s + 1, 0, none⟩ = some (.string out) from (h.KO.below hx h.KO.lt).cell 0)
    have f0 := (show wx.cell? ⟨w.heap.size + 1, 0, none⟩ = some (.string nm) from (h.KF.below hx h.KF.lt).cell 0)
    have f1 := (show wx.cell? ⟨w.heap.size + 1, 1, none⟩ = some (.int .i64 kd) from (h.KF.below hx h.KF.lt).cell 1)
    have f2 := (show wx.cell? ⟨w.heap.size + 1, 2, none⟩ = some (.bool a) from (h.KF.below hx h.KF.lt).cell 2)
    have f3 := (show wx.cell? ⟨w.heap.size + 1, 3, none⟩ = some (.bool b) from (h.KF.below hx h.KF.lt).cell 3)
    have f4 := (show wx.cell? ⟨w.heap.size + 1, 4, none⟩ = some (.bool c) from (h.KF.below hx h.KF.lt).cell 4)
    have b0 := (show wx.cell? ⟨s + 1 + 1, 0, none⟩ = some v from (h.KB.below hx h.KB.lt).cell 0)
    have hcv := run_string_own (P := Tryz.prog) (B := 82) (S := 9) u8und Tryz.underlying5 Tryz.underlying9 (h.own.below hx)
    try simp only [Relb.putD, e5, Act.put, Base.s1, Base.s2, Base.s3]
    intro KK hK
    go_simp
    exact hK _ _ hx (Below.refl _ _) rfl
  apply Relb.relb_one [(1, 4), (3, 6)] [1, 3] (by kernel_rfl) (by kernel_rfl) (by kernel_rfl)
  case hs =>
    intro vv wx hx hf
    have e4 : vv 1 = _ := hf 1 (by simp)
    have e6 : vv 3 = _ := hf 3 (by simp)
    clear hf
    have o0 := (show wx.cell? ⟨s + 1, 0, none⟩ = some (.string out) from (h.KO.below hx h.KO.lt).cell 0)
    have f0 := (show wx.cell? ⟨w.heap.size + 1, 0, none⟩ = some (.string nm) from (h.KF.below hx h.KF.lt).cell 0)
    have f1 := (show wx.cell? ⟨w.heap.size + 1, 1, none⟩ = some (.int .i64 kd) from (h.KF.below hx h.KF.lt).cell 1)
    have f2 := (show wx.cell? ⟨w.heap.size + 1, 2, none⟩ = some (.bool a) from (h.KF.below hx h.KF.lt).cell 2)
    have f3 := (show wx.cell? ⟨w.heap.size + 1, 3, none⟩ = some (.bool b) from (h.KF.below hx h.KF.lt).cell 3)
    have f4 := (show wx.cell? ⟨w.heap.size + 1, 4, none⟩ = some (.bool c) from (h.KF.below hx h.KF.lt).cell 4)
    have b0 := (show wx.cell? ⟨s + 1 + 1, 0, none⟩ = some v from (h.KB.below hx h.KB.lt).cell 0)
    have hcv := run_string_own (P := Tryz.prog) (B := 82) (S := 9) u8und Tryz.underlying5 Tryz.underlying9 (h.own.below hx)
    try simp only [Relb.putD, e4, e6, Act.put, Base.s1, Base.s2, Base.s3]
    intro KK hK
    go_simp
    go_at_call 122
    refine (FA.out wx).mono ?_
    rintro e wy ⟨rfl, hby⟩
    exact hK _ _ (bchain hx hby) hby rfl
  apply Relb.relb_one [(4, 7)] [4] (by kernel_rfl) (by kernel_rfl) (by kernel_rfl)
  case hs =>
    intro vv wx hx hf
    have e7 : vv 4 = _ := hf 4 (by simp)
    clear hf
    have o0 := (show wx.cell? ⟨s + 1, 0, none⟩ = some (.string out) from (h.KO.below hx h.KO.lt).cell 0)
    have f0 := (show wx.cell? ⟨w.heap.size + 1, 0, none⟩ = some (.string nm) from (h.KF.below hx h.KF.lt).cell 0)
    have f1 := (show wx.cell? ⟨w.heap.size + 1, 1, none⟩ = some (.int .i64 kd) from (h.KF.below hx h.KF.lt).cell 1)
    have f2 := (show wx.cell? ⟨w.heap.size + 1, 2, none⟩ = some (.bool a) from (h.KF.below hx h.KF.lt).cell 2)
    have f3 := (show wx.cell? ⟨w.heap.size + 1, 3, none⟩ = some (.bool b) from (h.KF.below hx h.KF.lt).cell 3)
    have f4 := (show wx.cell? ⟨w.heap.size + 1, 4, none⟩ = some (.bool c) from (h.KF.below hx h.KF.lt).cell 4)
    have b0 := (show wx.cell? ⟨s + 1 + 1, 0, none⟩ = some v from (h.KB.below hx h.KB.lt).cell 0)
    have hcv := run_string_own (P := Tryz.prog) (B := 82) (S := 9) u8und Tryz.underlying5 Tryz.underlying9 (h.own.below hx)
    try simp only [Relb.putD, e7, Act.put, Base.s1, Base.s2, Base.s3]
    intro KK hK
    go_simp
    go_at_call 38
    refine (LA.out wx).mono ?_
    rintro e wy ⟨rfl, hby⟩
    exact hK _ _ (bchain hx hby) hby rfl
  apply Relb.relb_one [(0, 3), (5, 8)] [0, 5] (by kernel_rfl) (by kernel_rfl) (by kernel_rfl)
  case hs =>
    intro vv wx hx hf
    have e3 : vv 0 = _ := hf 0 (by simp)
    have e8 : vv 5 = _ := hf 5 (by simp)
    clear hf
    try simp only [Relb.putD, e3, e8, Act.put, Base.s1, Base.s2, Base.s3]
    intro KK hK
    go_simp
    exact hK _ _ hx (Below.refl _ _) rfl
  refine RelbA.relba_end (N := 1) [(0, 3), (1, 4), (2, 5), (3, 6), (4, 7), (5, 8), (6, 9)] (by kernel_rfl) (by kernel_rfl) ?_
  intro vv wx hx hf
  have e3 : vv 0 = _ := hf 0 (by decide)
  have e4 : vv 1 = _ := hf 1 (by decide)
  have e5 : vv 2 = _ := hf 2 (by decide)
  have e6 : vv 3 = _ := hf 3 (by decide)
  have e7 : vv 4 = _ := hf 4 (by decide)
  have e8 : vv 5 = _ := hf 5 (by decide)
  have e9 : vv 6 = _ := hf 6 (by decide)
  clear hf
  simp only [Relb.putD, e3, e4, e5, e6, e7, e8, e9, Act.put, Base.s1, Base.s2, Base.s3]
  have h2 := h.below hx
  have o0 : wx.cell? ⟨s + 1, 0, none⟩ = some (.string out) := h2.KO.cell 0
  have z0 : wx.frozen? ⟨s + 1, 0, none⟩ = false := h2.KO.frozen 0
  clear e3 e4 e5 e6 e7 e8 e9
  refine wpAny_ready (rs := [7]) (by kernel_rfl) (by simp) ?_
  refine AllReady.cons (by rw [List.getElem?_toArray]; rfl) (fun K hK => ?_) AllReady.nil
  go_simp
  refine hK _ _ ?_
  clear hK K
  try simp only [Act.put, Base.s1, Base.s2, Base.s3]
  refine wpAny_done (by kernel_rfl) ?_ _
  have h3 := h2.setOut (out ++ LS)
  generalize wx.setCell ⟨s + 1, 0, none⟩ (.string (out ++ LS)) = w3 at h3 ⊢
  clear o0 z0
  obtain ⟨A, c1, rfl⟩ := own_slice h3.own
  have b0 : w3.cell? ⟨s + 1 + 1, 0, none⟩ = some (.slice A run.length c1) := h3.KB.cell 0
  have z0 : w3.frozen? ⟨s + 1 + 1, 0, none⟩ = false := h3.KB.frozen 0
  have h4 := h3.setRun (byt_cut h3.own)
  have ho3 := h3.own.2
  rw [HFL.out] at h4
  rw [HFL.out]
  have hcl : ∀ cap cur, c1 = cap → w3.heap.size = cur → True := fun _ _ _ _ => trivial
  have H4 := Lib.hid h4
  rcases ho3 with ⟨e, e0⟩ | ⟨g, cap, cur, e, hb, hg, hn, hc, _⟩
  · simp only [Value.slice.injEq] at e
    obtain ⟨rfl, e1, rfl⟩ := e
    rw [e1] at b0
    clear h4 h3 h hcl e0 e1 h2
    go_wp2_with fail
    go_end0
    exact ⟨rfl, _, H4.out⟩
  · simp only [Value.slice.injEq] at e
    obtain ⟨rfl, _, rfl⟩ := e
    have hnc : run.length ≤ c1 := hn
    have hcc : c1 ≤ 9223372036854775807 := hc
    clear h4 h3 h hcl hb hg hn hc h2
    go_wp2_with fail
    go_end0
    exact ⟨rfl, _, H4.out⟩

theorem wGo_mark {f : Fld} {s out : ByteArray} {i : Nat} {run : List UInt8} (h : i < s.size) (hb : bt s i = 42 ∨ bt s i = 63) : wGo f s i out run = wGo f s (i + 1) ((out ++ flushS f run) ++ s.extract i (i + 1)) [] := by
  conv => lhs; rw [wGo, if_pos h, if_pos hb]
theorem wGo_esc {f : Fld} {s out : ByteArray} {i : Nat} {run : List UInt8} (h : i + 1 < s.size) (hb : bt s i = 92) : wGo f s i out run = wGo f s (i + 2) out (run ++ [byB s (i + 1)]) := by
  conv => lhs; rw [wGo, if_pos (by omega), if_neg (by omega), if_pos hb, if_pos h]
theorem wGo_plain {f : Fld} {s out : ByteArray} {i : Nat} {run : List UInt8} (h : i < s.size) (h1 : bt s i ≠ 42) (h2 : bt s i ≠ 63) (h3 : bt s i ≠ 92) : wGo f s i out run = wGo f s (i + 1) out (run ++ [byB s i]) := by
  conv => lhs; rw [wGo, if_pos h, if_neg (by omega), if_neg h3]
theorem wGo_end {f : Fld} {s out : ByteArray} {i : Nat} {run : List UInt8} (h : s.size ≤ i) : wGo f s i out run = out ++ flushS f run := by rw [wGo, if_neg (by omega)]
theorem wild_more {s : ByteArray} {i : Nat} {m l : Int} (h : wildS s i m l = true) (hi : i < s.size) : (bt s i = 92 → i + 1 < s.size ∧ ∃ m' l', wildS s (i + 2) m' l' = true) ∧ (bt s i ≠ 92 → ∃ m' l', wildS s (i + 1) m' l' = true) := by
  refine ⟨fun hb => ?_, fun hb => ?_⟩
  · by_cases h2 : i + 1 < s.size → ¬ (bt s (i + 1) = 42 ∨ bt s (i + 1) = 63 ∨ bt s (i + 1) = 92)
    · rw [wild_bad hi hb h2] at h; cases h
    · have h3 : i + 1 < s.size := by
        by_cases h3 : i + 1 < s.size
        · exact h3
        · exact absurd (fun h4 => absurd h4 h3) h2
      have h4 : bt s (i + 1) = 42 ∨ bt s (i + 1) = 63 ∨ bt s (i + 1) = 92 := by
        by_cases h4 : bt s (i + 1) = 42 ∨ bt s (i + 1) = 63 ∨ bt s (i + 1) = 92
        · exact h4
        · exact absurd (fun _ => h4) h2
      rw [wild_esc h3 hb h4] at h
      exact ⟨h3, _, _, h⟩
  · by_cases h1 : bt s i = 42
    · rw [wild_star hi h1] at h; exact ⟨_, _, h⟩
    · by_cases h2 : bt s i = 63
      · rw [wild_gap hi h2] at h; exact ⟨_, _, h⟩
      · rw [wild_plain hi h1 h2 hb] at h; exact ⟨_, _, h⟩
theorem ext_size {s : ByteArray} {i : Nat} (h : i < s.size) : (s.extract i (i + 1)).size = 1 := by rw [ByteArray.size_extract]; omega
set_option maxHeartbeats 4000000 in
theorem wildBind_any (k at_ kd n : Int) (fn T nm : ByteArray) (R : NRest) (a b c : Bool) (w : World) (hat : fitI at_) (hs : T.size ≤ 2097152) (hw : wildB T = true) :
    Calls Tryz.prog 90 #[.agg (nodeV k fn T n R), .agg #[.string nm, .int .i64 kd, .bool a, .bool b, .bool c], .int .i64 at_] w (IsQ (wildQ ⟨nm, kd, a, b, c⟩ at_ T) true w) := by
  have FL := Lib.hid (fun s nd out run v wr h h1 h2 => flush_any nd nm kd a b c out run v w s wr h h1 h2)
  obtain ⟨q, hq⟩ : ∃ q, q = wildQ ⟨nm, kd, a, b, c⟩ at_ T := ⟨_, rfl⟩
  rw [← hq]
  unfold wildQ at hq
  simp only at hq
  have HQ := Lib.hid hq
  clear hq
  obtain ⟨ND, hND⟩ : ∃ x, x = nodeV k fn T n R := ⟨_, rfl⟩
  have KND := Lib.hid (show ND[2]? = some (.string T) by rw [hND]; rfl)
  obtain ⟨W3, hW3⟩ : ∃ W, W = ((w.alloc (.cells (nodeV k fn T n R) 39)).alloc (.cells #[.string nm, .int .i64 kd, .bool a, .bool b, .bool c] 67)).alloc (.cells (bareQ 0 0 ⟨#[]⟩) 29) := ⟨_, rfl⟩
  have K1 : Blk W3 w.heap.size 39 ND := by rw [hW3, ← hND]; exact ((Blk.new w _ _).alloc _).alloc _
  have K2 : Blk W3 (w.heap.size + 1) 67 #[.string nm, .int .i64 kd, .bool a, .bool b, .bool c] := by
    rw [hW3]
    have := (Blk.new (w.alloc (.cells (nodeV k fn T n R) 39)) 67 #[.string nm, .int .i64 kd, .bool a, .bool b, .bool c]).alloc (.cells (bareQ 0 0 ⟨#[]⟩) 29)
    rwa [World.size_alloc] at this
  have K3 : Blk W3 (w.heap.size + 1 + 1) 29 (bareQ 0 0 ⟨#[]⟩) := by
    rw [hW3]
    have := Blk.new ((w.alloc (.cells (nodeV k fn T n R) 39)).alloc (.cells #[.string nm, .int .i64 kd, .bool a, .bool b, .bool c] 67)) 29 (bareQ 0 0 ⟨#[]⟩)
    rwa [World.size_alloc, World.size_alloc] at this
  have hbW : Below w.heap.size w W3 := by rw [hW3]; exact Base.bel
  have hsz : w.heap.size + 3 = W3.heap.size := by rw [hW3]; simp
  have HW := Lib.hid hW3
  have HZ := Lib.hid hsz
  unfold nodeV bareQ at HW
  unfold bareQ at K3
  clear hW3 hsz hND
  unfold nodeV
  go_enter Tryz.func90, Tryz.ntmps90
  go_upto_region 1 with fail
  rw [← HW.out]
  have f1 : W3.cell? ⟨w.heap.size + 1, 1, none⟩ = some (.int .i64 kd) := K2.cell 1
  rcases Decidable.em (kd = 3) with h3 | h3
  · subst h3
    have HQ2 := Lib.hid (HQ.out.trans (if_pos rfl))
    go_wp2_with (go_at_call 51; refine (none_lit _).mono ?_; rintro e w2 ⟨rfl, hb2⟩; obtain ⟨z0, z1, z2, z3, z4, z5, z6, z7, z8, z9, z10, z11, z12, z13, z14⟩ := qrow (K3.below hb2 (by have := HZ.out; omega)); obtain ⟨y0, y1, y2, y3, y4, y5, y6, y7, y8, y9, y10, y11, y12, y13, y14⟩ := qfz (K3.below hb2 (by have := HZ.out; omega)))
    refine bodyPost_ret (results_blk (p := 6) (u := 7) (ty := 29) (t := 29) (g := w.heap.size + 1 + 1) (cs := bareQ 1 0 ⟨#[]⟩) ?_ ?_ (blk15 (K3.below hb2 (by have := HZ.out; omega))) Tryz.underlying29 ?_ ?_) ?_ ?_
    · rfl
    · rfl
    · rfl
    · rw [qInfo]; rfl
    · rfl
    · rw [HQ2.out]
      exact isq_bare (k := 1) (f := 0) (t := ⟨#[]⟩) rfl rfl (Nat.zero_le _) rfl (below15 (bchain hbW hb2) (by omega))
  · have HQ2 := Lib.hid (HQ.out.trans (if_neg h3))
    have d3 : (kd == 3) = false := beq_eq_false_iff_ne.2 h3
    clear h3
    go_upto_region 5 with fail
    obtain ⟨W4, hW4⟩ : ∃ W, W = ((W3.alloc (.cells #[] 5)).alloc (.cells #[.string ⟨#[]⟩] 9)).alloc (.cells #[.slice (some ⟨W3.heap.size, 0, none⟩) 0 0] 82) := ⟨_, rfl⟩
    have HI : WI w W3.heap.size W4 ND #[.string nm, .int .i64 kd, .bool a, .bool b, .bool c] ⟨#[]⟩ [] (.slice (some ⟨W3.heap.size, 0, none⟩) 0 0) := by
      rw [hW4]
      refine ⟨(hbW.alloc hbW.size _).alloc (by simp; have := hbW.size; omega) _ |>.alloc (by simp; have := hbW.size; omega) _, ((K1.alloc _).alloc _).alloc _, ((K2.alloc _).alloc _).alloc _, ((K3.alloc _).alloc _).alloc _, ?_, ?_, ?_, HZ.out⟩
      · have := (Blk.new (W3.alloc (.cells #[] 5)) 9 #[.string ⟨#[]⟩]).alloc (.cells #[.slice (some ⟨W3.heap.size, 0, none⟩) 0 0] 82)
        rwa [World.size_alloc] at this
      · have := Blk.new ((W3.alloc (.cells #[] 5)).alloc (.cells #[.string ⟨#[]⟩] 9)) 82 #[.slice (some ⟨W3.heap.size, 0, none⟩) 0 0]
        rwa [World.size_alloc, World.size_alloc] at this
      · exact ⟨rfl, .inr ⟨W3.heap.size, 0, #[], rfl, Nat.le_refl _, ((Blk.new W3 5 #[]).alloc _).alloc _, Nat.le_refl _, Nat.zero_le _, rfl, rfl⟩⟩
    rw [← hW4]
    clear hW4
    obtain ⟨s, hs3⟩ : ∃ s, s = W3.heap.size := ⟨_, rfl⟩
    rw [← hs3] at HI ⊢
    clear hs3 K1 K2 K3 f1 d3 hbW
    obtain ⟨F, hF⟩ : ∃ F : Fld, F = ⟨nm, kd, a, b, c⟩ := ⟨_, rfl⟩
    have FL := Lib.hid (fun s out run v wr h h1 h2 => FL.out s ND out run v wr h h1 h2)
    rw [← hF] at FL HQ2
    clear hF
    have HI := Lib.hid HI
    have HWB := Lib.hid hw
    clear hw
    go_wp2_with fail
    go_loopw [11] (fun i wr => ∃ (j : Nat) (out : ByteArray) (run : List UInt8) (v : Value) (m l : Int), j ≤ T.size ∧ i = .int .i64 j ∧ WI w s wr ND #[.string nm, .int .i64 kd, .bool a, .bool b, .bool c] out run v ∧ out.size + 2 * run.length ≤ 3 * j ∧ run.length ≤ j ∧ wGo F T 0 ⟨#[]⟩ [] = wGo F T j out run ∧ wildS T j m l = true) (fun i _ => T.size - (intOf i).toNat)
    case atStart => exact ⟨0, _, _, _, 0, -1, Nat.zero_le _, rfl, HI.out, Nat.le_refl _, Nat.le_refl _, rfl, HWB.out⟩
    case round =>
      obtain ⟨j, out, run, v, m, l, hj, rfl, h, hsz, hrj, hgo, hwl⟩ := hrel
      have HG := Lib.hid hgo
      have HWL := Lib.hid hwl
      have n2 : wr.cell? ⟨w.heap.size, 2, none⟩ = some (.string T) := (h.KN.cell 2).trans KND.out
      clear hgo hwl
      rcases Nat.lt_or_ge j T.size with hlt | hge
      · have hgb := get_bt T
        have r0 := bt_nonneg T j
        have r1 := bt_le T j
        have i2 : (j : Int) < T.size := by omega
        have i3 : (j : Int) < 9223372036854775807 := by omega
        obtain ⟨hm1, hm2⟩ := wild_more HWL.out hlt
        have HM1 := Lib.hid hm1
        have HM2 := Lib.hid hm2
        clear hm1 hm2
        by_cases hmk : bt T j = 42 ∨ bt T j = 63
        · have HE := Lib.hid (wGo_mark (f := F) (out := out) (run := run) hlt hmk)
          have HN := Lib.hid (HM2.out (by omega))
          have FC := Lib.hid (FL.out s out run v wr h (by omega) (by omega))
          have hfs := flush_size F run
          have hxs := ext_size hlt
          have hsum : ¬ (9223372036854775807 < (out ++ flushS F run).size + (T.extract j (j + 1)).size) := by rw [hxs, ByteArray.size_append]; omega
          rcases (by omega : bt T j = 42 ∨ (bt T j ≠ 42 ∧ bt T j = 63)) with c1 | ⟨c2, c1⟩
          all_goals
            first
            | (have b1 : (bt T j == 42) = true := beq_iff_eq.2 c1)
            | (have b1 : (bt T j == 42) = false := beq_eq_false_iff_ne.2 c2
               have b2 : (bt T j == 63) = true := beq_iff_eq.2 c1)
            clear c1 hmk h
            go_upto_region 12 with (go_at_call 123; refine FC.out.mono ?_; rintro e w2 ⟨rfl, v2, h2⟩; have n2 : w2.cell? ⟨w.heap.size, 2, none⟩ = some (.string T) := (h2.KN.cell 2).trans KND.out; have o0 : w2.cell? ⟨s + 1, 0, none⟩ = some (.string (out ++ flushS F run)) := h2.KO.cell 0; have z0 : w2.frozen? ⟨s + 1, 0, none⟩ = false := h2.KO.frozen 0)
            have h3 := h2.setOut ((out ++ flushS F run) ++ T.extract j (j + 1))
            have H3 := Lib.hid h3
            clear h3 h2
            go_region
            all_goals
              have h4 := H3.out.below (bdrew (Below.refl _ _))
              go_wp2_with fail
              go_roundw
              case rel =>
                obtain ⟨m2, l2, hn⟩ := HN.out
                exact ⟨j + 1, _, [], v2, m2, l2, by omega, by go_num, h4, by rw [ByteArray.size_append, ByteArray.size_append, hxs]; simp only [List.length_nil]; omega, Nat.zero_le _, HG.out.trans HE.out, hn⟩
              case measure => simp [intOf]; omega
        · have c1 : bt T j ≠ 42 := fun h => hmk (.inl h)
          have c2 : bt T j ≠ 63 := fun h => hmk (.inr h)
          have b1 : (bt T j == 42) = false := beq_eq_false_iff_ne.2 c1
          have b2 : (bt T j == 63) = false := beq_eq_false_iff_ne.2 c2
          obtain ⟨A0, c0, rfl⟩ := own_slice h.own
          have b0 : wr.drew.cell? ⟨s + 1 + 1, 0, none⟩ = some (.slice A0 run.length c0) := h.KB.cell 0
          have b0a : ∀ o, (wr.alloc o).cell? ⟨s + 1 + 1, 0, none⟩ = some (.slice A0 run.length c0) := fun o => (h.KB.alloc o).cell 0
          have nd2 : wr.drew.cell? ⟨w.heap.size, 2, none⟩ = some (.string T) := n2
          have HS3 := Lib.hid h.hs
          have hss : s ≤ wr.heap.size := by have := h.KB.lt; omega
          clear hmk
          by_cases c3 : bt T j = 92
          · obtain ⟨hj1, hn⟩ := HM1.out c3
            have HE := Lib.hid (wGo_esc (f := F) (out := out) (run := run) hj1 c3)
            have HN := Lib.hid hn
            have b3 : (bt T j == 92) = true := beq_iff_eq.2 c3
            have q0 := bt_nonneg T (j + 1)
            have q1 := bt_le T (j + 1)
            have i4 : (j : Int) + 1 < T.size := by omega
            have i5 : (j : Int) + 1 < 9223372036854775807 := by omega
            have i6 : (0 : Int) ≤ (j : Int) + 1 := by omega
            have tn : ((j : Int) + 1).toNat = j + 1 := by omega
            have hgb1 := get_bt T (j + 1)
            have ho2 := h.own.below (((Below.refl wr.heap.size wr).drew).alloc (Nat.le_refl _) (.cells #[.int .u8 (bt T (j + 1))] 5))
            have hsr2 := src_blk (Blk.new wr.drew 5 #[.int .u8 (bt T (j + 1))]) [byB T (j + 1)] (byte_cell q0 q1).symm
            have hbr2 : s ≤ (wr.drew.alloc (.cells #[.int .u8 (bt T (j + 1))] 5)).heap.size := by simp; omega
            have h5 := h.below (((Below.refl wr.heap.size wr).drew).alloc (Nat.le_refl _) (.cells #[.int .u8 (bt T (j + 1))] 5))
            clear hn c1 c2 c3 h HM1 HM2
            go_upto_region 15 with fail
            go_region_law ((refine step_addB (by rfl) _ _ (by rfl) (by rfl) ho2 (by rfl) hsr2 (by exact Nat.zero_lt_one) hbr2 (by simp only [List.length_cons, List.length_nil]; omega) ?_); intro v3 w3 ha3; have hg3 := h5.grown ha3; obtain ⟨A5, c5, e5⟩ := own_slice ha3.1; subst e5; have b9 : w3.cell? ⟨s + 1 + 1, 0, none⟩ = some (.slice A0 run.length c0) := hg3.2.2.2.2.2.cell 0; have z9 : w3.frozen? ⟨s + 1 + 1, 0, none⟩ = false := hg3.2.2.2.2.2.frozen 0)
            all_goals
              have hp := WI.put HS3.out hg3 ha3.1
              simp only [List.length_append, List.length_cons, List.length_nil, Nat.zero_add] at hp
              have HP := Lib.hid hp
              clear hp hg3 ha3 b9 z9
              go_wp2_with fail
              go_roundw
              case rel =>
                obtain ⟨m2, l2, hn⟩ := HN.out
                exact ⟨j + 2, out, run ++ [byB T (j + 1)], _, m2, l2, by omega, by go_num, HP.out, by simp only [List.length_append, List.length_cons, List.length_nil]; omega, by simp only [List.length_append, List.length_cons, List.length_nil]; omega, HG.out.trans HE.out, hn⟩
              case measure => simp [intOf]; omega
          · have hn := HM2.out c3
            have HE := Lib.hid (wGo_plain (f := F) (out := out) (run := run) hlt c1 c2 c3)
            have HN := Lib.hid hn
            have b3 : (bt T j == 92) = false := beq_eq_false_iff_ne.2 c3
            have ho2 := h.own.below (((Below.refl wr.heap.size wr).drew).alloc (Nat.le_refl _) (.cells #[.int .u8 (bt T j)] 5))
            have hsr2 := src_blk (Blk.new wr.drew 5 #[.int .u8 (bt T j)]) [byB T j] (byte_cell r0 r1).symm
            have hbr2 : s ≤ (wr.drew.alloc (.cells #[.int .u8 (bt T j)] 5)).heap.size := by simp; omega
            have h5 := h.below (((Below.refl wr.heap.size wr).drew).alloc (Nat.le_refl _) (.cells #[.int .u8 (bt T j)] 5))
            clear hn c1 c2 c3 h HM1 HM2
            go_upto_region 15 with fail
            go_region_law ((refine step_addB (by rfl) _ _ (by rfl) (by rfl) ho2 (by rfl) hsr2 (by exact Nat.zero_lt_one) hbr2 (by simp only [List.length_cons, List.length_nil]; omega) ?_); intro v3 w3 ha3; have hg3 := h5.grown ha3; obtain ⟨A5, c5, e5⟩ := own_slice ha3.1; subst e5; have b9 : w3.cell? ⟨s + 1 + 1, 0, none⟩ = some (.slice A0 run.length c0) := hg3.2.2.2.2.2.cell 0; have z9 : w3.frozen? ⟨s + 1 + 1, 0, none⟩ = false := hg3.2.2.2.2.2.frozen 0)
            all_goals
              have hp := WI.put HS3.out hg3 ha3.1
              simp only [List.length_append, List.length_cons, List.length_nil, Nat.zero_add] at hp
              have HP := Lib.hid hp
              clear hp hg3 ha3 b9 z9
              go_wp2_with fail
              go_roundw
              case rel =>
                obtain ⟨m2, l2, hn⟩ := HN.out
                exact ⟨j + 1, out, run ++ [byB T j], _, m2, l2, by omega, by go_num, HP.out, by simp only [List.length_append, List.length_cons, List.length_nil]; omega, by simp only [List.length_append, List.length_cons, List.length_nil]; omega, HG.out.trans HE.out, hn⟩
              case measure => simp [intOf]; omega
      · obtain rfl : j = T.size := by omega
        have i2 : ¬ ((T.size : Int) < T.size) := by omega
        have HE := Lib.hid (wGo_end (f := F) (out := out) (run := run) (Nat.le_refl T.size))
        have FC := Lib.hid (FL.out s out run v wr h (by omega) (by omega))
        have hfs := flush_size F run
        have hfit : (out ++ flushS F run).size ≤ maxLen := by rw [ByteArray.size_append]; unfold maxLen; omega
        have HFIT := Lib.hid hfit
        clear h hfit
        go_wp2_with (go_at_call 123; refine FC.out.mono ?_; rintro e w2 ⟨rfl, v2, h2⟩; have o0 : w2.cell? ⟨s + 1, 0, none⟩ = some (.string (out ++ flushS F run)) := h2.KO.cell 0; have KR := h2.KR; unfold bareQ at KR; obtain ⟨z0, z1, z2, z3, z4, z5, z6, z7, z8, z9, z10, z11, z12, z13, z14⟩ := qrow KR; obtain ⟨y0, y1, y2, y3, y4, y5, y6, y7, y8, y9, y10, y11, y12, y13, y14⟩ := qfz KR)
        refine bodyPost_ret (results_blk (p := 6) (u := 7) (ty := 29) (t := 29) (g := w.heap.size + 1 + 1) (cs := bareQ 7 at_ (out ++ flushS F run)) ?_ ?_ (blk15 KR) Tryz.underlying29 ?_ ?_) ?_ ?_
        · rfl
        · rfl
        · rfl
        · rw [qInfo]; rfl
        · rfl
        · rw [HQ2.out, HG.out.trans HE.out]
          exact isq_bare (k := 7) (f := at_) (t := out ++ flushS F run) rfl hat HFIT.out rfl (below15 h2.bel (by omega))
end Go.Proofs.YtkcfgcdlnojaeaaGreatDoor.WildBind

namespace Go.Proofs.YtkcfgcdlnojaeaaGreatDoor.SpanBind
set_option maxRecDepth 100000
open Go.RowKit Go.PlainAid Base Query NodeTree NodeWalk NodePlain BindBase NodeTerm WordPlain WordsOne NumPlain OpenField FieldPlain WordsAny LeafBase FoldPlain FoldLeaf Rel Relb RelbT RelbA

def endQ (f : Fld) (b : Bnd) : Option Bnd := if b.op = true then some b else if f.kd = 3 then (match parseN b.text with | none => none | some v => some ⟨b.op, b.inn, termN v⟩) else some ⟨b.op, b.inn, foldedS f b.text⟩
def spanQ (f : Fld) (at_ : Int) (lo hi : Bnd) : Qry := match endQ f lo, endQ f hi with
  | some l, some h => .mk ⟨9, at_, ⟨#[]⟩, [], [], 0, 0, l, h, []⟩ []
  | _, _ => noneQ
def spC (at_ : Int) (lo hi : Bnd) : Array Value := #[.int .i64 9, .int .i64 at_, .string ⟨#[]⟩, .slice none 0 0, .slice none 0 0, .int .i64 0, .int .u64 0, .bool lo.op, .bool lo.inn, .string lo.text, .bool hi.op, .bool hi.inn, .string hi.text, .slice none 0 0, .slice none 0 0]
theorem isq_span {w w' : World} {at_ : Int} {lo hi : Bnd} {e : Ending} (hf : fitI at_) (he : e = .returned (.tuple #[.agg (spC at_ lo hi), .bool true])) (hb : Below w.heap.size w w') : IsQ (.mk ⟨9, at_, ⟨#[]⟩, [], [], 0, 0, lo, hi, []⟩ []) true w e w' :=
  ⟨(spC at_ lo hi).toList, he, Fresh.all fun w'' => QVal.mk ⟨9, at_, ⟨#[]⟩, [], [], 0, 0, lo, hi, []⟩ [] none none none none 0 0 0 0 (fun _ => []) ⟨rfl, hf, rfl, rfl, (fun _ h => by cases h), (fun _ h => by cases h), Nat.zero_le _, (fun _ h => by cases h), Nat.zero_le _, Nat.zero_le _, Nat.zero_le _⟩ (Nat.zero_le _)
    (Slc.nil _) (Slc.nil _) (Slc.nil _) (fun h => absurd rfl h) (fun _ _ h => by cases h), hb⟩
structure SI (w : World) (s : Nat) (wr : World) (fld : Array Value) (at_ : Int) (lo hi : Bnd) : Prop where
  bel : Below w.heap.size w wr
  KF : Blk wr (w.heap.size + 1) 67 fld
  KR : Blk wr (w.heap.size + 1 + 1) 29 (bareQ 0 0 ⟨#[]⟩)
  KQ : Blk wr s 29 (spC at_ lo hi)
  KP : Blk wr (s + 1) 177 #[.pointer (some ⟨s, 7, none⟩), .pointer (some ⟨s, 10, none⟩)]
  hs : w.heap.size + 3 = s
section
variable {w wr wx : World} {s : Nat} {fld : Array Value} {at_ : Int} {lo hi : Bnd}
theorem SI.below (h : SI w s wr fld at_ lo hi) (hb : Below wr.heap.size wr wx) : SI w s wx fld at_ lo hi :=
  ⟨h.bel.trans (hb.mono h.bel.size), h.KF.below hb h.KF.lt, h.KR.below hb h.KR.lt, h.KQ.below hb h.KQ.lt, h.KP.below hb h.KP.lt, h.hs⟩
theorem SI.setLo (h : SI w s wr fld at_ lo hi) (t : ByteArray) : SI w s (wr.setCell ⟨s, 9, none⟩ (.string t)) fld at_ ⟨lo.op, lo.inn, t⟩ hi := by
  have hs := h.hs
  refine ⟨h.bel.setCell (p := ⟨s, 9, none⟩) (show w.heap.size ≤ s by omega) _, h.KF.far (p := ⟨s, 9, none⟩) (show w.heap.size + 1 ≠ s by omega) _, h.KR.far (p := ⟨s, 9, none⟩) (show w.heap.size + 1 + 1 ≠ s by omega) _, ?_, h.KP.far (p := ⟨s, 9, none⟩) (show s + 1 ≠ s by omega) _, hs⟩
  have := h.KQ.set_ 9 (.string t)
  simpa [spC] using this
theorem SI.setHi (h : SI w s wr fld at_ lo hi) (t : ByteArray) : SI w s (wr.setCell ⟨s, 12, none⟩ (.string t)) fld at_ lo ⟨hi.op, hi.inn, t⟩ := by
  have hs := h.hs
  refine ⟨h.bel.setCell (p := ⟨s, 12, none⟩) (show w.heap.size ≤ s by omega) _, h.KF.far (p := ⟨s, 12, none⟩) (show w.heap.size + 1 ≠ s by omega) _, h.KR.far (p := ⟨s, 12, none⟩) (show w.heap.size + 1 + 1 ≠ s by omega) _, ?_, h.KP.far (p := ⟨s, 12, none⟩) (show s + 1 ≠ s by omega) _, hs⟩
  have := h.KQ.set_ 12 (.string t)
  simpa [spC] using this
end
theorem endQ_open {f : Fld} {b : Bnd} (h : b.op = true) : endQ f b = some b := by unfold endQ; rw [if_pos h]
theorem endQ_fold {f : Fld} {b : Bnd} (h : b.op = false) (hk : f.kd ≠ 3) : endQ f b = some ⟨b.op, b.inn, foldedS f b.text⟩ := by unfold endQ; rw [if_neg (by rw [h]; decide), if_neg hk]
theorem endQ_none {f : Fld} {b : Bnd} (h : b.op = false) (hk : f.kd = 3) (hp : parseN b.text = none) : endQ f b = none := by unfold endQ; rw [if_neg (by rw [h]; decide), if_pos hk, hp]
theorem endQ_some {f : Fld} {b : Bnd} {v : Int} (h : b.op = false) (hk : f.kd = 3) (hp : parseN b.text = some v) : endQ f b = some ⟨b.op, b.inn, termN v⟩ := by unfold endQ; rw [if_neg (by rw [h]; decide), if_pos hk, hp]
theorem spanQ_lo {f : Fld} {at_ : Int} {lo hi : Bnd} (h : endQ f lo = none) : spanQ f at_ lo hi = noneQ := by unfold spanQ; rw [h]
theorem spanQ_hi {f : Fld} {at_ : Int} {lo hi : Bnd} (h : endQ f hi = none) : spanQ f at_ lo hi = noneQ := by unfold spanQ; rw [h]; cases endQ f lo <;> rfl
theorem spanQ_some {f : Fld} {at_ : Int} {lo hi l h : Bnd} (h1 : endQ f lo = some l) (h2 : endQ f hi = some h) : spanQ f at_ lo hi = .mk ⟨9, at_, ⟨#[]⟩, [], [], 0, 0, l, h, []⟩ [] := by unfold spanQ; rw [h1, h2]

set_option maxHeartbeats 8000000 in
theorem spanBind_any (k at_ kd n : Int) (fn T nm : ByteArray) (R : NRest) (a b c : Bool) (w : World) (hat : fitI at_) (hl : R.lo.text.size ≤ 2097152) (hh : R.hi.text.size ≤ 2097152) :
    Calls Tryz.prog 92 #[.agg (nodeV k fn T n R), .agg #[.string nm, .int .i64 kd, .bool a, .bool b, .bool c], .int .i64 at_] w (IsQ (spanQ ⟨nm, kd, a, b, c⟩ at_ R.lo R.hi) true w) := by
  obtain ⟨lo, hi, A1, n1, c1, A2, n2, c2⟩ := R
  simp only at hl hh ⊢
  obtain ⟨F, hF⟩ : ∃ F : Fld, F = ⟨nm, kd, a, b, c⟩ := ⟨_, rfl⟩
  have FA := Lib.hid (fun t W (ht : t.size ≤ 2097152) => folded_any ⟨nm, kd, a, b, c⟩ t W ht)
  simp only at FA
  rw [← hF] at FA ⊢
  have hkd : F.kd = kd := by rw [hF]
  obtain ⟨q, hq⟩ : ∃ q, q = spanQ F at_ lo hi := ⟨_, rfl⟩
  rw [← hq]
  have HQ := Lib.hid hq
  have HKD := Lib.hid hkd
  clear hq hF hkd
  obtain ⟨W3, hW3⟩ : ∃ W, W = ((w.alloc (.cells (nodeV k fn T n ⟨lo, hi, A1, n1, c1, A2, n2, c2⟩) 39)).alloc (.cells #[.string nm, .int .i64 kd, .bool a, .bool b, .bool c] 67)).alloc (.cells (bareQ 0 0 ⟨#[]⟩) 29) := ⟨_, rfl⟩
  have K1 : Blk W3 w.heap.size 39 (nodeV k fn T n ⟨lo, hi, A1, n1, c1, A2, n2, c2⟩) := by rw [hW3]; exact ((Blk.new w _ _).alloc _).alloc _
  have K2 : Blk W3 (w.heap.size + 1) 67 #[.string nm, .int .i64 kd, .bool a, .bool b, .bool c] := by
    rw [hW3]
    have := (Blk.new (w.alloc (.cells (nodeV k fn T n ⟨lo, hi, A1, n1, c1, A2, n2, c2⟩) 39)) 67 #[.string nm, .int .i64 kd, .bool a, .bool b, .bool c]).alloc (.cells (bareQ 0 0 ⟨#[]⟩) 29)
    rwa [World.size_alloc] at this
  have K3 : Blk W3 (w.heap.size + 1 + 1) 29 (bareQ 0 0 ⟨#[]⟩) := by
    rw [hW3]
    have := Blk.new ((w.alloc (.cells (nodeV k fn T n ⟨lo, hi, A1, n1, c1, A2, n2, c2⟩) 39)).alloc (.cells #[.string nm, .int .i64 kd, .bool a, .bool b, .bool c] 67)) 29 (bareQ 0 0 ⟨#[]⟩)
    rwa [World.size_alloc, World.size_alloc] at this
  have hbW : Below w.heap.size w W3 := by rw [hW3]; exact Base.bel
  have hsz : w.heap.size + 3 = W3.heap.size := by rw [hW3]; simp
  have HW := Lib.hid hW3
  have HZ := Lib.hid hsz
  unfold nodeV at K1 HW
  unfold bareQ at HW
  clear hW3 hsz
  unfold nodeV
  simp only
  go_enter Tryz.func92, Tryz.ntmps92
  go_upto_region 1 with fail
  rw [← HW.out]
  obtain ⟨x0, x1, x2, x3, x4, x5, x6, x7, x8, x9, x10, x11⟩ := nrow K1
  go_upto_region 3 with fail
  clear x0 x1 x2 x3 x4 x5 x6 x7 x8 x9 x10 x11
  obtain ⟨W4, hW4⟩ : ∃ W, W = (W3.alloc (.cells (spC at_ lo hi) 29)).alloc (.cells #[.pointer (some ⟨W3.heap.size, 7, none⟩), .pointer (some ⟨W3.heap.size, 10, none⟩)] 177) := ⟨_, rfl⟩
  have HI : SI w W3.heap.size W4 #[.string nm, .int .i64 kd, .bool a, .bool b, .bool c] at_ lo hi := by
    rw [hW4]
    refine ⟨(hbW.alloc hbW.size _).alloc (by simp; have := hbW.size; omega) _, (K2.alloc _).alloc _, (K3.alloc _).alloc _, (Blk.new W3 _ _).alloc _, ?_, HZ.out⟩
    have := Blk.new (W3.alloc (.cells (spC at_ lo hi) 29)) 177 #[.pointer (some ⟨W3.heap.size, 7, none⟩), .pointer (some ⟨W3.heap.size, 10, none⟩)]
    rwa [World.size_alloc] at this
  unfold spC at hW4
  rw [← hW4]
  clear hW4
  obtain ⟨s, hs3⟩ : ∃ s, s = W3.heap.size := ⟨_, rfl⟩
  rw [← hs3] at HI ⊢
  clear hs3 K1 K2 K3 hbW
  have HI := Lib.hid HI
  have HL := Lib.hid hl
  have HH := Lib.hid hh
  clear hl hh
  go_loopw [23] (fun i wr => ∃ (i0 : Nat) (l2 h2 : Bnd), i0 ≤ 2 ∧ i = .int .i64 i0 ∧ SI w s wr #[.string nm, .int .i64 kd, .bool a, .bool b, .bool c] at_ l2 h2 ∧ ((i0 = 0 ∧ l2 = lo ∧ h2 = hi) ∨ (i0 = 1 ∧ endQ F lo = some l2 ∧ h2 = hi) ∨ (i0 = 2 ∧ endQ F lo = some l2 ∧ endQ F hi = some h2))) (fun i _ => 2 - (intOf i).toNat)
  case atStart => exact ⟨0, lo, hi, Nat.zero_le _, rfl, HI.out, .inl ⟨rfl, rfl, rfl⟩⟩
  case round =>
    obtain ⟨i0, l2, h2, hi0, rfl, h, hc⟩ := hrel
    rcases hc with ⟨rfl, rfl, rfl⟩ | ⟨rfl, e1, rfl⟩ | ⟨rfl, e1, e2⟩
    · obtain ⟨op, inn, tx⟩ := l2
      have p0 : wr.cell? ⟨s + 1, 0, none⟩ = some (.pointer (some ⟨s, 7, none⟩)) := h.KP.cell 0
      have q7 : wr.cell? ⟨s, 7, none⟩ = some (.bool op) := h.KQ.cell 7
      have q9 : wr.cell? ⟨s, 9, none⟩ = some (.string tx) := h.KQ.cell 9
      have f1 : wr.cell? ⟨w.heap.size + 1, 1, none⟩ = some (.int .i64 kd) := h.KF.cell 1
      have HB := Lib.hid HL.out
      cases op
      · rcases Decidable.em (kd = 3) with h3 | h3
        · have d3 : (kd != 3) = false := by rw [h3]; rfl
          have PN := Lib.hid (fun W => NumWalk.parse_any tx W (by have := HB.out; simp only at this; omega))
          have hr : ∀ v, parseN tx = some v → least ≤ v ∧ v ≤ 9223372036854775807 := fun v h => parse_bd h
          have HK3 := Lib.hid (HKD.out.trans h3)
          clear h3
          cases hp : parseN tx with
          | none =>
            rw [hp] at PN
            have HN := Lib.hid (endQ_none (f := F) (b := ⟨false, inn, tx⟩) rfl HK3.out hp)
            simp only [numV, Option.getD_none, Option.isSome_none] at PN
            have KR := h.KR
            unfold bareQ at KR
            have HBEL := Lib.hid h.bel
            clear hr h hp
            go_wp2_with (first | (go_at_call 39; refine (PN.out _).mono ?_; rintro e wp ⟨rfl, hwp⟩; obtain rfl : wr = wp := hwp.symm) | (go_at_call 51; refine (none_lit _).mono ?_; rintro e w2 ⟨rfl, hb2⟩; have KR2 := KR.below hb2 KR.lt; obtain ⟨z0, z1, z2, z3, z4, z5, z6, z7, z8, z9, z10, z11, z12, z13, z14⟩ := qrow KR2; obtain ⟨y0, y1, y2, y3, y4, y5, y6, y7, y8, y9, y10, y11, y12, y13, y14⟩ := qfz KR2))
            refine bodyPost_ret (results_blk (p := 6) (u := 7) (ty := 29) (t := 29) (g := w.heap.size + 1 + 1) (cs := bareQ 1 0 ⟨#[]⟩) ?_ ?_ (blk15 KR2) Tryz.underlying29 ?_ ?_) ?_ ?_
            · rfl
            · rfl
            · rfl
            · rw [qInfo]; rfl
            · rfl
            · rw [HQ.out.trans (spanQ_lo HN.out)]
              exact isq_bare (k := 1) (f := 0) (t := ⟨#[]⟩) rfl rfl (Nat.zero_le _) rfl (below15 (bchain HBEL.out hb2) (by omega))
          | some v =>
            rw [hp] at PN
            have HN := Lib.hid (endQ_some (f := F) (b := ⟨false, inn, tx⟩) rfl HK3.out hp)
            obtain ⟨v1, v2⟩ := hr v hp
            simp only [numV, Option.getD_some, Option.isSome_some] at PN
            have H := Lib.hid h
            clear hr h hp
            go_wp2_with (first | (go_at_call 39; refine (PN.out _).mono ?_; rintro e wp ⟨rfl, hwp⟩; obtain rfl : wr = wp := hwp.symm) | (go_at_call 40; refine (NumTerm.term_any v _ v1 v2).mono ?_; rintro e w2 ⟨rfl, hb2⟩; have h2x := H.out.below hb2; have z9 : w2.frozen? ⟨s, 9, none⟩ = false := h2x.KQ.frozen 9; have q9 : w2.cell? ⟨s, 9, none⟩ = some (.string tx) := h2x.KQ.cell 9; have HP := Lib.hid (h2x.setLo (termN v)); clear h2x))
            go_roundw
            case rel => exact ⟨1, ⟨false, inn, termN v⟩, h2, by omega, rfl, HP.out, .inr (.inl ⟨rfl, HN.out, rfl⟩)⟩
            case measure => simp [intOf]
        · have d3 : (kd != 3) = true := bne_iff_ne.2 h3
          have HK3 := Lib.hid (fun x => h3 (HKD.out.symm.trans x))
          have FAX := Lib.hid (fun W => FA.out tx W HB.out)
          have HN := Lib.hid (endQ_fold (f := F) (b := ⟨false, inn, tx⟩) rfl HK3.out)
          clear h3
          simp only at HN
          obtain ⟨X, hX⟩ : ∃ X, X = foldedS F tx := ⟨_, rfl⟩
          rw [← hX] at FAX HN
          clear hX
          go_upto_region 7 with fail
          refine RelbA.wp_region_relba 9 (fun wx => Below wr.heap.size wr wx) (fun wa wb => Below wa.heap.size wa wb) (by kernel_rfl) (by kernel_rfl) (by kernel_rfl) (by simp) (bdrew (Below.refl _ _)) ?_
          simp only [List.take_succ_cons, List.take_zero, List.drop_succ_cons, List.drop_zero]
          apply Relb.relb_one [] [] (by kernel_rfl) (by kernel_rfl) (by kernel_rfl)
          case hs =>
            intro vv wx hx hf
            clear hf
            try simp only [Relb.putD, Act.put, Base.s1, Base.s2, Base.s3]
            intro KK hK
            go_simp
            exact hK _ _ hx (Below.refl _ _) rfl
          apply Relb.relb_one [] [] (by kernel_rfl) (by kernel_rfl) (by kernel_rfl)
          case hs =>
            intro vv wx hx hf
            clear hf
            have f0 := (show wx.cell? ⟨w.heap.size + 1, 0, none⟩ = some (.string nm) from (h.KF.below hx h.KF.lt).cell 0)
            have f1 := (show wx.cell? ⟨w.heap.size + 1, 1, none⟩ = some (.int .i64 kd) from (h.KF.below hx h.KF.lt).cell 1)
            have f2 := (show wx.cell? ⟨w.heap.size + 1, 2, none⟩ = some (.bool a) from (h.KF.below hx h.KF.lt).cell 2)
            have f3 := (show wx.cell? ⟨w.heap.size + 1, 3, none⟩ = some (.bool b) from (h.KF.below hx h.KF.lt).cell 3)
            have f4 := (show wx.cell? ⟨w.heap.size + 1, 4, none⟩ = some (.bool c) from (h.KF.below hx h.KF.lt).cell 4)
            have q9 := (show wx.cell? ⟨s, 9, none⟩ = some (.string tx) from (h.KQ.below hx h.KQ.lt).cell 9)
            try simp only [Relb.putD, Act.put, Base.s1, Base.s2, Base.s3]
            intro KK hK
            go_simp
            exact hK _ _ hx (Below.refl _ _) rfl
          apply Relb.relb_one [] [] (by kernel_rfl) (by kernel_rfl) (by kernel_rfl)
          case hs =>
            intro vv wx hx hf
            clear hf
            try simp only [Relb.putD, Act.put, Base.s1, Base.s2, Base.s3]
            intro KK hK
            go_simp
            exact hK _ _ hx (Below.refl _ _) rfl
          apply Relb.relb_one [(2, 36)] [2] (by kernel_rfl) (by kernel_rfl) (by kernel_rfl)
          case hs =>
            intro vv wx hx hf
            have e36 : vv 2 = _ := hf 2 (by simp)
            clear hf
            try simp only [Relb.putD, e36, Act.put, Base.s1, Base.s2, Base.s3]
            intro KK hK
            go_simp
            exact hK _ _ hx (Below.refl _ _) rfl
          apply Relb.relb_one [(3, 37)] [3] (by kernel_rfl) (by kernel_rfl) (by kernel_rfl)
          case hs =>
            intro vv wx hx hf
            have e37 : vv 3 = _ := hf 3 (by simp)
            clear hf
            try simp only [Relb.putD, e37, Act.put, Base.s1, Base.s2, Base.s3]
            intro KK hK
            go_simp
            exact hK _ _ hx (Below.refl _ _) rfl
          apply Relb.relb_one [(4, 38)] [4] (by kernel_rfl) (by kernel_rfl) (by kernel_rfl)
          case hs =>
            intro vv wx hx hf
            have e38 : vv 4 = _ := hf 4 (by simp)
            clear hf
            have f0 := (show wx.cell? ⟨w.heap.size + 1, 0, none⟩ = some (.string nm) from (h.KF.below hx h.KF.lt).cell 0)
            have f1 := (show wx.cell? ⟨w.heap.size + 1, 1, none⟩ = some (.int .i64 kd) from (h.KF.below hx h.KF.lt).cell 1)
            have f2 := (show wx.cell? ⟨w.heap.size + 1, 2, none⟩ = some (.bool a) from (h.KF.below hx h.KF.lt).cell 2)
            have f3 := (show wx.cell? ⟨w.heap.size + 1, 3, none⟩ = some (.bool b) from (h.KF.below hx h.KF.lt).cell 3)
            have f4 := (show wx.cell? ⟨w.heap.size + 1, 4, none⟩ = some (.bool c) from (h.KF.below hx h.KF.lt).cell 4)
            have q9 := (show wx.cell? ⟨s, 9, none⟩ = some (.string tx) from (h.KQ.below hx h.KQ.lt).cell 9)
            try simp only [Relb.putD, e38, Act.put, Base.s1, Base.s2, Base.s3]
            intro KK hK
            go_simp
            exact hK _ _ hx (Below.refl _ _) rfl
          apply Relb.relb_one [(1, 35), (5, 39)] [1, 5] (by kernel_rfl) (by kernel_rfl) (by kernel_rfl)
          case hs =>
            intro vv wx hx hf
            have e35 : vv 1 = _ := hf 1 (by simp)
            have e39 : vv 5 = _ := hf 5 (by simp)
            clear hf
            have f0 := (show wx.cell? ⟨w.heap.size + 1, 0, none⟩ = some (.string nm) from (h.KF.below hx h.KF.lt).cell 0)
            have f1 := (show wx.cell? ⟨w.heap.size + 1, 1, none⟩ = some (.int .i64 kd) from (h.KF.below hx h.KF.lt).cell 1)
            have f2 := (show wx.cell? ⟨w.heap.size + 1, 2, none⟩ = some (.bool a) from (h.KF.below hx h.KF.lt).cell 2)
            have f3 := (show wx.cell? ⟨w.heap.size + 1, 3, none⟩ = some (.bool b) from (h.KF.below hx h.KF.lt).cell 3)
            have f4 := (show wx.cell? ⟨w.heap.size + 1, 4, none⟩ = some (.bool c) from (h.KF.below hx h.KF.lt).cell 4)
            have q9 := (show wx.cell? ⟨s, 9, none⟩ = some (.string tx) from (h.KQ.below hx h.KQ.lt).cell 9)
            try simp only [Relb.putD, e35, e39, Act.put, Base.s1, Base.s2, Base.s3]
            intro KK hK
            go_simp
            go_at_call 122
            refine (FAX.out wx).mono ?_
            rintro e wy ⟨rfl, hby⟩
            exact hK _ _ (bchain hx hby) hby rfl
          apply Relb.relb_one [(0, 34)] [0] (by kernel_rfl) (by kernel_rfl) (by kernel_rfl)
          case hs =>
            intro vv wx hx hf
            have e34 : vv 0 = _ := hf 0 (by simp)
            clear hf
            try simp only [Relb.putD, e34, Act.put, Base.s1, Base.s2, Base.s3]
            intro KK hK
            go_simp
            exact hK _ _ hx (Below.refl _ _) rfl
          apply Relb.relb_one [(7, 41)] [7] (by kernel_rfl) (by kernel_rfl) (by kernel_rfl)
          case hs =>
            intro vv wx hx hf
            have e41 : vv 7 = _ := hf 7 (by simp)
            clear hf
            try simp only [Relb.putD, e41, Act.put, Base.s1, Base.s2, Base.s3]
            intro KK hK
            go_simp
            exact hK _ _ hx (Below.refl _ _) rfl
          refine RelbA.relba_end (N := 1) [(0, 34), (1, 35), (2, 36), (3, 37), (4, 38), (5, 39), (6, 40), (7, 41), (8, 42)] (by kernel_rfl) (by kernel_rfl) ?_
          intro vv wx hx hf
          have e34 : vv 0 = _ := hf 0 (by decide)
          have e35 : vv 1 = _ := hf 1 (by decide)
          have e36 : vv 2 = _ := hf 2 (by decide)
          have e37 : vv 3 = _ := hf 3 (by decide)
          have e38 : vv 4 = _ := hf 4 (by decide)
          have e39 : vv 5 = _ := hf 5 (by decide)
          have e40 : vv 6 = _ := hf 6 (by decide)
          have e41 : vv 7 = _ := hf 7 (by decide)
          have e42 : vv 8 = _ := hf 8 (by decide)
          clear hf
          simp only [Relb.putD, e34, e35, e36, e37, e38, e39, e40, e41, e42, Act.put, Base.s1, Base.s2, Base.s3]
          have h2x := h.below hx
          have z9 : wx.frozen? ⟨s, 9, none⟩ = false := h2x.KQ.frozen 9
          have q9 : wx.cell? ⟨s, 9, none⟩ = some (.string tx) := h2x.KQ.cell 9
          have HP := Lib.hid (h2x.setLo X)
          clear h2x e34 e35 e36 e37 e38 e39 e40 e41 e42
          refine wpAny_ready (rs := [9]) (by kernel_rfl) (by simp) ?_
          refine AllReady.cons (by rw [List.getElem?_toArray]; rfl) (fun K hK => ?_) AllReady.nil
          go_simp
          refine hK _ _ ?_
          clear hK K
          try simp only [Act.put, Base.s1, Base.s2, Base.s3]
          refine wpAny_done (by kernel_rfl) ?_ _
          go_wp2_with fail
          go_roundw
          case rel => exact ⟨1, ⟨false, inn, X⟩, h2, by omega, rfl, HP.out, .inr (.inl ⟨rfl, HN.out, rfl⟩)⟩
          case measure => simp [intOf]
      · have HN := Lib.hid (endQ_open (f := F) (b := ⟨true, inn, tx⟩) rfl)
        have H := Lib.hid h
        clear h
        go_wp2_with fail
        go_roundw
        case rel => exact ⟨1, ⟨true, inn, tx⟩, h2, by omega, rfl, H.out, .inr (.inl ⟨rfl, HN.out, rfl⟩)⟩
        case measure => simp [intOf]
    · obtain ⟨op, inn, tx⟩ := h2
      have p0 : wr.cell? ⟨s + 1, 1, none⟩ = some (.pointer (some ⟨s, 10, none⟩)) := h.KP.cell 1
      have q7 : wr.cell? ⟨s, 10, none⟩ = some (.bool op) := h.KQ.cell 10
      have q9 : wr.cell? ⟨s, 12, none⟩ = some (.string tx) := h.KQ.cell 12
      have f1 : wr.cell? ⟨w.heap.size + 1, 1, none⟩ = some (.int .i64 kd) := h.KF.cell 1
      have HB := Lib.hid HH.out
      have HE1 := Lib.hid e1
      clear e1
      cases op
      · rcases Decidable.em (kd = 3) with h3 | h3
        · have d3 : (kd != 3) = false := by rw [h3]; rfl
          have PN := Lib.hid (fun W => NumWalk.parse_any tx W (by have := HB.out; simp only at this; omega))
          have hr : ∀ v, parseN tx = some v → least ≤ v ∧ v ≤ 9223372036854775807 := fun v h => parse_bd h
          have HK3 := Lib.hid (HKD.out.trans h3)
          clear h3
          cases hp : parseN tx with
          | none =>
            rw [hp] at PN
            have HN := Lib.hid (endQ_none (f := F) (b := ⟨false, inn, tx⟩) rfl HK3.out hp)
            simp only [numV, Option.getD_none, Option.isSome_none] at PN
            have KR := h.KR
            unfold bareQ at KR
            have HBEL := Lib.hid h.bel
            clear hr h hp
            go_wp2_with (first | (go_at_call 39; refine (PN.out _).mono ?_; rintro e wp ⟨rfl, hwp⟩; obtain rfl : wr = wp := hwp.symm) | (go_at_call 51; refine (none_lit _).mono ?_; rintro e w2 ⟨rfl, hb2⟩; have KR2 := KR.below hb2 KR.lt; obtain ⟨z0, z1, z2, z3, z4, z5, z6, z7, z8, z9, z10, z11, z12, z13, z14⟩ := qrow KR2; obtain ⟨y0, y1, y2, y3, y4, y5, y6, y7, y8, y9, y10, y11, y12, y13, y14⟩ := qfz KR2))
            refine bodyPost_ret (results_blk (p := 6) (u := 7) (ty := 29) (t := 29) (g := w.heap.size + 1 + 1) (cs := bareQ 1 0 ⟨#[]⟩) ?_ ?_ (blk15 KR2) Tryz.underlying29 ?_ ?_) ?_ ?_
            · rfl
            · rfl
            · rfl
            · rw [qInfo]; rfl
            · rfl
            · rw [HQ.out.trans (spanQ_hi HN.out)]
              exact isq_bare (k := 1) (f := 0) (t := ⟨#[]⟩) rfl rfl (Nat.zero_le _) rfl (below15 (bchain HBEL.out hb2) (by omega))
          | some v =>
            rw [hp] at PN
            have HN := Lib.hid (endQ_some (f := F) (b := ⟨false, inn, tx⟩) rfl HK3.out hp)
            obtain ⟨v1, v2⟩ := hr v hp
            simp only [numV, Option.getD_some, Option.isSome_some] at PN
            have H := Lib.hid h
            clear hr h hp
            go_wp2_with (first | (go_at_call 39; refine (PN.out _).mono ?_; rintro e wp ⟨rfl, hwp⟩; obtain rfl : wr = wp := hwp.symm) | (go_at_call 40; refine (NumTerm.term_any v _ v1 v2).mono ?_; rintro e w2 ⟨rfl, hb2⟩; have h2x := H.out.below hb2; have z9 : w2.frozen? ⟨s, 12, none⟩ = false := h2x.KQ.frozen 12; have q9 : w2.cell? ⟨s, 12, none⟩ = some (.string tx) := h2x.KQ.cell 12; have HP := Lib.hid (h2x.setHi (termN v)); clear h2x))
            go_roundw
            case rel => exact ⟨2, l2, ⟨false, inn, termN v⟩, by omega, rfl, HP.out, .inr (.inr ⟨rfl, HE1.out, HN.out⟩)⟩
            case measure => simp [intOf]
        · have d3 : (kd != 3) = true := bne_iff_ne.2 h3
          have HK3 := Lib.hid (fun x => h3 (HKD.out.symm.trans x))
          have FAX := Lib.hid (fun W => FA.out tx W HB.out)
          have HN := Lib.hid (endQ_fold (f := F) (b := ⟨false, inn, tx⟩) rfl HK3.out)
          clear h3
          simp only at HN
          obtain ⟨X, hX⟩ : ∃ X, X = foldedS F tx := ⟨_, rfl⟩
          rw [← hX] at FAX HN
          clear hX
          go_upto_region 7 with fail
          refine RelbA.wp_region_relba 9 (fun wx => Below wr.heap.size wr wx) (fun wa wb => Below wa.heap.size wa wb) (by kernel_rfl) (by kernel_rfl) (by kernel_rfl) (by simp) (bdrew (Below.refl _ _)) ?_
          simp only [List.take_succ_cons, List.take_zero, List.drop_succ_cons, List.drop_zero]
          apply Relb.relb_one [] [] (by kernel_rfl) (by kernel_rfl) (by kernel_rfl)
          case hs =>
            intro vv wx hx hf
            clear hf
            try simp only [Relb.putD, Act.put, Base.s1, Base.s2, Base.s3]
            intro KK hK
            go_simp
            exact hK _ _ hx (Below.refl _ _) rfl
          apply Relb.relb_one [] [] (by kernel_rfl) (by kernel_rfl) (by kernel_rfl)
          case hs =>
            intro vv wx hx hf
            clear hf
            have f0 := (show wx.cell? ⟨w.heap.size + 1, 0, none⟩ = some (.string nm) from (h.KF.below hx h.KF.lt).cell 0)
            have f1 := (show wx.cell? ⟨w.heap.size + 1, 1, none⟩ = some (.int .i64 kd) from (h.KF.below hx h.KF.lt).cell 1)
            have f2 := (show wx.cell? ⟨w.heap.size + 1, 2, none⟩ = some (.bool a) from (h.KF.below hx h.KF.lt).cell 2)
            have f3 := (show wx.cell? ⟨w.heap.size + 1, 3, none⟩ = some (.bool b) from (h.KF.below hx h.KF.lt).cell 3)
            have f4 := (show wx.cell? ⟨w.heap.size + 1, 4, none⟩ = some (.bool c) from (h.KF.below hx h.KF.lt).cell 4)
            have q9 := (show wx.cell? ⟨s, 12, none⟩ = some (.string tx) from (h.KQ.below hx h.KQ.lt).cell 12)
            try simp only [Relb.putD, Act.put, Base.s1, Base.s2, Base.s3]
            intro KK hK
            go_simp
            exact hK _ _ hx (Below.refl _ _) rfl
          apply Relb.relb_one [] [] (by kernel_rfl) (by kernel_rfl) (by kernel_rfl)
          case hs =>
            intro vv wx hx hf
            clear hf
            try simp only [Relb.putD, Act.put, Base.s1, Base.s2, Base.s3]
            intro KK hK
            go_simp
            exact hK _ _ hx (Below.refl _ _) rfl
          apply Relb.relb_one [(2, 36)] [2] (by kernel_rfl) (by kernel_rfl) (by kernel_rfl)
          case hs =>
            intro vv wx hx hf
            have e36 : vv 2 = _ := hf 2 (by simp)
            clear hf
            try simp only [Relb.putD, e36, Act.put, Base.s1, Base.s2, Base.s3]
            intro KK hK
            go_simp
            exact hK _ _ hx (Below.refl _ _) rfl
          apply Relb.relb_one [(3, 37)] [3] (by kernel_rfl) (by kernel_rfl) (by kernel_rfl)
          case hs =>
            intro vv wx hx hf
            have e37 : vv 3 = _ := hf 3 (by simp)
            clear hf
            try simp only [Relb.putD, e37, Act.put, Base.s1, Base.s2, Base.s3]
            intro KK hK
            go_simp
            exact hK _ _ hx (Below.refl _ _) rfl
          apply Relb.relb_one [(4, 38)] [4] (by kernel_rfl) (by kernel_rfl) (by kernel_rfl)
          case hs =>
            intro vv wx hx hf
            have e38 : vv 4 = _ := hf 4 (by simp)
            clear hf
            have f0 := (show wx.cell? ⟨w.heap.size + 1, 0, none⟩ = some (.string nm) from (h.KF.below hx h.KF.lt).cell 0)
            have f1 := (show wx.cell? ⟨w.heap.size + 1, 1, none⟩ = some (.int .i64 kd) from (h.KF.below hx h.KF.lt).cell 1)
            have f2 := (show wx.cell? ⟨w.heap.size + 1, 2, none⟩ = some (.bool a) from (h.KF.below hx h.KF.lt).cell 2)
            have f3 := (show wx.cell? ⟨w.heap.size + 1, 3, none⟩ = some (.bool b) from (h.KF.below hx h.KF.lt).cell 3)
            have f4 := (show wx.cell? ⟨w.heap.size + 1, 4, none⟩ = some (.bool c) from (h.KF.below hx h.KF.lt).cell 4)
            have q9 := (show wx.cell? ⟨s, 12, none⟩ = some (.string tx) from (h.KQ.below hx h.KQ.lt).cell 12)
            try simp only [Relb.putD, e38, Act.put, Base.s1, Base.s2, Base.s3]
            intro KK hK
            go_simp
            exact hK _ _ hx (Below.refl _ _) rfl
          apply Relb.relb_one [(1, 35), (5, 39)] [1, 5] (by kernel_rfl) (by kernel_rfl) (by kernel_rfl)
          case hs =>
            intro vv wx hx hf
            have e35 : vv 1 = _ := hf 1 (by simp)
            have e39 : vv 5 = _ := hf 5 (by simp)
            clear hf
            have f0 := (show wx.cell? ⟨w.heap.size + 1, 0, none⟩ = some (.string nm) from (h.KF.below hx h.KF.lt).cell 0)
            have f1 := (show wx.cell? ⟨w.heap.size + 1, 1, none⟩ = some (.int .i64 kd) from (h.KF.below hx h.KF.lt).cell 1)
            have f2 := (show wx.cell? ⟨w.heap.size + 1, 2, none⟩ = some (.bool a) from (h.KF.below hx h.KF.lt).cell 2)
            have f3 := (show wx.cell? ⟨w.heap.size + 1, 3, none⟩ = some (.bool b) from (h.KF.below hx h.KF.lt).cell 3)
            have f4 := (show wx.cell? ⟨w.heap.size + 1, 4, none⟩ = some (.bool c) from (h.KF.below hx h.KF.lt).cell 4)
            have q9 := (show wx.cell? ⟨s, 12, none⟩ = some (.string tx) from (h.KQ.below hx h.KQ.lt).cell 12)
            try simp only [Relb.putD, e35, e39, Act.put, Base.s1, Base.s2, Base.s3]
            intro KK hK
            go_simp
            go_at_call 122
            refine (FAX.out wx).mono ?_
            rintro e wy ⟨rfl, hby⟩
            exact hK _ _ (bchain hx hby) hby rfl
          apply Relb.relb_one [(0, 34)] [0] (by kernel_rfl) (by kernel_rfl) (by kernel_rfl)
          case hs =>
            intro vv wx hx hf
            have e34 : vv 0 = _ := hf 0 (by simp)
            clear hf
            try simp only [Relb.putD, e34, Act.put, Base.s1, Base.s2, Base.s3]
            intro KK hK
            go_simp
            exact hK _ _ hx (Below.refl _ _) rfl
          apply Relb.relb_one [(7, 41)] [7] (by kernel_rfl) (by kernel_rfl) (by kernel_rfl)
          case hs =>
            intro vv wx hx hf
            have e41 : vv 7 = _ := hf 7 (by simp)
            clear hf
            try simp only [Relb.putD, e41, Act.put, Base.s1, Base.s2, Base.s3]
            intro KK hK
            go_simp
            exact hK _ _ hx (Below.refl _ _) rfl
          refine RelbA.relba_end (N := 1) [(0, 34), (1, 35), (2, 36), (3, 37), (4, 38), (5, 39), (6, 40), (7, 41), (8, 42)] (by kernel_rfl) (by kernel_rfl) ?_
          intro vv wx hx hf
          have e34 : vv 0 = _ := hf 0 (by decide)
          have e35 : vv 1 = _ := hf 1 (by decide)
          have e36 : vv 2 = _ := hf 2 (by decide)
          have e37 : vv 3 = _ := hf 3 (by decide)
          have e38 : vv 4 = _ := hf 4 (by decide)
          have e39 : vv 5 = _ := hf 5 (by decide)
          have e40 : vv 6 = _ := hf 6 (by decide)
          have e41 : vv 7 = _ := hf 7 (by decide)
          have e42 : vv 8 = _ := hf 8 (by decide)
          clear hf
          simp only [Relb.putD, e34, e35, e36, e37, e38, e39, e40, e41, e42, Act.put, Base.s1, Base.s2, Base.s3]
          have h2x := h.below hx
          have z9 : wx.frozen? ⟨s, 12, none⟩ = false := h2x.KQ.frozen 12
          have q9 : wx.cell? ⟨s, 12, none⟩ = some (.string tx) := h2x.KQ.cell 12
          have HP := Lib.hid (h2x.setHi X)
          clear h2x e34 e35 e36 e37 e38 e39 e40 e41 e42
          refine wpAny_ready (rs := [9]) (by kernel_rfl) (by simp) ?_
          refine AllReady.cons (by rw [List.getElem?_toArray]; rfl) (fun K hK => ?_) AllReady.nil
          go_simp
          refine hK _ _ ?_
          clear hK K
          try simp only [Act.put, Base.s1, Base.s2, Base.s3]
          refine wpAny_done (by kernel_rfl) ?_ _
          go_wp2_with fail
          go_roundw
          case rel => exact ⟨2, l2, ⟨false, inn, X⟩, by omega, rfl, HP.out, .inr (.inr ⟨rfl, HE1.out, HN.out⟩)⟩
          case measure => simp [intOf]
      · have HN := Lib.hid (endQ_open (f := F) (b := ⟨true, inn, tx⟩) rfl)
        have H := Lib.hid h
        clear h
        go_wp2_with fail
        go_roundw
        case rel => exact ⟨2, l2, ⟨true, inn, tx⟩, by omega, rfl, H.out, .inr (.inr ⟨rfl, HE1.out, HN.out⟩)⟩
        case measure => simp [intOf]
    · have HE1 := Lib.hid e1
      have HE2 := Lib.hid e2
      have KR := h.KR
      have KQ := h.KQ
      unfold bareQ at KR
      unfold spC at KQ
      obtain ⟨z0, z1, z2, z3, z4, z5, z6, z7, z8, z9, z10, z11, z12, z13, z14⟩ := qrow KQ
      obtain ⟨x0, x1, x2, x3, x4, x5, x6, x7, x8, x9, x10, x11, x12, x13, x14⟩ := qrow KR
      obtain ⟨y0, y1, y2, y3, y4, y5, y6, y7, y8, y9, y10, y11, y12, y13, y14⟩ := qfz KR
      have HBEL := Lib.hid h.bel
      clear e1 e2 h
      go_wp2_with fail
      refine bodyPost_ret (results_blk (p := 6) (u := 7) (ty := 29) (t := 29) (g := w.heap.size + 1 + 1) (cs := spC at_ l2 h2) ?_ ?_ (blk15 KR) Tryz.underlying29 ?_ ?_) ?_ ?_
      · rfl
      · rfl
      · rfl
      · rw [qInfo]; rfl
      · rfl
      · rw [HQ.out.trans (spanQ_some HE1.out HE2.out)]
        exact isq_span hat rfl (below15 HBEL.out (by omega))
end Go.Proofs.YtkcfgcdlnojaeaaGreatDoor.SpanBind
