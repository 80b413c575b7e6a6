/-
  The walks of bind.Check and bind.Text over whatever query.
-/
import Derived.Test.YtkcfgcdlnojaeaaGreatDoorDKids
import Derived.Test.YtkcfgcdlnojaeaaGreatDoorGoodAll
import Derived.Test.YtkcfgcdlnojaeaaGreatDoorQuietLoad
import Derived.Test.YtkcfgcdlnojaeaaGreatDoorDTerm
set_option linter.unusedVariables false
set_option linter.unusedSimpArgs false
namespace Go.Proofs.YtkcfgcdlnojaeaaGreatDoor.TextAll
set_option maxRecDepth 100000
open Go.RowKit Go.PlainAid Base Query QrySize BindBase Bytes Digits NumAll TextPlain TextLine LineBase LineAll GoodAll QuietLoad TermCheck Rel Relb RelbT RelC

set_option maxHeartbeats 4000000 in
theorem check_any (q : Qry) (cs : List Value) (B : Nat) (n : Int) (ev : Value) (w : World) (hq : QVal w B cs q) (hB : B ≤ w.heap.size) (hbk : bulk q ≤ 1099511627776) (he : w.cell? ⟨1, 0, none⟩ = some ev) (h0 : 1 < w.heap.size) :
    Calls Tryz.prog 19 #[.agg cs.toArray, .int .i64 n, .bool false] w fun e w' => e = .returned (errUnless (good n false q) ev) ∧ Below w.heap.size w w' := by
  obtain ⟨C, hC⟩ : ∃ C, C = cs.toArray := ⟨_, rfl⟩
  have hlen : C.size = 15 := by rw [hC]; simpa using hq.len
  obtain ⟨W1, hW1⟩ : ∃ W, W = w.alloc (.cells C 29) := ⟨_, rfl⟩
  have K1 : Blk W1 w.heap.size 29 C := by rw [hW1]; exact Blk.new w _ _
  have hsz : w.heap.size + 1 = W1.heap.size := by rw [hW1]; simp
  have hbW : Below w.heap.size w W1 := by rw [hW1]; (repeat (first | exact Below.refl _ _ | assumption | refine balloc ?_ _ | refine bdrew ?_ | refine bdrewN ?_ _ | refine bchain ?_ (by assumption)))
  obtain ⟨r, hr⟩ : ∃ r, r = good n false q := ⟨_, rfl⟩
  have KA : ∀ b : Bw W1.heap.size W1, Calls Tryz.prog 47 #[] b.at_ fun e w' => e = .returned (.agg kindsA) ∧ ∃ b' : Bw W1.heap.size W1, w' = b'.at_ := fun b => calls_bw (Nat.le_refl _) (kinds_any _)
  have GT : ∀ b : Bw W1.heap.size W1, Calls Tryz.prog 55 #[.agg kindsA, .agg C, .int .i64 n, .bool false] b.at_ fun e w' => e = .returned (.bool r) ∧ ∃ b' : Bw W1.heap.size W1, w' = b'.at_ := fun b => by
    rw [hr, hC]
    exact calls_bw (Nat.le_refl _) (good_any q cs B n b.at_ (hq.kept (bchain hbW b.below) hB) (Nat.le_trans hB (Nat.le_trans hbW.size b.below.size)) hbk)
  have L1 := loads_blk (P := Tryz.prog) (ty := 29) K1 (show w.heap.size < W1.heap.size by omega) Tryz.underlying29 rfl (by rw [qInfo, hlen])
  rw [← hr, ← hC]
  generalize kindsA = K at KA GT
  have HW := Lib.hid hW1
  clear hW1 hr hC hq hlen
  cases r
  · go_enter Tryz.func19, Tryz.ntmps19
    go_upto_region 1 with fail
    rw [← HW.out]
    refine wp_region_bw W1.heap.size (by kernel_rfl) (by kernel_rfl) ?_
    repeat (first | (refine BigFrame.wpQuiet_want (by kernel_rfl) ?_; intro KK hK; refine quiet_load _ _ _ (.agg C) rfl rfl L1 (hK _ ?_); clear hK KK; simp only [Act.put, Base.s1, Base.s2, Base.s3]) | go_big_quiet_step ((first | (go_at_call 47; with_reducible exact KA _) | (go_at_call 55; with_reducible exact GT _))))
    refine wpQuiet_nil ?_
    intro wq hw'
    obtain ⟨⟨wz, hbq⟩, hw''⟩ := hw'
    subst hw''
    have he2 := (hbq.cell (p := ⟨1, 0, none⟩) (by show 1 < _; omega)).trans ((hbW.cell (p := ⟨1, 0, none⟩) h0).trans he)
    go_wp2_with fail
    go_ret
    exact ⟨rfl, bchain hbW hbq⟩
  · go_enter Tryz.func19, Tryz.ntmps19
    go_upto_region 1 with fail
    rw [← HW.out]
    refine wp_region_bw W1.heap.size (by kernel_rfl) (by kernel_rfl) ?_
    repeat (first | (refine BigFrame.wpQuiet_want (by kernel_rfl) ?_; intro KK hK; refine quiet_load _ _ _ (.agg C) rfl rfl L1 (hK _ ?_); clear hK KK; simp only [Act.put, Base.s1, Base.s2, Base.s3]) | go_big_quiet_step ((first | (go_at_call 47; with_reducible exact KA _) | (go_at_call 55; with_reducible exact GT _))))
    refine wpQuiet_nil ?_
    intro wq hw'
    obtain ⟨⟨wz, hbq⟩, hw''⟩ := hw'
    subst hw''
    go_wp2_with fail
    go_ret
    exact ⟨rfl, bchain hbW hbq⟩
/-- The text of whatever query. -/
def textL (q : Qry) : List UInt8 := if good 16 false q then lineL q else []
set_option maxHeartbeats 4000000 in
theorem text_any (q : Qry) (cs : List Value) (B base : Nat) (a : Addr) (w : World) (hq : QVal w B cs q) (hB : B ≤ base) (hb : base ≤ w.heap.size) (ht : Pow base w) (hbk : bulk q ≤ 1073741824) (he : w.cell? ⟨1, 0, none⟩ = some (.iface 274 (.pointer (some a)))) (h0 : 1 < w.heap.size) :
    Calls Tryz.prog 13 #[.agg cs.toArray] w fun e w' => e = .returned (.string ⟨(textL q).toArray⟩) ∧ Below w.heap.size w w' := by
  obtain ⟨W0, hW0⟩ : ∃ W, W = w.alloc (.cells cs.toArray 29) := ⟨_, rfl⟩
  have K1 : Blk W0 w.heap.size 29 cs.toArray := by rw [hW0]; exact Blk.new w _ _
  have hsz : w.heap.size + 1 = W0.heap.size := by rw [hW0]; simp
  have hbW : Below w.heap.size w W0 := by rw [hW0]; (repeat (first | exact Below.refl _ _ | assumption | refine balloc ?_ _ | refine bdrew ?_ | refine bdrewN ?_ _ | refine bchain ?_ (by assumption)))
  obtain ⟨ev, hev⟩ : ∃ ev : Value, ev = .iface 274 (.pointer (some a)) := ⟨_, rfl⟩
  rw [← hev] at he
  have CT := Lib.hid (check_any q cs B 16 ev W0 (hq.kept hbW (Nat.le_trans hB hb)) (Nat.le_trans (Nat.le_trans hB hb) hbW.size) (by omega) ((hbW.cell (p := ⟨1, 0, none⟩) h0).trans he) (Nat.lt_of_lt_of_le h0 hbW.size))
  have LT := Lib.hid (fun hg W (hW : Below w.heap.size w W) => line_any q hg cs B (.slice none 0 0) [] base W (hq.kept hW (Nat.le_trans hB hb)) hB (World.ownsRow_nil _ _ _ _) (Nat.le_trans hb hW.size) (ht.on (hW.mono hb)) (by omega) (by simp; omega))
  have HW := Lib.hid hW0
  obtain ⟨r, hr⟩ : ∃ r, r = good 16 false q := ⟨_, rfl⟩
  unfold textL
  rw [← hr] at CT LT ⊢
  obtain ⟨hd, ks, A1, A2, A3, A4, c1, c2, c3, c4, kc, hw, hkl, h1, h2, h3, h4, h5⟩ := hq
  clear hr hw hkl h1 h2 h3 h4 h5 hbk he
  rw [hW0] at CT
  clear hW0
  cases r
  · rw [show errUnless false ev = ev from rfl, hev] at CT
    clear hev
    go_enter Tryz.func13, Tryz.ntmps13
    go_wp2_with (go_at_call 19; refine CT.out.mono ?_; rintro e W1 ⟨rfl, hb1⟩)
    go_ret
    exact ⟨rfl, bchain hbW (by rw [HW.out]; exact hb1)⟩
  · rw [show errUnless true ev = .nilIface from rfl] at CT
    have LT2 := Lib.hid (LT.out rfl)
    clear LT
    clear hev
    go_enter Tryz.func13, Tryz.ntmps13
    go_upto_region 3 with (go_at_call 19; refine CT.out.mono ?_; rintro e W1 ⟨rfl, hb1⟩)
    have hb01 : Below W0.heap.size W0 W1 := by rw [HW.out]; exact hb1
    have KQ := K1.below hb01 (by omega)
    have hlt1 : w.heap.size < W1.heap.size := KQ.lt
    have qcell : ∀ {wx : World} (hx : Below W1.heap.size W1 wx) (j : Nat) (u : Value) (_ : ([.int .i64 hd.kind, .int .i64 hd.field, .string hd.text, .slice A1 hd.terms.length c1, .slice A2 hd.offs.length c2, .int .i64 hd.n, .int .u64 hd.weight, .bool hd.lo.op, .bool hd.lo.inn, .string hd.lo.text, .bool hd.hi.op, .bool hd.hi.inn, .string hd.hi.text, .slice A3 hd.occur.length c3, .slice A4 ks.length c4] : List Value).toArray[j]? = some u), wx.cell? ⟨w.heap.size, j, none⟩ = some u := fun hx j u hu => ((KQ.below hx hlt1).cell j).trans hu
    clear CT
    refine RelbT.wp_region_relbt 2 (fun wx => Below W1.heap.size W1 wx) (fun wa wb => Below wa.heap.size wa wb) (by kernel_rfl) (by kernel_rfl) (by kernel_rfl) (by simp) (bdrew (Below.refl _ _)) ?_
    simp only [List.take_succ_cons, List.take_zero, List.drop_succ_cons, List.drop_zero]
    apply Relb.relb_one [] [] (by kernel_rfl) (by kernel_rfl) (by kernel_rfl)
    case hs =>
      intro vv wx hx hf
      clear hf
      try simp only [Relb.putD, Act.put, Base.s1, Base.s2, Base.s3]
      intro KK hK
      go_simp
      go_at_call 47
      refine (kinds_any _).mono ?_
      rintro e w2 ⟨rfl, hb2⟩
      exact hK _ _ (bchain hx hb2) hb2 rfl
    apply Relb.relb_one [] [] (by kernel_rfl) (by kernel_rfl) (by kernel_rfl)
    case hs =>
      intro vv wx hx hf
      clear hf
      have y0 := qcell hx 0 (.int .i64 hd.kind) rfl
      have y1 := qcell hx 1 (.int .i64 hd.field) rfl
      have y2 := qcell hx 2 (.string hd.text) rfl
      have y3 := qcell hx 3 (.slice A1 hd.terms.length c1) rfl
      have y4 := qcell hx 4 (.slice A2 hd.offs.length c2) rfl
      have y5 := qcell hx 5 (.int .i64 hd.n) rfl
      have y6 := qcell hx 6 (.int .u64 hd.weight) rfl
      have y7 := qcell hx 7 (.bool hd.lo.op) rfl
      have y8 := qcell hx 8 (.bool hd.lo.inn) rfl
      have y9 := qcell hx 9 (.string hd.lo.text) rfl
      have y10 := qcell hx 10 (.bool hd.hi.op) rfl
      have y11 := qcell hx 11 (.bool hd.hi.inn) rfl
      have y12 := qcell hx 12 (.string hd.hi.text) rfl
      have y13 := qcell hx 13 (.slice A3 hd.occur.length c3) rfl
      have y14 := qcell hx 14 (.slice A4 ks.length c4) rfl
      try simp only [Relb.putD, Act.put, Base.s1, Base.s2, Base.s3]
      intro KK hK
      go_simp
      exact hK _ _ hx (Below.refl _ _) rfl
    refine RelbT.relbt_end [(0, 6), (1, 7)] (by kernel_rfl) (by kernel_rfl) ?_
    intro vv wx hx hf
    have e6 : vv 0 = _ := hf 0 (by decide)
    have e7 : vv 1 = _ := hf 1 (by decide)
    clear hf
    simp only [Relb.putD, e6, e7, Act.put, Base.s1, Base.s2, Base.s3]
    clear e6 e7
    go_wp2_with (go_at_call 46; refine (LT2.out wx (bchain (bchain hbW hb01) hx)).mono ?_; rintro e w5 ⟨v5, rfl, ha5⟩; have hcv := run_string_own (P := Tryz.prog) (B := 82) (S := 9) u8und Tryz.underlying5 Tryz.underlying9 ha5.1; rw [List.nil_append] at hcv)
    go_ret
    have hb5 : Below wx.heap.size wx w5 := ⟨ha5.2.1.os, ha5.2.1.tape, ha5.2.1.output, ha5.2.1.size, fun k hk => ha5.2.1.block k hk (by intro h; cases h)⟩
    exact ⟨rfl, bchain (bchain (bchain hbW hb01) hx) hb5⟩
end Go.Proofs.YtkcfgcdlnojaeaaGreatDoor.TextAll
