/-
  The walk of bind.line over queries with kids.
  The walk of bind.line over whatever good query.
-/
import Derived.Test.YtkcfgcdlnojaeaaGreatDoorDLine
import Derived.Test.YtkcfgcdlnojaeaaGreatDoorDTextP
set_option linter.unusedVariables false
set_option linter.unusedSimpArgs false
namespace Go.Proofs.YtkcfgcdlnojaeaaGreatDoor.LineKids
set_option maxRecDepth 100000
open Go.RowKit Go.PlainAid Base Query QrySize BindBase Bytes Digits Quoted QuoteAll NumAll Rel Relb RelbT RelC TextPlain TextLine TextOne LineBase EndWalk LineLeaf

theorem own_ne {base g : Nat} {w w0 w' : World} {v v' : Value} {l l2 m : List UInt8} (h : Byt w base v l) (h1 : w.heap.size ≤ g) (ha : AddB base w0 v l2 m v' w') (h2 : g < w0.heap.size) : some g ≠ v'.ownBlock := by
  intro e
  rcases ha.2.2.1 with q | ⟨g', q, hg⟩
  · exact own_lt h g h1 (e.trans q)
  · rw [q] at e; cases e; omega

set_option maxHeartbeats 4000000 in
theorem line_k10 (hd : Head) (ks : List Qry) (hk : hd.kind = 10) (hw : Hwf hd) (hg : locB 16 false hd ks.length = true) (A1 A2 A3 A4 : Option Addr) (c1 c2 c3 c4 : Nat) (v : Value) (l : List UInt8) (base : Nat) (w : World) (hown : Byt w base v l) (hb : base ≤ w.heap.size) (ht : Pow base w) (B : Nat) (hB : B ≤ base) (kc : Nat → List Value) (hks : ks.length ≤ maxLen) (s3 : Slc w B A3 (ints hd.occur))
    (h4 : ks ≠ [] → ∃ g o, A4 = some ⟨g, o, none⟩ ∧ g < B ∧ ∀ i, i < ks.length → ∀ j u, (kc i)[j]? = some u → w.cell? ⟨g, o + i * 15 + j, none⟩ = some u) (h5 : ∀ i k, ks[i]? = some k → QVal w B (kc i) k)
    (IH : ∀ i k, ks[i]? = some k → ∀ (v : Value) (l : List UInt8) (w1 : World), Below base w w1 → Byt w1 base v l → base ≤ w1.heap.size → Pow base w1 → l.length + 128 * bulk k ≤ 8796093022208 → Calls Tryz.prog 46 #[v, .agg kindsA, .agg (kc i).toArray] w1 (Adds base w1 v l (lineL k)))
    (hkl : ∀ k ∈ ks, (lineL k).length + 4 ≤ 128 * bulk k) (hbk : bulk (.mk hd ks) ≤ 1099511627776) (hl : l.length + 128 * bulk (.mk hd ks) ≤ 8796093022208) :
    Calls Tryz.prog 46 #[v, .agg kindsA, .agg (qcells hd ks.length A1 A2 A3 A4 c1 c2 c3 c4)] w (Adds base w v l (lineL (.mk hd ks))) := by
  obtain ⟨hk1, hk2, ok⟩ := ok_of hg
  have hwt := wt_head hw (nk := 0)
  have hbl := body_len (by decide) hg hwt
  have hF := i64_of hw.field
  have hN := i64_of hw.n
  have hW := u64_of hw.weight
  obtain ⟨z1, z2, z3⟩ := bulk_parts hd
  simp only [bulk] at hbk hl
  have hb1 : 1 ≤ hbulk hd := by unfold hbulk; omega
  rw [hk] at ok
  obtain ⟨kind, field, text, terms, offs, n, weight, lo, hi, occur⟩ := hd
  simp only at hk hF hN hW z1 z2 z3
  subst hk
  have okn := ok.n0
  have hol := ok.o1 rfl
  have hoc := ok.o2
  simp only at okn s3 hol hoc
  have hkb : ∀ j, j ≤ ks.length → (kidsL (ks.take j) occur 0).length ≤ 128 * bulks (ks.take j) := fun j hj => by
    have := kids_len (ks := ks.take j) occur (fun k hk => hkl k (List.mem_of_mem_take hk)) 0
    omega
  have k9 : kindsA[109]? = some (.string ⟨#[108, 105, 115, 116]⟩) := by kernel_rfl
  have hKs : (Tryz.prog.info? 86).map (·.size) = some kindsA.size := kindsInfo
  generalize kindsA = K at *
  obtain ⟨W2, hW2⟩ : ∃ W, W = (w.alloc (.cells K 86)).alloc (.cells (qcells ⟨10, field, text, terms, offs, n, weight, lo, hi, occur⟩ ks.length A1 A2 A3 A4 c1 c2 c3 c4) 29) := ⟨_, rfl⟩
  have K1 : Blk W2 (w.heap.size + 1) 29 (qcells ⟨10, field, text, terms, offs, n, weight, lo, hi, occur⟩ ks.length A1 A2 A3 A4 c1 c2 c3 c4) := by
    rw [hW2]
    have := Blk.new (w.alloc (.cells K 86)) 29 (qcells ⟨10, field, text, terms, offs, n, weight, lo, hi, occur⟩ ks.length A1 A2 A3 A4 c1 c2 c3 c4)
    rwa [World.size_alloc] at this
  have KK1 : Blk W2 w.heap.size 86 K := by
    rw [hW2]
    exact (Blk.new w 86 K).alloc _
  have hsz : w.heap.size + 1 + 1 = W2.heap.size := by rw [hW2]; simp
  have hbW : Below w.heap.size w W2 := by rw [hW2]; (repeat (first | exact Below.refl _ _ | assumption | refine balloc ?_ _ | refine bdrew ?_ | refine bdrewN ?_ _ | refine bchain ?_ (by assumption)))
  have ho2 : Byt W2 base v l := hown.below hbW
  have hneK1 : some w.heap.size ≠ v.ownBlock := own_lt hown _ (Nat.le_refl _)
  have hne : some (w.heap.size + 1) ≠ v.ownBlock := own_lt hown _ (Nat.le_succ _)
  have ho3 := ho2.below (Below.alloc (Below.refl W2.heap.size W2) (Nat.le_refl _) (.cells #[.int .u8 40] 5))
  have hsr := src_blk (Blk.new W2 5 #[.int .u8 40]) [40] rfl
  rw [← hsz] at hsr
  have HW := Lib.hid hW2
  have HSZ := Lib.hid hsz
  have F0 := Lib.hid (f0_of ok)
  have F1 := Lib.hid hF.2
  have N0 := Lib.hid okn
  have N1 := Lib.hid hN.2
  have W0 := Lib.hid hW.1
  have W1 := Lib.hid hW.2
  have HKB := Lib.hid hkb
  have HH1 := Lib.hid hb1
  have S3 := Lib.hid s3
  have H4K := Lib.hid h4
  have H5K := Lib.hid h5
  have IHK := Lib.hid IH
  have HKS := Lib.hid hks
  have HOL := Lib.hid hol
  have HOC := Lib.hid hoc
  have BK := Lib.hid hbk
  have HB := Lib.hid hbl
  have HL := Lib.hid hl
  unfold qcells at hW2 ⊢
  rw [hW2] at ho3 hsr
  clear hkb hb1 s3 h4 h5 IH hks hkl hol hoc
  clear hW2 hsz hF hN hW z1 z2 z3 hbk hbl hl okn ok hk1 hk2 hg hwt hw
  go_enter Tryz.func46, Tryz.ntmps46
  go_upto_region 27 with (first | (at_builtin; refine wpList_addB rfl _ _ rfl rfl ho3 rfl hsr (by decide) (by simp; omega) (by have := HL.out; simp; omega) ?_; intro v3 w3 ha3) | (at_builtin; refine wpList_addB rfl _ _ rfl rfl ha3.1 rfl (src_str [108, 105, 115, 116]) (by decide) (by have := ha3.2.1.size; simp at this; omega) (by have := HL.out; simp; omega) ?_; intro v4 w4 ha4; have hA := (ha3.trans ha4).pre (by rw [HW.out]; exact Below.alloc (Below.refl _ _) (Nat.le_refl _) _ : Below W2.heap.size W2 _); have KQ := K1.grown hA.2.1 hne; have q0 : w4.cell? ⟨w.heap.size + 1, 0, none⟩ = some (.int .i64 10) := KQ.cell 0))
  have h4 : Byt w4 base v4 (l ++ ([40] ++ [108, 105, 115, 116])) := hA.1
  have hne4 : some (w.heap.size + 1) ≠ v4.ownBlock := by
    rcases hA.2.2.1 with e | ⟨g, e, hg⟩
    · rw [e]; exact hne
    · rw [e]; intro h; cases h; have := HSZ.out; omega
  have hb4 : base ≤ w4.heap.size := Nat.le_trans (Nat.le_trans hb hbW.size) hA.2.1.size
  have HP := Lib.hid ((ht.on (hbW.mono hb)).add hA ho2 (Nat.le_trans hb hbW.size))
  obtain ⟨l4, hl4⟩ : ∃ l4, l4 = l ++ ([40] ++ [108, 105, 115, 116]) := ⟨_, rfl⟩
  have H4 := Lib.hid (show Byt w4 base v4 l4 by rw [hl4]; exact h4)
  have H1 := Lib.hid (show 1 ≤ l4.length by rw [hl4]; simp)
  obtain ⟨L, hL⟩ : ∃ L : List (List UInt8), L = [bodyL ⟨10, field, text, terms, offs, n, weight, lo, hi, occur⟩] := ⟨_, rfl⟩
  have M0 := Lib.hid (show L[0]? = some (bodyL ⟨10, field, text, terms, offs, n, weight, lo, hi, occur⟩) by rw [hL]; rfl)
  have HE := Lib.hid (show preL L 1 = bodyL ⟨10, field, text, terms, offs, n, weight, lo, hi, occur⟩ by rw [hL]; simp [preL])
  have HL4 := Lib.hid (show l4.length + L.flatten.length ≤ 17592186044416 by
    have e : L.flatten = bodyL ⟨10, field, text, terms, offs, n, weight, lo, hi, occur⟩ := by rw [hL]; simp
    rw [e, hl4]; have := HB.out; have := HL.out; simp; omega)
  have HEl := Lib.hid hl4
  have HA := Lib.hid hA
  have hlt4 : w.heap.size + 1 < w4.heap.size := by have := hA.2.1.size; have := HSZ.out; omega
  have qcell : ∀ {wx : World} (hx : w4.grownBy wx v4.ownBlock) (j : Nat) (u : Value) (_ : (qcells ⟨10, field, text, terms, offs, n, weight, lo, hi, occur⟩ ks.length A1 A2 A3 A4 c1 c2 c3 c4)[j]? = some u), wx.cell? ⟨w.heap.size + 1, j, none⟩ = some u := fun hx j u hu => ((KQ.grown hx hne4).cell j).trans hu
  have KK := KK1.grown hA.2.1 hneK1
  have hneK : some w.heap.size ≠ v4.ownBlock := by
    rcases hA.2.2.1 with e | ⟨g, e, hg⟩
    · rw [e]; exact hneK1
    · rw [e]; intro h; cases h; have := HSZ.out; omega
  have hbB : Below base w w4 := (hbW.mono hb).trans (NumAll.AddB.below hA ho2 (Nat.le_trans hb hbW.size))
  have HBB := Lib.hid hbB
  have HL4l := Lib.hid (show l4.length ≤ l.length + 7 by rw [hl4]; simp)
  clear hbB KK1 hneK1
  clear ho2 ho3 hsr ha3 ha4 hA h4 hl4 k9 q0 hown hL ht
  have hx0 : w4.grownBy w4 v4.ownBlock := ⟨rfl, rfl, rfl, Nat.le_refl _, fun _ _ _ => rfl⟩
  have q1 := qcell hx0 5 (.int .i64 n) rfl
  go_upto_region 31 with (go_at_call 80; refine (number_int n N0.out N1.out H4.out hb4 (by have := HL4.out; omega) HP.out).mono ?_; rintro e wx ⟨v5, rfl, had⟩)
  have hx := had.2.1
  have hg5 : AddB base w4 v4 l4 (bodyL ⟨10, field, text, terms, offs, n, weight, lo, hi, occur⟩) v5 wx := by
    have e : bodyL ⟨10, field, text, terms, offs, n, weight, lo, hi, occur⟩ = num n := by simp [bodyL]
    rw [e]; exact had
  clear had
  have q14 := qcell hx 14 (.slice A4 ks.length c4) rfl
  have HG5 := Lib.hid hg5
  have hkl := HKS.out
  have hml : maxLen = 9223372036854775807 := rfl
  clear hg5
  go_wp2_with fail
  go_loopw [149, 0] (fun i u wr => ∃ (j : Nat) (v2 : Value), j ≤ ks.length ∧ i = .int .i64 j ∧ u = v2 ∧ AddB base w4 v4 l4 (bodyL ⟨10, field, text, terms, offs, n, weight, lo, hi, occur⟩ ++ kidsL (ks.take j) occur 0) v2 wr) (fun i _ _ => ks.length - (intOf i).toNat)
  case atStart => exact ⟨0, _, Nat.zero_le _, rfl, rfl, by rw [List.take_zero, show kidsL [] occur 0 = [] from rfl, List.append_nil]; exact HG5.out⟩
  case round =>
    obtain ⟨j, v2, hj, rfl, rfl, hadd⟩ := hrel
    have hbr : base ≤ wr.heap.size := Nat.le_trans hb4 hadd.2.1.size
    have hbe := NumAll.AddB.below hadd H4.out hb4
    have q14' := qcell hadd.2.1 14 (.slice A4 ks.length c4) rfl
    have q0' := qcell hadd.2.1 0 (.int .i64 10) rfl
    have HA5 := Lib.hid hadd
    have hkj := HKB.out j hj
    have hB1 := HB.out
    have hH1 := HH1.out
    have hL1 := HL.out
    have hL4 := HL4l.out
    rcases Nat.lt_or_ge j ks.length with hlt | hge
    · obtain ⟨g, o, rfl, hg, hc⟩ := H4K.out (by intro h; subst h; simp at hlt)
      obtain ⟨x, hx1⟩ : ∃ x, ks[j]? = some x := ⟨_, List.getElem?_eq_getElem hlt⟩
      have hbw := HBB.out.trans hbe
      have hq := (H5K.out j x hx1).kept hbw hB
      have hbt := bulks_take hx1
      obtain ⟨B1, B2, B3, B4, d1, d2, d3, d4, e, x0, x1, x2, x3, x4, x5, x6, x7, x8, x9, x10, x11, x12, x13, x14⟩ := kid_cells hq (fun j' u hu => (hbw.cell (p := ⟨g, o + j * 15 + j', none⟩) (Nat.lt_of_lt_of_le hg hB)).trans (hc j hlt j' u hu))
      have IH2 := Lib.hid (IHK.out j x hx1)
      rw [e] at IH2
      unfold qcells at IH2
      have hlt2 : (j : Int) < 9223372036854775807 := by omega
      have i1 : (j : Int) < (ks.length : Int) := by omega
      have HBK2 := Lib.hid (show (l4 ++ (bodyL ⟨10, field, text, terms, offs, n, weight, lo, hi, occur⟩ ++ kidsL (ks.take j) occur 0)).length + 128 * bulk x + 2 ≤ 8796093022208 by rw [List.length_append, List.length_append]; omega)
      have hll : (l4 ++ (bodyL ⟨10, field, text, terms, offs, n, weight, lo, hi, occur⟩ ++ kidsL (ks.take j) occur 0)).length ≤ 17592186044416 := by have := HBK2.out; omega
      have HBW := Lib.hid hbw
      have HKT0 := Lib.hid (kidsL_take (oc := occur) hx1)
      have hlt3 : wr.heap.size < wr.heap.size + 1 := Nat.lt_succ_self _
      have hol := HOL.out
      obtain ⟨z, hz⟩ : ∃ z, occur[j]? = some z := ⟨_, List.getElem?_eq_getElem (by omega)⟩
      obtain ⟨g3, o3, rfl, hg3, hc3⟩ := S3.out (by intro h; rw [show occur = [] by simpa [ints] using h] at hz; simp at hz)
      have OY := Lib.hid (fun W (hW : Below base w W) => (hW.cell (p := ⟨g3, o3 + j, none⟩) (Nat.lt_of_lt_of_le hg3 hB)).trans (hc3 j (.int .i64 z) (by simp [ints, hz])))
      have hzb := List.all_eq_true.1 HOC.out z (List.mem_of_getElem? hz)
      have i2 : (j : Int) < (occur.length : Int) := by omega
      have HZ := Lib.hid hz
      clear hol hz hc3
      clear hc hadd hq hbw hbe hkj hB1 hL1 hL4 hbt hx1 e
      simp only [occB, Bool.or_eq_true, beq_iff_eq] at hzb
      rcases hzb with (rfl | rfl) | rfl
      · have HKT := Lib.hid (show bodyL ⟨10, field, text, terms, offs, n, weight, lo, hi, occur⟩ ++ kidsL (ks.take (j + 1)) occur 0 = (bodyL ⟨10, field, text, terms, offs, n, weight, lo, hi, occur⟩ ++ kidsL (ks.take j) occur 0) ++ ([32] ++ lineL x) by rw [HKT0.out, HZ.out]; simp [occL])
        go_upto_region 39 with (first
          | (at_builtin; refine wpList_addB rfl _ _ rfl rfl (HA5.out.1.below (by (repeat (first | exact Below.refl _ _ | assumption | refine balloc ?_ _ | refine bdrew ?_ | refine bdrewN ?_ _ | refine bchain ?_ (by assumption))))) rfl (src_last _ [32] #[.int .u8 32] (by simp) rfl) (by decide) (by simp; omega) (by simp only [List.length_cons, List.length_nil]; omega) ?_; intro v6 w6 ha6; have ha6' := ha6.pre (show Below wr.heap.size wr _ by (repeat (first | exact Below.refl _ _ | assumption | refine balloc ?_ _ | refine bdrew ?_ | refine bdrewN ?_ _ | refine bchain ?_ (by assumption)))); have hb6 : base ≤ w6.heap.size := Nat.le_trans hbr ha6'.2.1.size; have KD6 : Blk w6 wr.heap.size 29 #[.int .i64 x.h.kind, .int .i64 x.h.field, .string x.h.text, .slice B1 x.h.terms.length d1, .slice B2 x.h.offs.length d2, .int .i64 x.h.n, .int .u64 x.h.weight, .bool x.h.lo.op, .bool x.h.lo.inn, .string x.h.lo.text, .bool x.h.hi.op, .bool x.h.hi.inn, .string x.h.hi.text, .slice B3 x.h.occur.length d3, .slice B4 x.kids.length d4] := ((Blk.new wr 29 #[.int .i64 x.h.kind, .int .i64 x.h.field, .string x.h.text, .slice B1 x.h.terms.length d1, .slice B2 x.h.offs.length d2, .int .i64 x.h.n, .int .u64 x.h.weight, .bool x.h.lo.op, .bool x.h.lo.inn, .string x.h.lo.text, .bool x.h.hi.op, .bool x.h.hi.inn, .string x.h.hi.text, .slice B3 x.h.occur.length d3, .slice B4 x.kids.length d4]).alloc _).grown ha6.2.1 (own_lt HA5.out.1 _ (Nat.le_refl _)); have G6 := HA5.out.trans ha6'; have KK6 := KK.grown G6.2.1 hneK; have LK := load_blk (P := Tryz.prog) (ty := 86) _ KK6 kindsUnd rfl hKs; have LD := load_blk (P := Tryz.prog) (ty := 29) _ KD6 Tryz.underlying29 rfl qInfo; have q06 := qcell G6.2.1 0 (.int .i64 10) rfl; have q136 := qcell G6.2.1 13 (.slice (some ⟨g3, o3, none⟩) occur.length c3) rfl; have y6 := OY.out _ ((HBB.out.trans (NumAll.AddB.below G6 H4.out hb4)))))
        go_step
        go_step
        go_step
        first | go_step | go_values
        with_reducible refine wpList_load ⟨w.heap.size, 0, none⟩ (.agg K) ?_ ?_ ?_
        · rfl
        · exact LK
        simp only [Act.put, Base.s1, Base.s2, Base.s3]
        with_reducible refine wpList_load ⟨wr.heap.size, 0, none⟩ (.agg #[.int .i64 x.h.kind, .int .i64 x.h.field, .string x.h.text, .slice B1 x.h.terms.length d1, .slice B2 x.h.offs.length d2, .int .i64 x.h.n, .int .u64 x.h.weight, .bool x.h.lo.op, .bool x.h.lo.inn, .string x.h.lo.text, .bool x.h.hi.op, .bool x.h.hi.inn, .string x.h.hi.text, .slice B3 x.h.occur.length d3, .slice B4 x.kids.length d4]) ?_ ?_ ?_
        · rfl
        · exact LD
        simp only [Act.put, Base.s1, Base.s2, Base.s3]
        clear LK LD
        go_wp2_with (first
          | (go_at_call 46; refine (IH2.out v6 _ w6 (HBB.out.trans (NumAll.AddB.below G6 H4.out hb4)) ha6.1 hb6 (HP.out.on (NumAll.AddB.below G6 H4.out hb4)) (by have h := HBK2.out; simp only [List.length_append, List.length_cons, List.length_nil] at h ⊢; omega)).mono ?_; rintro e w9 ⟨v9, rfl, ha9⟩))
        go_roundw
        case rel =>
          refine ⟨j + 1, v9, by omega, by go_num, rfl, ?_⟩
          rw [HKT.out]
          exact HA5.out.trans (ha6'.trans ha9)
        case measure => simp [intOf]; omega
      · have HKT := Lib.hid (show bodyL ⟨10, field, text, terms, offs, n, weight, lo, hi, occur⟩ ++ kidsL (ks.take (j + 1)) occur 0 = (bodyL ⟨10, field, text, terms, offs, n, weight, lo, hi, occur⟩ ++ kidsL (ks.take j) occur 0) ++ ([32] ++ ([43] ++ lineL x)) by rw [HKT0.out, HZ.out]; simp [occL])
        go_upto_region 39 with (first
          | (at_builtin; refine wpList_addB rfl _ _ rfl rfl (HA5.out.1.below (by (repeat (first | exact Below.refl _ _ | assumption | refine balloc ?_ _ | refine bdrew ?_ | refine bdrewN ?_ _ | refine bchain ?_ (by assumption))))) rfl (src_last _ [32] #[.int .u8 32] (by simp) rfl) (by decide) (by simp; omega) (by simp only [List.length_cons, List.length_nil]; omega) ?_; intro v6 w6 ha6; have ha6' := ha6.pre (show Below wr.heap.size wr _ by (repeat (first | exact Below.refl _ _ | assumption | refine balloc ?_ _ | refine bdrew ?_ | refine bdrewN ?_ _ | refine bchain ?_ (by assumption)))); have hb6 : base ≤ w6.heap.size := Nat.le_trans hbr ha6'.2.1.size; have KD6 : Blk w6 wr.heap.size 29 #[.int .i64 x.h.kind, .int .i64 x.h.field, .string x.h.text, .slice B1 x.h.terms.length d1, .slice B2 x.h.offs.length d2, .int .i64 x.h.n, .int .u64 x.h.weight, .bool x.h.lo.op, .bool x.h.lo.inn, .string x.h.lo.text, .bool x.h.hi.op, .bool x.h.hi.inn, .string x.h.hi.text, .slice B3 x.h.occur.length d3, .slice B4 x.kids.length d4] := ((Blk.new wr 29 #[.int .i64 x.h.kind, .int .i64 x.h.field, .string x.h.text, .slice B1 x.h.terms.length d1, .slice B2 x.h.offs.length d2, .int .i64 x.h.n, .int .u64 x.h.weight, .bool x.h.lo.op, .bool x.h.lo.inn, .string x.h.lo.text, .bool x.h.hi.op, .bool x.h.hi.inn, .string x.h.hi.text, .slice B3 x.h.occur.length d3, .slice B4 x.kids.length d4]).alloc _).grown ha6.2.1 (own_lt HA5.out.1 _ (Nat.le_refl _)); have G6 := HA5.out.trans ha6'; have q06 := qcell G6.2.1 0 (.int .i64 10) rfl; have q136 := qcell G6.2.1 13 (.slice (some ⟨g3, o3, none⟩) occur.length c3) rfl; have y6 := OY.out _ ((HBB.out.trans (NumAll.AddB.below G6 H4.out hb4))))
          | (at_builtin; refine wpList_addB rfl _ _ rfl rfl (ha6.1.below (by (repeat (first | exact Below.refl _ _ | assumption | refine balloc ?_ _ | refine bdrew ?_ | refine bdrewN ?_ _ | refine bchain ?_ (by assumption))))) rfl (src_last _ [43] #[.int .u8 43] (by simp) rfl) (by decide) (by simp; omega) (by simp only [List.length_append, List.length_cons, List.length_nil] at hll ⊢; omega) ?_; intro v7 w7 ha7; have ha7' := ha7.pre (show Below w6.heap.size w6 _ by (repeat (first | exact Below.refl _ _ | assumption | refine balloc ?_ _ | refine bdrew ?_ | refine bdrewN ?_ _ | refine bchain ?_ (by assumption)))); have hb7 : base ≤ w7.heap.size := Nat.le_trans hb6 ha7'.2.1.size; have KD7 := KD6.grown ha7'.2.1 (own_ne HA5.out.1 (Nat.le_refl _) ha6 (by simp; omega)); have G7 := HA5.out.trans (ha6'.trans ha7'); have KK7 := KK.grown G7.2.1 hneK; have LK := load_blk (P := Tryz.prog) (ty := 86) _ KK7 kindsUnd rfl hKs; have LD := load_blk (P := Tryz.prog) (ty := 29) _ KD7 Tryz.underlying29 rfl qInfo; have q07 := qcell G7.2.1 0 (.int .i64 10) rfl; have q137 := qcell G7.2.1 13 (.slice (some ⟨g3, o3, none⟩) occur.length c3) rfl; have y7 := OY.out _ ((HBB.out.trans (NumAll.AddB.below G7 H4.out hb4)))))
        go_step
        go_step
        go_step
        first | go_step | go_values
        with_reducible refine wpList_load ⟨w.heap.size, 0, none⟩ (.agg K) ?_ ?_ ?_
        · rfl
        · exact LK
        simp only [Act.put, Base.s1, Base.s2, Base.s3]
        with_reducible refine wpList_load ⟨wr.heap.size, 0, none⟩ (.agg #[.int .i64 x.h.kind, .int .i64 x.h.field, .string x.h.text, .slice B1 x.h.terms.length d1, .slice B2 x.h.offs.length d2, .int .i64 x.h.n, .int .u64 x.h.weight, .bool x.h.lo.op, .bool x.h.lo.inn, .string x.h.lo.text, .bool x.h.hi.op, .bool x.h.hi.inn, .string x.h.hi.text, .slice B3 x.h.occur.length d3, .slice B4 x.kids.length d4]) ?_ ?_ ?_
        · rfl
        · exact LD
        simp only [Act.put, Base.s1, Base.s2, Base.s3]
        clear LK LD
        go_wp2_with (first
          | (go_at_call 46; refine (IH2.out v7 _ w7 (HBB.out.trans (NumAll.AddB.below G7 H4.out hb4)) ha7.1 hb7 (HP.out.on (NumAll.AddB.below G7 H4.out hb4)) (by have h := HBK2.out; simp only [List.length_append, List.length_cons, List.length_nil] at h ⊢; omega)).mono ?_; rintro e w9 ⟨v9, rfl, ha9⟩))
        go_roundw
        case rel =>
          refine ⟨j + 1, v9, by omega, by go_num, rfl, ?_⟩
          rw [HKT.out]
          exact HA5.out.trans (ha6'.trans (ha7'.trans ha9))
        case measure => simp [intOf]; omega
      · have HKT := Lib.hid (show bodyL ⟨10, field, text, terms, offs, n, weight, lo, hi, occur⟩ ++ kidsL (ks.take (j + 1)) occur 0 = (bodyL ⟨10, field, text, terms, offs, n, weight, lo, hi, occur⟩ ++ kidsL (ks.take j) occur 0) ++ ([32] ++ ([45] ++ lineL x)) by rw [HKT0.out, HZ.out]; simp [occL])
        go_upto_region 39 with (first
          | (at_builtin; refine wpList_addB rfl _ _ rfl rfl (HA5.out.1.below (by (repeat (first | exact Below.refl _ _ | assumption | refine balloc ?_ _ | refine bdrew ?_ | refine bdrewN ?_ _ | refine bchain ?_ (by assumption))))) rfl (src_last _ [32] #[.int .u8 32] (by simp) rfl) (by decide) (by simp; omega) (by simp only [List.length_cons, List.length_nil]; omega) ?_; intro v6 w6 ha6; have ha6' := ha6.pre (show Below wr.heap.size wr _ by (repeat (first | exact Below.refl _ _ | assumption | refine balloc ?_ _ | refine bdrew ?_ | refine bdrewN ?_ _ | refine bchain ?_ (by assumption)))); have hb6 : base ≤ w6.heap.size := Nat.le_trans hbr ha6'.2.1.size; have KD6 : Blk w6 wr.heap.size 29 #[.int .i64 x.h.kind, .int .i64 x.h.field, .string x.h.text, .slice B1 x.h.terms.length d1, .slice B2 x.h.offs.length d2, .int .i64 x.h.n, .int .u64 x.h.weight, .bool x.h.lo.op, .bool x.h.lo.inn, .string x.h.lo.text, .bool x.h.hi.op, .bool x.h.hi.inn, .string x.h.hi.text, .slice B3 x.h.occur.length d3, .slice B4 x.kids.length d4] := ((Blk.new wr 29 #[.int .i64 x.h.kind, .int .i64 x.h.field, .string x.h.text, .slice B1 x.h.terms.length d1, .slice B2 x.h.offs.length d2, .int .i64 x.h.n, .int .u64 x.h.weight, .bool x.h.lo.op, .bool x.h.lo.inn, .string x.h.lo.text, .bool x.h.hi.op, .bool x.h.hi.inn, .string x.h.hi.text, .slice B3 x.h.occur.length d3, .slice B4 x.kids.length d4]).alloc _).grown ha6.2.1 (own_lt HA5.out.1 _ (Nat.le_refl _)); have G6 := HA5.out.trans ha6'; have q06 := qcell G6.2.1 0 (.int .i64 10) rfl; have q136 := qcell G6.2.1 13 (.slice (some ⟨g3, o3, none⟩) occur.length c3) rfl; have y6 := OY.out _ ((HBB.out.trans (NumAll.AddB.below G6 H4.out hb4))))
          | (at_builtin; refine wpList_addB rfl _ _ rfl rfl (ha6.1.below (by (repeat (first | exact Below.refl _ _ | assumption | refine balloc ?_ _ | refine bdrew ?_ | refine bdrewN ?_ _ | refine bchain ?_ (by assumption))))) rfl (src_last _ [45] #[.int .u8 45] (by simp) rfl) (by decide) (by simp; omega) (by simp only [List.length_append, List.length_cons, List.length_nil] at hll ⊢; omega) ?_; intro v7 w7 ha7; have ha7' := ha7.pre (show Below w6.heap.size w6 _ by (repeat (first | exact Below.refl _ _ | assumption | refine balloc ?_ _ | refine bdrew ?_ | refine bdrewN ?_ _ | refine bchain ?_ (by assumption)))); have hb7 : base ≤ w7.heap.size := Nat.le_trans hb6 ha7'.2.1.size; have KD7 := KD6.grown ha7'.2.1 (own_ne HA5.out.1 (Nat.le_refl _) ha6 (by simp; omega)); have G7 := HA5.out.trans (ha6'.trans ha7'); have KK7 := KK.grown G7.2.1 hneK; have LK := load_blk (P := Tryz.prog) (ty := 86) _ KK7 kindsUnd rfl hKs; have LD := load_blk (P := Tryz.prog) (ty := 29) _ KD7 Tryz.underlying29 rfl qInfo; have q07 := qcell G7.2.1 0 (.int .i64 10) rfl; have q137 := qcell G7.2.1 13 (.slice (some ⟨g3, o3, none⟩) occur.length c3) rfl; have y7 := OY.out _ ((HBB.out.trans (NumAll.AddB.below G7 H4.out hb4)))))
        go_step
        go_step
        go_step
        first | go_step | go_values
        with_reducible refine wpList_load ⟨w.heap.size, 0, none⟩ (.agg K) ?_ ?_ ?_
        · rfl
        · exact LK
        simp only [Act.put, Base.s1, Base.s2, Base.s3]
        with_reducible refine wpList_load ⟨wr.heap.size, 0, none⟩ (.agg #[.int .i64 x.h.kind, .int .i64 x.h.field, .string x.h.text, .slice B1 x.h.terms.length d1, .slice B2 x.h.offs.length d2, .int .i64 x.h.n, .int .u64 x.h.weight, .bool x.h.lo.op, .bool x.h.lo.inn, .string x.h.lo.text, .bool x.h.hi.op, .bool x.h.hi.inn, .string x.h.hi.text, .slice B3 x.h.occur.length d3, .slice B4 x.kids.length d4]) ?_ ?_ ?_
        · rfl
        · exact LD
        simp only [Act.put, Base.s1, Base.s2, Base.s3]
        clear LK LD
        go_wp2_with (first
          | (go_at_call 46; refine (IH2.out v7 _ w7 (HBB.out.trans (NumAll.AddB.below G7 H4.out hb4)) ha7.1 hb7 (HP.out.on (NumAll.AddB.below G7 H4.out hb4)) (by have h := HBK2.out; simp only [List.length_append, List.length_cons, List.length_nil] at h ⊢; omega)).mono ?_; rintro e w9 ⟨v9, rfl, ha9⟩))
        go_roundw
        case rel =>
          refine ⟨j + 1, v9, by omega, by go_num, rfl, ?_⟩
          rw [HKT.out]
          exact HA5.out.trans (ha6'.trans (ha7'.trans ha9))
        case measure => simp [intOf]; omega
    · obtain rfl : j = ks.length := by omega
      have hl9 : (l4 ++ (bodyL ⟨10, field, text, terms, offs, n, weight, lo, hi, occur⟩ ++ kidsL (ks.take ks.length) occur 0)).length ≤ 17592186044416 := by rw [List.length_append, List.length_append]; rw [List.take_length] at hkj ⊢; omega
      have ho9 := hadd.1.below (Below.alloc (Below.refl wr.heap.size wr) (Nat.le_refl _) (.cells #[.int .u8 41] 5))
      have hsr9 := src_blk (Blk.new wr 5 #[.int .u8 41]) [41] rfl
      clear hadd
      go_wp2_with (at_builtin; refine wpList_addB rfl _ _ rfl rfl ho9 rfl hsr9 (by decide) (by simp; omega) (by rw [show [(41 : UInt8)].length = 1 from rfl]; omega) ?_; intro v10 w10 ha10)
      go_ret
      refine ⟨_, rfl, ?_⟩
      have h1 := HA5.out.trans (ha10.pre (Below.alloc (Below.refl wr.heap.size wr) (Nat.le_refl _) _))
      rw [HEl.out, List.take_length] at h1
      have h2 := (HA.out.trans h1).pre hbW
      have e : lineL (.mk ⟨10, field, text, terms, offs, n, weight, lo, hi, occur⟩ ks) = [40] ++ [108, 105, 115, 116] ++ ((bodyL ⟨10, field, text, terms, offs, n, weight, lo, hi, occur⟩ ++ kidsL ks occur 0) ++ [41]) := by simp [lineL, hasOf]
      rw [e]
      exact h2

set_option maxHeartbeats 4000000 in
theorem line_k11 (hd : Head) (ks : List Qry) (hk : hd.kind = 11) (hw : Hwf hd) (hg : locB 16 false hd ks.length = true) (A1 A2 A3 A4 : Option Addr) (c1 c2 c3 c4 : Nat) (v : Value) (l : List UInt8) (base : Nat) (w : World) (hown : Byt w base v l) (hb : base ≤ w.heap.size) (ht : Pow base w) (B : Nat) (hB : B ≤ base) (kc : Nat → List Value) (hks : ks.length ≤ maxLen) (s3 : Slc w B A3 (ints hd.occur))
    (h4 : ks ≠ [] → ∃ g o, A4 = some ⟨g, o, none⟩ ∧ g < B ∧ ∀ i, i < ks.length → ∀ j u, (kc i)[j]? = some u → w.cell? ⟨g, o + i * 15 + j, none⟩ = some u) (h5 : ∀ i k, ks[i]? = some k → QVal w B (kc i) k)
    (IH : ∀ i k, ks[i]? = some k → ∀ (v : Value) (l : List UInt8) (w1 : World), Below base w w1 → Byt w1 base v l → base ≤ w1.heap.size → Pow base w1 → l.length + 128 * bulk k ≤ 8796093022208 → Calls Tryz.prog 46 #[v, .agg kindsA, .agg (kc i).toArray] w1 (Adds base w1 v l (lineL k)))
    (hkl : ∀ k ∈ ks, (lineL k).length + 4 ≤ 128 * bulk k) (hbk : bulk (.mk hd ks) ≤ 1099511627776) (hl : l.length + 128 * bulk (.mk hd ks) ≤ 8796093022208) :
    Calls Tryz.prog 46 #[v, .agg kindsA, .agg (qcells hd ks.length A1 A2 A3 A4 c1 c2 c3 c4)] w (Adds base w v l (lineL (.mk hd ks))) := by
  obtain ⟨hk1, hk2, ok⟩ := ok_of hg
  have hwt := wt_head hw (nk := 0)
  have hbl := body_len (by decide) hg hwt
  have hF := i64_of hw.field
  have hN := i64_of hw.n
  have hW := u64_of hw.weight
  obtain ⟨z1, z2, z3⟩ := bulk_parts hd
  simp only [bulk] at hbk hl
  have hb1 : 1 ≤ hbulk hd := by unfold hbulk; omega
  rw [hk] at ok
  obtain ⟨kind, field, text, terms, offs, n, weight, lo, hi, occur⟩ := hd
  simp only at hk hF hN hW z1 z2 z3
  subst hk
  have okn := ok.n0
  have hoe := ok.o0 rfl
  simp only at okn s3 hoe
  have hkb : ∀ j, j ≤ ks.length → (kidsL (ks.take j) occur 0).length ≤ 128 * bulks (ks.take j) := fun j hj => by
    have := kids_len (ks := ks.take j) occur (fun k hk => hkl k (List.mem_of_mem_take hk)) 0
    omega
  have k9 : kindsA[119]? = some (.string ⟨#[109, 97, 120]⟩) := by kernel_rfl
  have hKs : (Tryz.prog.info? 86).map (·.size) = some kindsA.size := kindsInfo
  generalize kindsA = K at *
  obtain ⟨W2, hW2⟩ : ∃ W, W = (w.alloc (.cells K 86)).alloc (.cells (qcells ⟨11, field, text, terms, offs, n, weight, lo, hi, occur⟩ ks.length A1 A2 A3 A4 c1 c2 c3 c4) 29) := ⟨_, rfl⟩
  have K1 : Blk W2 (w.heap.size + 1) 29 (qcells ⟨11, field, text, terms, offs, n, weight, lo, hi, occur⟩ ks.length A1 A2 A3 A4 c1 c2 c3 c4) := by
    rw [hW2]
    have := Blk.new (w.alloc (.cells K 86)) 29 (qcells ⟨11, field, text, terms, offs, n, weight, lo, hi, occur⟩ ks.length A1 A2 A3 A4 c1 c2 c3 c4)
    rwa [World.size_alloc] at this
  have KK1 : Blk W2 w.heap.size 86 K := by
    rw [hW2]
    exact (Blk.new w 86 K).alloc _
  have hsz : w.heap.size + 1 + 1 = W2.heap.size := by rw [hW2]; simp
  have hbW : Below w.heap.size w W2 := by rw [hW2]; (repeat (first | exact Below.refl _ _ | assumption | refine balloc ?_ _ | refine bdrew ?_ | refine bdrewN ?_ _ | refine bchain ?_ (by assumption)))
  have ho2 : Byt W2 base v l := hown.below hbW
  have hneK1 : some w.heap.size ≠ v.ownBlock := own_lt hown _ (Nat.le_refl _)
  have hne : some (w.heap.size + 1) ≠ v.ownBlock := own_lt hown _ (Nat.le_succ _)
  have ho3 := ho2.below (Below.alloc (Below.refl W2.heap.size W2) (Nat.le_refl _) (.cells #[.int .u8 40] 5))
  have hsr := src_blk (Blk.new W2 5 #[.int .u8 40]) [40] rfl
  rw [← hsz] at hsr
  have HW := Lib.hid hW2
  have HSZ := Lib.hid hsz
  have F0 := Lib.hid (f0_of ok)
  have F1 := Lib.hid hF.2
  have N0 := Lib.hid okn
  have N1 := Lib.hid hN.2
  have W0 := Lib.hid hW.1
  have W1 := Lib.hid hW.2
  have HKB := Lib.hid hkb
  have HH1 := Lib.hid hb1
  have S3 := Lib.hid s3
  have H4K := Lib.hid h4
  have H5K := Lib.hid h5
  have IHK := Lib.hid IH
  have HKS := Lib.hid hks
  have HOE := Lib.hid hoe
  have BK := Lib.hid hbk
  have HB := Lib.hid hbl
  have HL := Lib.hid hl
  unfold qcells at hW2 ⊢
  rw [hW2] at ho3 hsr
  clear hkb hb1 s3 h4 h5 IH hks hkl hoe
  clear hW2 hsz hF hN hW z1 z2 z3 hbk hbl hl okn ok hk1 hk2 hg hwt hw
  go_enter Tryz.func46, Tryz.ntmps46
  go_upto_region 31 with (first | (at_builtin; refine wpList_addB rfl _ _ rfl rfl ho3 rfl hsr (by decide) (by simp; omega) (by have := HL.out; simp; omega) ?_; intro v3 w3 ha3) | (at_builtin; refine wpList_addB rfl _ _ rfl rfl ha3.1 rfl (src_str [109, 97, 120]) (by decide) (by have := ha3.2.1.size; simp at this; omega) (by have := HL.out; simp; omega) ?_; intro v4 w4 ha4; have hA := (ha3.trans ha4).pre (by rw [HW.out]; exact Below.alloc (Below.refl _ _) (Nat.le_refl _) _ : Below W2.heap.size W2 _); have KQ := K1.grown hA.2.1 hne; have q0 : w4.cell? ⟨w.heap.size + 1, 0, none⟩ = some (.int .i64 11) := KQ.cell 0))
  have h4 : Byt w4 base v4 (l ++ ([40] ++ [109, 97, 120])) := hA.1
  have hne4 : some (w.heap.size + 1) ≠ v4.ownBlock := by
    rcases hA.2.2.1 with e | ⟨g, e, hg⟩
    · rw [e]; exact hne
    · rw [e]; intro h; cases h; have := HSZ.out; omega
  have hb4 : base ≤ w4.heap.size := Nat.le_trans (Nat.le_trans hb hbW.size) hA.2.1.size
  have HP := Lib.hid ((ht.on (hbW.mono hb)).add hA ho2 (Nat.le_trans hb hbW.size))
  obtain ⟨l4, hl4⟩ : ∃ l4, l4 = l ++ ([40] ++ [109, 97, 120]) := ⟨_, rfl⟩
  have H4 := Lib.hid (show Byt w4 base v4 l4 by rw [hl4]; exact h4)
  have H1 := Lib.hid (show 1 ≤ l4.length by rw [hl4]; simp)
  obtain ⟨L, hL⟩ : ∃ L : List (List UInt8), L = [bodyL ⟨11, field, text, terms, offs, n, weight, lo, hi, occur⟩] := ⟨_, rfl⟩
  have M0 := Lib.hid (show L[0]? = some (bodyL ⟨11, field, text, terms, offs, n, weight, lo, hi, occur⟩) by rw [hL]; rfl)
  have HE := Lib.hid (show preL L 1 = bodyL ⟨11, field, text, terms, offs, n, weight, lo, hi, occur⟩ by rw [hL]; simp [preL])
  have HL4 := Lib.hid (show l4.length + L.flatten.length ≤ 17592186044416 by
    have e : L.flatten = bodyL ⟨11, field, text, terms, offs, n, weight, lo, hi, occur⟩ := by rw [hL]; simp
    rw [e, hl4]; have := HB.out; have := HL.out; simp; omega)
  have HEl := Lib.hid hl4
  have HA := Lib.hid hA
  have hlt4 : w.heap.size + 1 < w4.heap.size := by have := hA.2.1.size; have := HSZ.out; omega
  have qcell : ∀ {wx : World} (hx : w4.grownBy wx v4.ownBlock) (j : Nat) (u : Value) (_ : (qcells ⟨11, field, text, terms, offs, n, weight, lo, hi, occur⟩ ks.length A1 A2 A3 A4 c1 c2 c3 c4)[j]? = some u), wx.cell? ⟨w.heap.size + 1, j, none⟩ = some u := fun hx j u hu => ((KQ.grown hx hne4).cell j).trans hu
  have KK := KK1.grown hA.2.1 hneK1
  have hneK : some w.heap.size ≠ v4.ownBlock := by
    rcases hA.2.2.1 with e | ⟨g, e, hg⟩
    · rw [e]; exact hneK1
    · rw [e]; intro h; cases h; have := HSZ.out; omega
  have hbB : Below base w w4 := (hbW.mono hb).trans (NumAll.AddB.below hA ho2 (Nat.le_trans hb hbW.size))
  have HBB := Lib.hid hbB
  have HL4l := Lib.hid (show l4.length ≤ l.length + 7 by rw [hl4]; simp)
  clear hbB KK1 hneK1
  clear ho2 ho3 hsr ha3 ha4 hA h4 hl4 k9 q0 hown hL ht
  have hx0 : w4.grownBy w4 v4.ownBlock := ⟨rfl, rfl, rfl, Nat.le_refl _, fun _ _ _ => rfl⟩
  obtain ⟨wx, hwx⟩ : ∃ W, W = w4 := ⟨_, rfl⟩
  have hg5 : AddB base w4 v4 l4 (bodyL ⟨11, field, text, terms, offs, n, weight, lo, hi, occur⟩) v4 w4 := by
    have e : bodyL ⟨11, field, text, terms, offs, n, weight, lo, hi, occur⟩ = [] := by simp [bodyL]
    rw [e]; exact AddB.refl H4.out
  have hx := hx0
  have q14 := qcell hx 14 (.slice A4 ks.length c4) rfl
  have HG5 := Lib.hid hg5
  have hkl := HKS.out
  have hml : maxLen = 9223372036854775807 := rfl
  clear hg5
  go_wp2_with fail
  go_loopw [149, 0] (fun i u wr => ∃ (j : Nat) (v2 : Value), j ≤ ks.length ∧ i = .int .i64 j ∧ u = v2 ∧ AddB base w4 v4 l4 (bodyL ⟨11, field, text, terms, offs, n, weight, lo, hi, occur⟩ ++ kidsL (ks.take j) occur 0) v2 wr) (fun i _ _ => ks.length - (intOf i).toNat)
  case atStart => exact ⟨0, _, Nat.zero_le _, rfl, rfl, by rw [List.take_zero, show kidsL [] occur 0 = [] from rfl, List.append_nil]; exact HG5.out⟩
  case round =>
    obtain ⟨j, v2, hj, rfl, rfl, hadd⟩ := hrel
    have hbr : base ≤ wr.heap.size := Nat.le_trans hb4 hadd.2.1.size
    have hbe := NumAll.AddB.below hadd H4.out hb4
    have q14' := qcell hadd.2.1 14 (.slice A4 ks.length c4) rfl
    have q0' := qcell hadd.2.1 0 (.int .i64 11) rfl
    have HA5 := Lib.hid hadd
    have hkj := HKB.out j hj
    have hB1 := HB.out
    have hH1 := HH1.out
    have hL1 := HL.out
    have hL4 := HL4l.out
    rcases Nat.lt_or_ge j ks.length with hlt | hge
    · obtain ⟨g, o, rfl, hg, hc⟩ := H4K.out (by intro h; subst h; simp at hlt)
      obtain ⟨x, hx1⟩ : ∃ x, ks[j]? = some x := ⟨_, List.getElem?_eq_getElem hlt⟩
      have hbw := HBB.out.trans hbe
      have hq := (H5K.out j x hx1).kept hbw hB
      have hbt := bulks_take hx1
      obtain ⟨B1, B2, B3, B4, d1, d2, d3, d4, e, x0, x1, x2, x3, x4, x5, x6, x7, x8, x9, x10, x11, x12, x13, x14⟩ := kid_cells hq (fun j' u hu => (hbw.cell (p := ⟨g, o + j * 15 + j', none⟩) (Nat.lt_of_lt_of_le hg hB)).trans (hc j hlt j' u hu))
      have IH2 := Lib.hid (IHK.out j x hx1)
      rw [e] at IH2
      unfold qcells at IH2
      have hlt2 : (j : Int) < 9223372036854775807 := by omega
      have i1 : (j : Int) < (ks.length : Int) := by omega
      have HBK2 := Lib.hid (show (l4 ++ (bodyL ⟨11, field, text, terms, offs, n, weight, lo, hi, occur⟩ ++ kidsL (ks.take j) occur 0)).length + 128 * bulk x + 2 ≤ 8796093022208 by rw [List.length_append, List.length_append]; omega)
      have hll : (l4 ++ (bodyL ⟨11, field, text, terms, offs, n, weight, lo, hi, occur⟩ ++ kidsL (ks.take j) occur 0)).length ≤ 17592186044416 := by have := HBK2.out; omega
      have HBW := Lib.hid hbw
      have HKT0 := Lib.hid (kidsL_take (oc := occur) hx1)
      have hlt3 : wr.heap.size < wr.heap.size + 1 := Nat.lt_succ_self _
      have HKT := Lib.hid (show bodyL ⟨11, field, text, terms, offs, n, weight, lo, hi, occur⟩ ++ kidsL (ks.take (j + 1)) occur 0 = (bodyL ⟨11, field, text, terms, offs, n, weight, lo, hi, occur⟩ ++ kidsL (ks.take j) occur 0) ++ ([32] ++ lineL x) by rw [HKT0.out, HOE.out]; simp [occL])
      clear hc hadd hq hbw hbe hkj hB1 hL1 hL4 hbt hx1 e
      go_upto_region 39 with (first
        | (at_builtin; refine wpList_addB rfl _ _ rfl rfl (HA5.out.1.below (by (repeat (first | exact Below.refl _ _ | assumption | refine balloc ?_ _ | refine bdrew ?_ | refine bdrewN ?_ _ | refine bchain ?_ (by assumption))))) rfl (src_last _ [32] #[.int .u8 32] (by simp) rfl) (by decide) (by simp; omega) (by simp only [List.length_cons, List.length_nil]; omega) ?_; intro v6 w6 ha6; have ha6' := ha6.pre (show Below wr.heap.size wr _ by (repeat (first | exact Below.refl _ _ | assumption | refine balloc ?_ _ | refine bdrew ?_ | refine bdrewN ?_ _ | refine bchain ?_ (by assumption)))); have hb6 : base ≤ w6.heap.size := Nat.le_trans hbr ha6'.2.1.size; have KD6 : Blk w6 wr.heap.size 29 #[.int .i64 x.h.kind, .int .i64 x.h.field, .string x.h.text, .slice B1 x.h.terms.length d1, .slice B2 x.h.offs.length d2, .int .i64 x.h.n, .int .u64 x.h.weight, .bool x.h.lo.op, .bool x.h.lo.inn, .string x.h.lo.text, .bool x.h.hi.op, .bool x.h.hi.inn, .string x.h.hi.text, .slice B3 x.h.occur.length d3, .slice B4 x.kids.length d4] := ((Blk.new wr 29 #[.int .i64 x.h.kind, .int .i64 x.h.field, .string x.h.text, .slice B1 x.h.terms.length d1, .slice B2 x.h.offs.length d2, .int .i64 x.h.n, .int .u64 x.h.weight, .bool x.h.lo.op, .bool x.h.lo.inn, .string x.h.lo.text, .bool x.h.hi.op, .bool x.h.hi.inn, .string x.h.hi.text, .slice B3 x.h.occur.length d3, .slice B4 x.kids.length d4]).alloc _).grown ha6.2.1 (own_lt HA5.out.1 _ (Nat.le_refl _)); have G6 := HA5.out.trans ha6'; have KK6 := KK.grown G6.2.1 hneK; have LK := load_blk (P := Tryz.prog) (ty := 86) _ KK6 kindsUnd rfl hKs; have LD := load_blk (P := Tryz.prog) (ty := 29) _ KD6 Tryz.underlying29 rfl qInfo; have q06 := qcell G6.2.1 0 (.int .i64 11) rfl; have q136 := qcell G6.2.1 13 (.slice A3 occur.length c3) rfl))
      go_step
      go_step
      go_step
      first | go_step | go_values
      with_reducible refine wpList_load ⟨w.heap.size, 0, none⟩ (.agg K) ?_ ?_ ?_
      · rfl
      · exact LK
      simp only [Act.put, Base.s1, Base.s2, Base.s3]
      with_reducible refine wpList_load ⟨wr.heap.size, 0, none⟩ (.agg #[.int .i64 x.h.kind, .int .i64 x.h.field, .string x.h.text, .slice B1 x.h.terms.length d1, .slice B2 x.h.offs.length d2, .int .i64 x.h.n, .int .u64 x.h.weight, .bool x.h.lo.op, .bool x.h.lo.inn, .string x.h.lo.text, .bool x.h.hi.op, .bool x.h.hi.inn, .string x.h.hi.text, .slice B3 x.h.occur.length d3, .slice B4 x.kids.length d4]) ?_ ?_ ?_
      · rfl
      · exact LD
      simp only [Act.put, Base.s1, Base.s2, Base.s3]
      clear LK LD
      go_wp2_with (first
        | (go_at_call 46; refine (IH2.out v6 _ w6 (HBB.out.trans (NumAll.AddB.below G6 H4.out hb4)) ha6.1 hb6 (HP.out.on (NumAll.AddB.below G6 H4.out hb4)) (by have h := HBK2.out; simp only [List.length_append, List.length_cons, List.length_nil] at h ⊢; omega)).mono ?_; rintro e w9 ⟨v9, rfl, ha9⟩))
      go_roundw
      case rel =>
        refine ⟨j + 1, v9, by omega, by go_num, rfl, ?_⟩
        rw [HKT.out]
        exact HA5.out.trans (ha6'.trans ha9)
      case measure => simp [intOf]; omega
    · obtain rfl : j = ks.length := by omega
      have hl9 : (l4 ++ (bodyL ⟨11, field, text, terms, offs, n, weight, lo, hi, occur⟩ ++ kidsL (ks.take ks.length) occur 0)).length ≤ 17592186044416 := by rw [List.length_append, List.length_append]; rw [List.take_length] at hkj ⊢; omega
      have ho9 := hadd.1.below (Below.alloc (Below.refl wr.heap.size wr) (Nat.le_refl _) (.cells #[.int .u8 41] 5))
      have hsr9 := src_blk (Blk.new wr 5 #[.int .u8 41]) [41] rfl
      clear hadd
      go_wp2_with (at_builtin; refine wpList_addB rfl _ _ rfl rfl ho9 rfl hsr9 (by decide) (by simp; omega) (by rw [show [(41 : UInt8)].length = 1 from rfl]; omega) ?_; intro v10 w10 ha10)
      go_ret
      refine ⟨_, rfl, ?_⟩
      have h1 := HA5.out.trans (ha10.pre (Below.alloc (Below.refl wr.heap.size wr) (Nat.le_refl _) _))
      rw [HEl.out, List.take_length] at h1
      have h2 := (HA.out.trans h1).pre hbW
      have e : lineL (.mk ⟨11, field, text, terms, offs, n, weight, lo, hi, occur⟩ ks) = [40] ++ [109, 97, 120] ++ ((bodyL ⟨11, field, text, terms, offs, n, weight, lo, hi, occur⟩ ++ kidsL ks occur 0) ++ [41]) := by simp [lineL, hasOf]
      rw [e]
      exact h2

set_option maxHeartbeats 4000000 in
theorem line_k12 (hd : Head) (ks : List Qry) (hk : hd.kind = 12) (hw : Hwf hd) (hg : locB 16 false hd ks.length = true) (A1 A2 A3 A4 : Option Addr) (c1 c2 c3 c4 : Nat) (v : Value) (l : List UInt8) (base : Nat) (w : World) (hown : Byt w base v l) (hb : base ≤ w.heap.size) (ht : Pow base w) (B : Nat) (hB : B ≤ base) (kc : Nat → List Value) (hks : ks.length ≤ maxLen) (s3 : Slc w B A3 (ints hd.occur))
    (h4 : ks ≠ [] → ∃ g o, A4 = some ⟨g, o, none⟩ ∧ g < B ∧ ∀ i, i < ks.length → ∀ j u, (kc i)[j]? = some u → w.cell? ⟨g, o + i * 15 + j, none⟩ = some u) (h5 : ∀ i k, ks[i]? = some k → QVal w B (kc i) k)
    (IH : ∀ i k, ks[i]? = some k → ∀ (v : Value) (l : List UInt8) (w1 : World), Below base w w1 → Byt w1 base v l → base ≤ w1.heap.size → Pow base w1 → l.length + 128 * bulk k ≤ 8796093022208 → Calls Tryz.prog 46 #[v, .agg kindsA, .agg (kc i).toArray] w1 (Adds base w1 v l (lineL k)))
    (hkl : ∀ k ∈ ks, (lineL k).length + 4 ≤ 128 * bulk k) (hbk : bulk (.mk hd ks) ≤ 1099511627776) (hl : l.length + 128 * bulk (.mk hd ks) ≤ 8796093022208) :
    Calls Tryz.prog 46 #[v, .agg kindsA, .agg (qcells hd ks.length A1 A2 A3 A4 c1 c2 c3 c4)] w (Adds base w v l (lineL (.mk hd ks))) := by
  obtain ⟨hk1, hk2, ok⟩ := ok_of hg
  have hwt := wt_head hw (nk := 0)
  have hbl := body_len (by decide) hg hwt
  have hF := i64_of hw.field
  have hN := i64_of hw.n
  have hW := u64_of hw.weight
  obtain ⟨z1, z2, z3⟩ := bulk_parts hd
  simp only [bulk] at hbk hl
  have hb1 : 1 ≤ hbulk hd := by unfold hbulk; omega
  rw [hk] at ok
  obtain ⟨kind, field, text, terms, offs, n, weight, lo, hi, occur⟩ := hd
  simp only at hk hF hN hW z1 z2 z3
  subst hk
  have okn := ok.n0
  have hoe := ok.o0 rfl
  simp only at okn s3 hoe
  have hkb : ∀ j, j ≤ ks.length → (kidsL (ks.take j) occur 0).length ≤ 128 * bulks (ks.take j) := fun j hj => by
    have := kids_len (ks := ks.take j) occur (fun k hk => hkl k (List.mem_of_mem_take hk)) 0
    omega
  have k9 : kindsA[129]? = some (.string ⟨#[110, 111, 116]⟩) := by kernel_rfl
  have hKs : (Tryz.prog.info? 86).map (·.size) = some kindsA.size := kindsInfo
  generalize kindsA = K at *
  obtain ⟨W2, hW2⟩ : ∃ W, W = (w.alloc (.cells K 86)).alloc (.cells (qcells ⟨12, field, text, terms, offs, n, weight, lo, hi, occur⟩ ks.length A1 A2 A3 A4 c1 c2 c3 c4) 29) := ⟨_, rfl⟩
  have K1 : Blk W2 (w.heap.size + 1) 29 (qcells ⟨12, field, text, terms, offs, n, weight, lo, hi, occur⟩ ks.length A1 A2 A3 A4 c1 c2 c3 c4) := by
    rw [hW2]
    have := Blk.new (w.alloc (.cells K 86)) 29 (qcells ⟨12, field, text, terms, offs, n, weight, lo, hi, occur⟩ ks.length A1 A2 A3 A4 c1 c2 c3 c4)
    rwa [World.size_alloc] at this
  have KK1 : Blk W2 w.heap.size 86 K := by
    rw [hW2]
    exact (Blk.new w 86 K).alloc _
  have hsz : w.heap.size + 1 + 1 = W2.heap.size := by rw [hW2]; simp
  have hbW : Below w.heap.size w W2 := by rw [hW2]; (repeat (first | exact Below.refl _ _ | assumption | refine balloc ?_ _ | refine bdrew ?_ | refine bdrewN ?_ _ | refine bchain ?_ (by assumption)))
  have ho2 : Byt W2 base v l := hown.below hbW
  have hneK1 : some w.heap.size ≠ v.ownBlock := own_lt hown _ (Nat.le_refl _)
  have hne : some (w.heap.size + 1) ≠ v.ownBlock := own_lt hown _ (Nat.le_succ _)
  have ho3 := ho2.below (Below.alloc (Below.refl W2.heap.size W2) (Nat.le_refl _) (.cells #[.int .u8 40] 5))
  have hsr := src_blk (Blk.new W2 5 #[.int .u8 40]) [40] rfl
  rw [← hsz] at hsr
  have HW := Lib.hid hW2
  have HSZ := Lib.hid hsz
  have F0 := Lib.hid (f0_of ok)
  have F1 := Lib.hid hF.2
  have N0 := Lib.hid okn
  have N1 := Lib.hid hN.2
  have W0 := Lib.hid hW.1
  have W1 := Lib.hid hW.2
  have HKB := Lib.hid hkb
  have HH1 := Lib.hid hb1
  have S3 := Lib.hid s3
  have H4K := Lib.hid h4
  have H5K := Lib.hid h5
  have IHK := Lib.hid IH
  have HKS := Lib.hid hks
  have HOE := Lib.hid hoe
  have BK := Lib.hid hbk
  have HB := Lib.hid hbl
  have HL := Lib.hid hl
  unfold qcells at hW2 ⊢
  rw [hW2] at ho3 hsr
  clear hkb hb1 s3 h4 h5 IH hks hkl hoe
  clear hW2 hsz hF hN hW z1 z2 z3 hbk hbl hl okn ok hk1 hk2 hg hwt hw
  go_enter Tryz.func46, Tryz.ntmps46
  go_upto_region 31 with (first | (at_builtin; refine wpList_addB rfl _ _ rfl rfl ho3 rfl hsr (by decide) (by simp; omega) (by have := HL.out; simp; omega) ?_; intro v3 w3 ha3) | (at_builtin; refine wpList_addB rfl _ _ rfl rfl ha3.1 rfl (src_str [110, 111, 116]) (by decide) (by have := ha3.2.1.size; simp at this; omega) (by have := HL.out; simp; omega) ?_; intro v4 w4 ha4; have hA := (ha3.trans ha4).pre (by rw [HW.out]; exact Below.alloc (Below.refl _ _) (Nat.le_refl _) _ : Below W2.heap.size W2 _); have KQ := K1.grown hA.2.1 hne; have q0 : w4.cell? ⟨w.heap.size + 1, 0, none⟩ = some (.int .i64 12) := KQ.cell 0))
  have h4 : Byt w4 base v4 (l ++ ([40] ++ [110, 111, 116])) := hA.1
  have hne4 : some (w.heap.size + 1) ≠ v4.ownBlock := by
    rcases hA.2.2.1 with e | ⟨g, e, hg⟩
    · rw [e]; exact hne
    · rw [e]; intro h; cases h; have := HSZ.out; omega
  have hb4 : base ≤ w4.heap.size := Nat.le_trans (Nat.le_trans hb hbW.size) hA.2.1.size
  have HP := Lib.hid ((ht.on (hbW.mono hb)).add hA ho2 (Nat.le_trans hb hbW.size))
  obtain ⟨l4, hl4⟩ : ∃ l4, l4 = l ++ ([40] ++ [110, 111, 116]) := ⟨_, rfl⟩
  have H4 := Lib.hid (show Byt w4 base v4 l4 by rw [hl4]; exact h4)
  have H1 := Lib.hid (show 1 ≤ l4.length by rw [hl4]; simp)
  obtain ⟨L, hL⟩ : ∃ L : List (List UInt8), L = [bodyL ⟨12, field, text, terms, offs, n, weight, lo, hi, occur⟩] := ⟨_, rfl⟩
  have M0 := Lib.hid (show L[0]? = some (bodyL ⟨12, field, text, terms, offs, n, weight, lo, hi, occur⟩) by rw [hL]; rfl)
  have HE := Lib.hid (show preL L 1 = bodyL ⟨12, field, text, terms, offs, n, weight, lo, hi, occur⟩ by rw [hL]; simp [preL])
  have HL4 := Lib.hid (show l4.length + L.flatten.length ≤ 17592186044416 by
    have e : L.flatten = bodyL ⟨12, field, text, terms, offs, n, weight, lo, hi, occur⟩ := by rw [hL]; simp
    rw [e, hl4]; have := HB.out; have := HL.out; simp; omega)
  have HEl := Lib.hid hl4
  have HA := Lib.hid hA
  have hlt4 : w.heap.size + 1 < w4.heap.size := by have := hA.2.1.size; have := HSZ.out; omega
  have qcell : ∀ {wx : World} (hx : w4.grownBy wx v4.ownBlock) (j : Nat) (u : Value) (_ : (qcells ⟨12, field, text, terms, offs, n, weight, lo, hi, occur⟩ ks.length A1 A2 A3 A4 c1 c2 c3 c4)[j]? = some u), wx.cell? ⟨w.heap.size + 1, j, none⟩ = some u := fun hx j u hu => ((KQ.grown hx hne4).cell j).trans hu
  have KK := KK1.grown hA.2.1 hneK1
  have hneK : some w.heap.size ≠ v4.ownBlock := by
    rcases hA.2.2.1 with e | ⟨g, e, hg⟩
    · rw [e]; exact hneK1
    · rw [e]; intro h; cases h; have := HSZ.out; omega
  have hbB : Below base w w4 := (hbW.mono hb).trans (NumAll.AddB.below hA ho2 (Nat.le_trans hb hbW.size))
  have HBB := Lib.hid hbB
  have HL4l := Lib.hid (show l4.length ≤ l.length + 7 by rw [hl4]; simp)
  clear hbB KK1 hneK1
  clear ho2 ho3 hsr ha3 ha4 hA h4 hl4 k9 q0 hown hL ht
  have hx0 : w4.grownBy w4 v4.ownBlock := ⟨rfl, rfl, rfl, Nat.le_refl _, fun _ _ _ => rfl⟩
  obtain ⟨wx, hwx⟩ : ∃ W, W = w4 := ⟨_, rfl⟩
  have hg5 : AddB base w4 v4 l4 (bodyL ⟨12, field, text, terms, offs, n, weight, lo, hi, occur⟩) v4 w4 := by
    have e : bodyL ⟨12, field, text, terms, offs, n, weight, lo, hi, occur⟩ = [] := by simp [bodyL]
    rw [e]; exact AddB.refl H4.out
  have hx := hx0
  have q14 := qcell hx 14 (.slice A4 ks.length c4) rfl
  have HG5 := Lib.hid hg5
  have hkl := HKS.out
  have hml : maxLen = 9223372036854775807 := rfl
  clear hg5
  go_wp2_with fail
  go_loopw [149, 0] (fun i u wr => ∃ (j : Nat) (v2 : Value), j ≤ ks.length ∧ i = .int .i64 j ∧ u = v2 ∧ AddB base w4 v4 l4 (bodyL ⟨12, field, text, terms, offs, n, weight, lo, hi, occur⟩ ++ kidsL (ks.take j) occur 0) v2 wr) (fun i _ _ => ks.length - (intOf i).toNat)
  case atStart => exact ⟨0, _, Nat.zero_le _, rfl, rfl, by rw [List.take_zero, show kidsL [] occur 0 = [] from rfl, List.append_nil]; exact HG5.out⟩
  case round =>
    obtain ⟨j, v2, hj, rfl, rfl, hadd⟩ := hrel
    have hbr : base ≤ wr.heap.size := Nat.le_trans hb4 hadd.2.1.size
    have hbe := NumAll.AddB.below hadd H4.out hb4
    have q14' := qcell hadd.2.1 14 (.slice A4 ks.length c4) rfl
    have q0' := qcell hadd.2.1 0 (.int .i64 12) rfl
    have HA5 := Lib.hid hadd
    have hkj := HKB.out j hj
    have hB1 := HB.out
    have hH1 := HH1.out
    have hL1 := HL.out
    have hL4 := HL4l.out
    rcases Nat.lt_or_ge j ks.length with hlt | hge
    · obtain ⟨g, o, rfl, hg, hc⟩ := H4K.out (by intro h; subst h; simp at hlt)
      obtain ⟨x, hx1⟩ : ∃ x, ks[j]? = some x := ⟨_, List.getElem?_eq_getElem hlt⟩
      have hbw := HBB.out.trans hbe
      have hq := (H5K.out j x hx1).kept hbw hB
      have hbt := bulks_take hx1
      obtain ⟨B1, B2, B3, B4, d1, d2, d3, d4, e, x0, x1, x2, x3, x4, x5, x6, x7, x8, x9, x10, x11, x12, x13, x14⟩ := kid_cells hq (fun j' u hu => (hbw.cell (p := ⟨g, o + j * 15 + j', none⟩) (Nat.lt_of_lt_of_le hg hB)).trans (hc j hlt j' u hu))
      have IH2 := Lib.hid (IHK.out j x hx1)
      rw [e] at IH2
      unfold qcells at IH2
      have hlt2 : (j : Int) < 9223372036854775807 := by omega
      have i1 : (j : Int) < (ks.length : Int) := by omega
      have HBK2 := Lib.hid (show (l4 ++ (bodyL ⟨12, field, text, terms, offs, n, weight, lo, hi, occur⟩ ++ kidsL (ks.take j) occur 0)).length + 128 * bulk x + 2 ≤ 8796093022208 by rw [List.length_append, List.length_append]; omega)
      have hll : (l4 ++ (bodyL ⟨12, field, text, terms, offs, n, weight, lo, hi, occur⟩ ++ kidsL (ks.take j) occur 0)).length ≤ 17592186044416 := by have := HBK2.out; omega
      have HBW := Lib.hid hbw
      have HKT0 := Lib.hid (kidsL_take (oc := occur) hx1)
      have hlt3 : wr.heap.size < wr.heap.size + 1 := Nat.lt_succ_self _
      have HKT := Lib.hid (show bodyL ⟨12, field, text, terms, offs, n, weight, lo, hi, occur⟩ ++ kidsL (ks.take (j + 1)) occur 0 = (bodyL ⟨12, field, text, terms, offs, n, weight, lo, hi, occur⟩ ++ kidsL (ks.take j) occur 0) ++ ([32] ++ lineL x) by rw [HKT0.out, HOE.out]; simp [occL])
      clear hc hadd hq hbw hbe hkj hB1 hL1 hL4 hbt hx1 e
      go_upto_region 39 with (first
        | (at_builtin; refine wpList_addB rfl _ _ rfl rfl (HA5.out.1.below (by (repeat (first | exact Below.refl _ _ | assumption | refine balloc ?_ _ | refine bdrew ?_ | refine bdrewN ?_ _ | refine bchain ?_ (by assumption))))) rfl (src_last _ [32] #[.int .u8 32] (by simp) rfl) (by decide) (by simp; omega) (by simp only [List.length_cons, List.length_nil]; omega) ?_; intro v6 w6 ha6; have ha6' := ha6.pre (show Below wr.heap.size wr _ by (repeat (first | exact Below.refl _ _ | assumption | refine balloc ?_ _ | refine bdrew ?_ | refine bdrewN ?_ _ | refine bchain ?_ (by assumption)))); have hb6 : base ≤ w6.heap.size := Nat.le_trans hbr ha6'.2.1.size; have KD6 : Blk w6 wr.heap.size 29 #[.int .i64 x.h.kind, .int .i64 x.h.field, .string x.h.text, .slice B1 x.h.terms.length d1, .slice B2 x.h.offs.length d2, .int .i64 x.h.n, .int .u64 x.h.weight, .bool x.h.lo.op, .bool x.h.lo.inn, .string x.h.lo.text, .bool x.h.hi.op, .bool x.h.hi.inn, .string x.h.hi.text, .slice B3 x.h.occur.length d3, .slice B4 x.kids.length d4] := ((Blk.new wr 29 #[.int .i64 x.h.kind, .int .i64 x.h.field, .string x.h.text, .slice B1 x.h.terms.length d1, .slice B2 x.h.offs.length d2, .int .i64 x.h.n, .int .u64 x.h.weight, .bool x.h.lo.op, .bool x.h.lo.inn, .string x.h.lo.text, .bool x.h.hi.op, .bool x.h.hi.inn, .string x.h.hi.text, .slice B3 x.h.occur.length d3, .slice B4 x.kids.length d4]).alloc _).grown ha6.2.1 (own_lt HA5.out.1 _ (Nat.le_refl _)); have G6 := HA5.out.trans ha6'; have KK6 := KK.grown G6.2.1 hneK; have LK := load_blk (P := Tryz.prog) (ty := 86) _ KK6 kindsUnd rfl hKs; have LD := load_blk (P := Tryz.prog) (ty := 29) _ KD6 Tryz.underlying29 rfl qInfo; have q06 := qcell G6.2.1 0 (.int .i64 12) rfl; have q136 := qcell G6.2.1 13 (.slice A3 occur.length c3) rfl))
      go_step
      go_step
      go_step
      first | go_step | go_values
      with_reducible refine wpList_load ⟨w.heap.size, 0, none⟩ (.agg K) ?_ ?_ ?_
      · rfl
      · exact LK
      simp only [Act.put, Base.s1, Base.s2, Base.s3]
      with_reducible refine wpList_load ⟨wr.heap.size, 0, none⟩ (.agg #[.int .i64 x.h.kind, .int .i64 x.h.field, .string x.h.text, .slice B1 x.h.terms.length d1, .slice B2 x.h.offs.length d2, .int .i64 x.h.n, .int .u64 x.h.weight, .bool x.h.lo.op, .bool x.h.lo.inn, .string x.h.lo.text, .bool x.h.hi.op, .bool x.h.hi.inn, .string x.h.hi.text, .slice B3 x.h.occur.length d3, .slice B4 x.kids.length d4]) ?_ ?_ ?_
      · rfl
      · exact LD
      simp only [Act.put, Base.s1, Base.s2, Base.s3]
      clear LK LD
      go_wp2_with (first
        | (go_at_call 46; refine (IH2.out v6 _ w6 (HBB.out.trans (NumAll.AddB.below G6 H4.out hb4)) ha6.1 hb6 (HP.out.on (NumAll.AddB.below G6 H4.out hb4)) (by have h := HBK2.out; simp only [List.length_append, List.length_cons, List.length_nil] at h ⊢; omega)).mono ?_; rintro e w9 ⟨v9, rfl, ha9⟩))
      go_roundw
      case rel =>
        refine ⟨j + 1, v9, by omega, by go_num, rfl, ?_⟩
        rw [HKT.out]
        exact HA5.out.trans (ha6'.trans ha9)
      case measure => simp [intOf]; omega
    · obtain rfl : j = ks.length := by omega
      have hl9 : (l4 ++ (bodyL ⟨12, field, text, terms, offs, n, weight, lo, hi, occur⟩ ++ kidsL (ks.take ks.length) occur 0)).length ≤ 17592186044416 := by rw [List.length_append, List.length_append]; rw [List.take_length] at hkj ⊢; omega
      have ho9 := hadd.1.below (Below.alloc (Below.refl wr.heap.size wr) (Nat.le_refl _) (.cells #[.int .u8 41] 5))
      have hsr9 := src_blk (Blk.new wr 5 #[.int .u8 41]) [41] rfl
      clear hadd
      go_wp2_with (at_builtin; refine wpList_addB rfl _ _ rfl rfl ho9 rfl hsr9 (by decide) (by simp; omega) (by rw [show [(41 : UInt8)].length = 1 from rfl]; omega) ?_; intro v10 w10 ha10)
      go_ret
      refine ⟨_, rfl, ?_⟩
      have h1 := HA5.out.trans (ha10.pre (Below.alloc (Below.refl wr.heap.size wr) (Nat.le_refl _) _))
      rw [HEl.out, List.take_length] at h1
      have h2 := (HA.out.trans h1).pre hbW
      have e : lineL (.mk ⟨12, field, text, terms, offs, n, weight, lo, hi, occur⟩ ks) = [40] ++ [110, 111, 116] ++ ((bodyL ⟨12, field, text, terms, offs, n, weight, lo, hi, occur⟩ ++ kidsL ks occur 0) ++ [41]) := by simp [lineL, hasOf]
      rw [e]
      exact h2

set_option maxHeartbeats 4000000 in
theorem line_k13 (hd : Head) (ks : List Qry) (hk : hd.kind = 13) (hw : Hwf hd) (hg : locB 16 false hd ks.length = true) (A1 A2 A3 A4 : Option Addr) (c1 c2 c3 c4 : Nat) (v : Value) (l : List UInt8) (base : Nat) (w : World) (hown : Byt w base v l) (hb : base ≤ w.heap.size) (ht : Pow base w) (B : Nat) (hB : B ≤ base) (kc : Nat → List Value) (hks : ks.length ≤ maxLen) (s3 : Slc w B A3 (ints hd.occur))
    (h4 : ks ≠ [] → ∃ g o, A4 = some ⟨g, o, none⟩ ∧ g < B ∧ ∀ i, i < ks.length → ∀ j u, (kc i)[j]? = some u → w.cell? ⟨g, o + i * 15 + j, none⟩ = some u) (h5 : ∀ i k, ks[i]? = some k → QVal w B (kc i) k)
    (IH : ∀ i k, ks[i]? = some k → ∀ (v : Value) (l : List UInt8) (w1 : World), Below base w w1 → Byt w1 base v l → base ≤ w1.heap.size → Pow base w1 → l.length + 128 * bulk k ≤ 8796093022208 → Calls Tryz.prog 46 #[v, .agg kindsA, .agg (kc i).toArray] w1 (Adds base w1 v l (lineL k)))
    (hkl : ∀ k ∈ ks, (lineL k).length + 4 ≤ 128 * bulk k) (hbk : bulk (.mk hd ks) ≤ 1099511627776) (hl : l.length + 128 * bulk (.mk hd ks) ≤ 8796093022208) :
    Calls Tryz.prog 46 #[v, .agg kindsA, .agg (qcells hd ks.length A1 A2 A3 A4 c1 c2 c3 c4)] w (Adds base w v l (lineL (.mk hd ks))) := by
  obtain ⟨hk1, hk2, ok⟩ := ok_of hg
  have hwt := wt_head hw (nk := 0)
  have hbl := body_len (by decide) hg hwt
  have hF := i64_of hw.field
  have hN := i64_of hw.n
  have hW := u64_of hw.weight
  obtain ⟨z1, z2, z3⟩ := bulk_parts hd
  simp only [bulk] at hbk hl
  have hb1 : 1 ≤ hbulk hd := by unfold hbulk; omega
  rw [hk] at ok
  obtain ⟨kind, field, text, terms, offs, n, weight, lo, hi, occur⟩ := hd
  simp only at hk hF hN hW z1 z2 z3
  subst hk
  have okn := ok.n0
  have hoe := ok.o0 rfl
  simp only at okn s3 hoe
  have hkb : ∀ j, j ≤ ks.length → (kidsL (ks.take j) occur 0).length ≤ 128 * bulks (ks.take j) := fun j hj => by
    have := kids_len (ks := ks.take j) occur (fun k hk => hkl k (List.mem_of_mem_take hk)) 0
    omega
  have k9 : kindsA[139]? = some (.string ⟨#[98, 111, 111, 115, 116]⟩) := by kernel_rfl
  have hKs : (Tryz.prog.info? 86).map (·.size) = some kindsA.size := kindsInfo
  generalize kindsA = K at *
  obtain ⟨W2, hW2⟩ : ∃ W, W = (w.alloc (.cells K 86)).alloc (.cells (qcells ⟨13, field, text, terms, offs, n, weight, lo, hi, occur⟩ ks.length A1 A2 A3 A4 c1 c2 c3 c4) 29) := ⟨_, rfl⟩
  have K1 : Blk W2 (w.heap.size + 1) 29 (qcells ⟨13, field, text, terms, offs, n, weight, lo, hi, occur⟩ ks.length A1 A2 A3 A4 c1 c2 c3 c4) := by
    rw [hW2]
    have := Blk.new (w.alloc (.cells K 86)) 29 (qcells ⟨13, field, text, terms, offs, n, weight, lo, hi, occur⟩ ks.length A1 A2 A3 A4 c1 c2 c3 c4)
    rwa [World.size_alloc] at this
  have KK1 : Blk W2 w.heap.size 86 K := by
    rw [hW2]
    exact (Blk.new w 86 K).alloc _
  have hsz : w.heap.size + 1 + 1 = W2.heap.size := by rw [hW2]; simp
  have hbW : Below w.heap.size w W2 := by rw [hW2]; (repeat (first | exact Below.refl _ _ | assumption | refine balloc ?_ _ | refine bdrew ?_ | refine bdrewN ?_ _ | refine bchain ?_ (by assumption)))
  have ho2 : Byt W2 base v l := hown.below hbW
  have hneK1 : some w.heap.size ≠ v.ownBlock := own_lt hown _ (Nat.le_refl _)
  have hne : some (w.heap.size + 1) ≠ v.ownBlock := own_lt hown _ (Nat.le_succ _)
  have ho3 := ho2.below (Below.alloc (Below.refl W2.heap.size W2) (Nat.le_refl _) (.cells #[.int .u8 40] 5))
  have hsr := src_blk (Blk.new W2 5 #[.int .u8 40]) [40] rfl
  rw [← hsz] at hsr
  have HW := Lib.hid hW2
  have HSZ := Lib.hid hsz
  have F0 := Lib.hid (f0_of ok)
  have F1 := Lib.hid hF.2
  have N0 := Lib.hid okn
  have N1 := Lib.hid hN.2
  have W0 := Lib.hid hW.1
  have W1 := Lib.hid hW.2
  have HKB := Lib.hid hkb
  have HH1 := Lib.hid hb1
  have S3 := Lib.hid s3
  have H4K := Lib.hid h4
  have H5K := Lib.hid h5
  have IHK := Lib.hid IH
  have HKS := Lib.hid hks
  have HOE := Lib.hid hoe
  have BK := Lib.hid hbk
  have HB := Lib.hid hbl
  have HL := Lib.hid hl
  unfold qcells at hW2 ⊢
  rw [hW2] at ho3 hsr
  clear hkb hb1 s3 h4 h5 IH hks hkl hoe
  clear hW2 hsz hF hN hW z1 z2 z3 hbk hbl hl okn ok hk1 hk2 hg hwt hw
  go_enter Tryz.func46, Tryz.ntmps46
  go_upto_region 30 with (first | (at_builtin; refine wpList_addB rfl _ _ rfl rfl ho3 rfl hsr (by decide) (by simp; omega) (by have := HL.out; simp; omega) ?_; intro v3 w3 ha3) | (at_builtin; refine wpList_addB rfl _ _ rfl rfl ha3.1 rfl (src_str [98, 111, 111, 115, 116]) (by decide) (by have := ha3.2.1.size; simp at this; omega) (by have := HL.out; simp; omega) ?_; intro v4 w4 ha4; have hA := (ha3.trans ha4).pre (by rw [HW.out]; exact Below.alloc (Below.refl _ _) (Nat.le_refl _) _ : Below W2.heap.size W2 _); have KQ := K1.grown hA.2.1 hne; have q0 : w4.cell? ⟨w.heap.size + 1, 0, none⟩ = some (.int .i64 13) := KQ.cell 0))
  have h4 : Byt w4 base v4 (l ++ ([40] ++ [98, 111, 111, 115, 116])) := hA.1
  have hne4 : some (w.heap.size + 1) ≠ v4.ownBlock := by
    rcases hA.2.2.1 with e | ⟨g, e, hg⟩
    · rw [e]; exact hne
    · rw [e]; intro h; cases h; have := HSZ.out; omega
  have hb4 : base ≤ w4.heap.size := Nat.le_trans (Nat.le_trans hb hbW.size) hA.2.1.size
  have HP := Lib.hid ((ht.on (hbW.mono hb)).add hA ho2 (Nat.le_trans hb hbW.size))
  obtain ⟨l4, hl4⟩ : ∃ l4, l4 = l ++ ([40] ++ [98, 111, 111, 115, 116]) := ⟨_, rfl⟩
  have H4 := Lib.hid (show Byt w4 base v4 l4 by rw [hl4]; exact h4)
  have H1 := Lib.hid (show 1 ≤ l4.length by rw [hl4]; simp)
  obtain ⟨L, hL⟩ : ∃ L : List (List UInt8), L = [bodyL ⟨13, field, text, terms, offs, n, weight, lo, hi, occur⟩] := ⟨_, rfl⟩
  have M0 := Lib.hid (show L[0]? = some (bodyL ⟨13, field, text, terms, offs, n, weight, lo, hi, occur⟩) by rw [hL]; rfl)
  have HE := Lib.hid (show preL L 1 = bodyL ⟨13, field, text, terms, offs, n, weight, lo, hi, occur⟩ by rw [hL]; simp [preL])
  have HL4 := Lib.hid (show l4.length + L.flatten.length ≤ 17592186044416 by
    have e : L.flatten = bodyL ⟨13, field, text, terms, offs, n, weight, lo, hi, occur⟩ := by rw [hL]; simp
    rw [e, hl4]; have := HB.out; have := HL.out; simp; omega)
  have HEl := Lib.hid hl4
  have HA := Lib.hid hA
  have hlt4 : w.heap.size + 1 < w4.heap.size := by have := hA.2.1.size; have := HSZ.out; omega
  have qcell : ∀ {wx : World} (hx : w4.grownBy wx v4.ownBlock) (j : Nat) (u : Value) (_ : (qcells ⟨13, field, text, terms, offs, n, weight, lo, hi, occur⟩ ks.length A1 A2 A3 A4 c1 c2 c3 c4)[j]? = some u), wx.cell? ⟨w.heap.size + 1, j, none⟩ = some u := fun hx j u hu => ((KQ.grown hx hne4).cell j).trans hu
  have KK := KK1.grown hA.2.1 hneK1
  have hneK : some w.heap.size ≠ v4.ownBlock := by
    rcases hA.2.2.1 with e | ⟨g, e, hg⟩
    · rw [e]; exact hneK1
    · rw [e]; intro h; cases h; have := HSZ.out; omega
  have hbB : Below base w w4 := (hbW.mono hb).trans (NumAll.AddB.below hA ho2 (Nat.le_trans hb hbW.size))
  have HBB := Lib.hid hbB
  have HL4l := Lib.hid (show l4.length ≤ l.length + 7 by rw [hl4]; simp)
  clear hbB KK1 hneK1
  clear ho2 ho3 hsr ha3 ha4 hA h4 hl4 k9 q0 hown hL ht
  have hx0 : w4.grownBy w4 v4.ownBlock := ⟨rfl, rfl, rfl, Nat.le_refl _, fun _ _ _ => rfl⟩
  have q1 := qcell hx0 6 (.int .u64 weight) rfl
  go_upto_region 31 with (go_at_call 81; refine (weight_int weight W0.out W1.out H4.out hb4 (by have := HL4.out; omega) HP.out).mono ?_; rintro e wx ⟨v5, rfl, had⟩)
  have hx := had.2.1
  have hg5 : AddB base w4 v4 l4 (bodyL ⟨13, field, text, terms, offs, n, weight, lo, hi, occur⟩) v5 wx := by
    have e : bodyL ⟨13, field, text, terms, offs, n, weight, lo, hi, occur⟩ = num weight := by simp [bodyL]
    rw [e]; exact had
  clear had
  have q14 := qcell hx 14 (.slice A4 ks.length c4) rfl
  have HG5 := Lib.hid hg5
  have hkl := HKS.out
  have hml : maxLen = 9223372036854775807 := rfl
  clear hg5
  go_wp2_with fail
  go_loopw [149, 0] (fun i u wr => ∃ (j : Nat) (v2 : Value), j ≤ ks.length ∧ i = .int .i64 j ∧ u = v2 ∧ AddB base w4 v4 l4 (bodyL ⟨13, field, text, terms, offs, n, weight, lo, hi, occur⟩ ++ kidsL (ks.take j) occur 0) v2 wr) (fun i _ _ => ks.length - (intOf i).toNat)
  case atStart => exact ⟨0, _, Nat.zero_le _, rfl, rfl, by rw [List.take_zero, show kidsL [] occur 0 = [] from rfl, List.append_nil]; exact HG5.out⟩
  case round =>
    obtain ⟨j, v2, hj, rfl, rfl, hadd⟩ := hrel
    have hbr : base ≤ wr.heap.size := Nat.le_trans hb4 hadd.2.1.size
    have hbe := NumAll.AddB.below hadd H4.out hb4
    have q14' := qcell hadd.2.1 14 (.slice A4 ks.length c4) rfl
    have q0' := qcell hadd.2.1 0 (.int .i64 13) rfl
    have HA5 := Lib.hid hadd
    have hkj := HKB.out j hj
    have hB1 := HB.out
    have hH1 := HH1.out
    have hL1 := HL.out
    have hL4 := HL4l.out
    rcases Nat.lt_or_ge j ks.length with hlt | hge
    · obtain ⟨g, o, rfl, hg, hc⟩ := H4K.out (by intro h; subst h; simp at hlt)
      obtain ⟨x, hx1⟩ : ∃ x, ks[j]? = some x := ⟨_, List.getElem?_eq_getElem hlt⟩
      have hbw := HBB.out.trans hbe
      have hq := (H5K.out j x hx1).kept hbw hB
      have hbt := bulks_take hx1
      obtain ⟨B1, B2, B3, B4, d1, d2, d3, d4, e, x0, x1, x2, x3, x4, x5, x6, x7, x8, x9, x10, x11, x12, x13, x14⟩ := kid_cells hq (fun j' u hu => (hbw.cell (p := ⟨g, o + j * 15 + j', none⟩) (Nat.lt_of_lt_of_le hg hB)).trans (hc j hlt j' u hu))
      have IH2 := Lib.hid (IHK.out j x hx1)
      rw [e] at IH2
      unfold qcells at IH2
      have hlt2 : (j : Int) < 9223372036854775807 := by omega
      have i1 : (j : Int) < (ks.length : Int) := by omega
      have HBK2 := Lib.hid (show (l4 ++ (bodyL ⟨13, field, text, terms, offs, n, weight, lo, hi, occur⟩ ++ kidsL (ks.take j) occur 0)).length + 128 * bulk x + 2 ≤ 8796093022208 by rw [List.length_append, List.length_append]; omega)
      have hll : (l4 ++ (bodyL ⟨13, field, text, terms, offs, n, weight, lo, hi, occur⟩ ++ kidsL (ks.take j) occur 0)).length ≤ 17592186044416 := by have := HBK2.out; omega
      have HBW := Lib.hid hbw
      have HKT0 := Lib.hid (kidsL_take (oc := occur) hx1)
      have hlt3 : wr.heap.size < wr.heap.size + 1 := Nat.lt_succ_self _
      have HKT := Lib.hid (show bodyL ⟨13, field, text, terms, offs, n, weight, lo, hi, occur⟩ ++ kidsL (ks.take (j + 1)) occur 0 = (bodyL ⟨13, field, text, terms, offs, n, weight, lo, hi, occur⟩ ++ kidsL (ks.take j) occur 0) ++ ([32] ++ lineL x) by rw [HKT0.out, HOE.out]; simp [occL])
      clear hc hadd hq hbw hbe hkj hB1 hL1 hL4 hbt hx1 e
      go_upto_region 39 with (first
        | (at_builtin; refine wpList_addB rfl _ _ rfl rfl (HA5.out.1.below (by (repeat (first | exact Below.refl _ _ | assumption | refine balloc ?_ _ | refine bdrew ?_ | refine bdrewN ?_ _ | refine bchain ?_ (by assumption))))) rfl (src_last _ [32] #[.int .u8 32] (by simp) rfl) (by decide) (by simp; omega) (by simp only [List.length_cons, List.length_nil]; omega) ?_; intro v6 w6 ha6; have ha6' := ha6.pre (show Below wr.heap.size wr _ by (repeat (first | exact Below.refl _ _ | assumption | refine balloc ?_ _ | refine bdrew ?_ | refine bdrewN ?_ _ | refine bchain ?_ (by assumption)))); have hb6 : base ≤ w6.heap.size := Nat.le_trans hbr ha6'.2.1.size; have KD6 : Blk w6 wr.heap.size 29 #[.int .i64 x.h.kind, .int .i64 x.h.field, .string x.h.text, .slice B1 x.h.terms.length d1, .slice B2 x.h.offs.length d2, .int .i64 x.h.n, .int .u64 x.h.weight, .bool x.h.lo.op, .bool x.h.lo.inn, .string x.h.lo.text, .bool x.h.hi.op, .bool x.h.hi.inn, .string x.h.hi.text, .slice B3 x.h.occur.length d3, .slice B4 x.kids.length d4] := ((Blk.new wr 29 #[.int .i64 x.h.kind, .int .i64 x.h.field, .string x.h.text, .slice B1 x.h.terms.length d1, .slice B2 x.h.offs.length d2, .int .i64 x.h.n, .int .u64 x.h.weight, .bool x.h.lo.op, .bool x.h.lo.inn, .string x.h.lo.text, .bool x.h.hi.op, .bool x.h.hi.inn, .string x.h.hi.text, .slice B3 x.h.occur.length d3, .slice B4 x.kids.length d4]).alloc _).grown ha6.2.1 (own_lt HA5.out.1 _ (Nat.le_refl _)); have G6 := HA5.out.trans ha6'; have KK6 := KK.grown G6.2.1 hneK; have LK := load_blk (P := Tryz.prog) (ty := 86) _ KK6 kindsUnd rfl hKs; have LD := load_blk (P := Tryz.prog) (ty := 29) _ KD6 Tryz.underlying29 rfl qInfo; have q06 := qcell G6.2.1 0 (.int .i64 13) rfl; have q136 := qcell G6.2.1 13 (.slice A3 occur.length c3) rfl))
      go_step
      go_step
      go_step
      first | go_step | go_values
      with_reducible refine wpList_load ⟨w.heap.size, 0, none⟩ (.agg K) ?_ ?_ ?_
      · rfl
      · exact LK
      simp only [Act.put, Base.s1, Base.s2, Base.s3]
      with_reducible refine wpList_load ⟨wr.heap.size, 0, none⟩ (.agg #[.int .i64 x.h.kind, .int .i64 x.h.field, .string x.h.text, .slice B1 x.h.terms.length d1, .slice B2 x.h.offs.length d2, .int .i64 x.h.n, .int .u64 x.h.weight, .bool x.h.lo.op, .bool x.h.lo.inn, .string x.h.lo.text, .bool x.h.hi.op, .bool x.h.hi.inn, .string x.h.hi.text, .slice B3 x.h.occur.length d3, .slice B4 x.kids.length d4]) ?_ ?_ ?_
      · rfl
      · exact LD
      simp only [Act.put, Base.s1, Base.s2, Base.s3]
      clear LK LD
      go_wp2_with (first
        | (go_at_call 46; refine (IH2.out v6 _ w6 (HBB.out.trans (NumAll.AddB.below G6 H4.out hb4)) ha6.1 hb6 (HP.out.on (NumAll.AddB.below G6 H4.out hb4)) (by have h := HBK2.out; simp only [List.length_append, List.length_cons, List.length_nil] at h ⊢; omega)).mono ?_; rintro e w9 ⟨v9, rfl, ha9⟩))
      go_roundw
      case rel =>
        refine ⟨j + 1, v9, by omega, by go_num, rfl, ?_⟩
        rw [HKT.out]
        exact HA5.out.trans (ha6'.trans ha9)
      case measure => simp [intOf]; omega
    · obtain rfl : j = ks.length := by omega
      have hl9 : (l4 ++ (bodyL ⟨13, field, text, terms, offs, n, weight, lo, hi, occur⟩ ++ kidsL (ks.take ks.length) occur 0)).length ≤ 17592186044416 := by rw [List.length_append, List.length_append]; rw [List.take_length] at hkj ⊢; omega
      have ho9 := hadd.1.below (Below.alloc (Below.refl wr.heap.size wr) (Nat.le_refl _) (.cells #[.int .u8 41] 5))
      have hsr9 := src_blk (Blk.new wr 5 #[.int .u8 41]) [41] rfl
      clear hadd
      go_wp2_with (at_builtin; refine wpList_addB rfl _ _ rfl rfl ho9 rfl hsr9 (by decide) (by simp; omega) (by rw [show [(41 : UInt8)].length = 1 from rfl]; omega) ?_; intro v10 w10 ha10)
      go_ret
      refine ⟨_, rfl, ?_⟩
      have h1 := HA5.out.trans (ha10.pre (Below.alloc (Below.refl wr.heap.size wr) (Nat.le_refl _) _))
      rw [HEl.out, List.take_length] at h1
      have h2 := (HA.out.trans h1).pre hbW
      have e : lineL (.mk ⟨13, field, text, terms, offs, n, weight, lo, hi, occur⟩ ks) = [40] ++ [98, 111, 111, 115, 116] ++ ((bodyL ⟨13, field, text, terms, offs, n, weight, lo, hi, occur⟩ ++ kidsL ks occur 0) ++ [41]) := by simp [lineL, hasOf]
      rw [e]
      exact h2

set_option maxHeartbeats 4000000 in
theorem line_k14 (hd : Head) (ks : List Qry) (hk : hd.kind = 14) (hw : Hwf hd) (hg : locB 16 false hd ks.length = true) (A1 A2 A3 A4 : Option Addr) (c1 c2 c3 c4 : Nat) (v : Value) (l : List UInt8) (base : Nat) (w : World) (hown : Byt w base v l) (hb : base ≤ w.heap.size) (ht : Pow base w) (B : Nat) (hB : B ≤ base) (kc : Nat → List Value) (hks : ks.length ≤ maxLen) (s3 : Slc w B A3 (ints hd.occur))
    (h4 : ks ≠ [] → ∃ g o, A4 = some ⟨g, o, none⟩ ∧ g < B ∧ ∀ i, i < ks.length → ∀ j u, (kc i)[j]? = some u → w.cell? ⟨g, o + i * 15 + j, none⟩ = some u) (h5 : ∀ i k, ks[i]? = some k → QVal w B (kc i) k)
    (IH : ∀ i k, ks[i]? = some k → ∀ (v : Value) (l : List UInt8) (w1 : World), Below base w w1 → Byt w1 base v l → base ≤ w1.heap.size → Pow base w1 → l.length + 128 * bulk k ≤ 8796093022208 → Calls Tryz.prog 46 #[v, .agg kindsA, .agg (kc i).toArray] w1 (Adds base w1 v l (lineL k)))
    (hkl : ∀ k ∈ ks, (lineL k).length + 4 ≤ 128 * bulk k) (hbk : bulk (.mk hd ks) ≤ 1099511627776) (hl : l.length + 128 * bulk (.mk hd ks) ≤ 8796093022208) :
    Calls Tryz.prog 46 #[v, .agg kindsA, .agg (qcells hd ks.length A1 A2 A3 A4 c1 c2 c3 c4)] w (Adds base w v l (lineL (.mk hd ks))) := by
  obtain ⟨hk1, hk2, ok⟩ := ok_of hg
  have hwt := wt_head hw (nk := 0)
  have hbl := body_len (by decide) hg hwt
  have hF := i64_of hw.field
  have hN := i64_of hw.n
  have hW := u64_of hw.weight
  obtain ⟨z1, z2, z3⟩ := bulk_parts hd
  simp only [bulk] at hbk hl
  have hb1 : 1 ≤ hbulk hd := by unfold hbulk; omega
  rw [hk] at ok
  obtain ⟨kind, field, text, terms, offs, n, weight, lo, hi, occur⟩ := hd
  simp only at hk hF hN hW z1 z2 z3
  subst hk
  have okn := ok.n0
  have hoe := ok.o0 rfl
  simp only at okn s3 hoe
  have hkb : ∀ j, j ≤ ks.length → (kidsL (ks.take j) occur 0).length ≤ 128 * bulks (ks.take j) := fun j hj => by
    have := kids_len (ks := ks.take j) occur (fun k hk => hkl k (List.mem_of_mem_take hk)) 0
    omega
  have k9 : kindsA[149]? = some (.string ⟨#[99, 111, 110, 115, 116]⟩) := by kernel_rfl
  have hKs : (Tryz.prog.info? 86).map (·.size) = some kindsA.size := kindsInfo
  generalize kindsA = K at *
  obtain ⟨W2, hW2⟩ : ∃ W, W = (w.alloc (.cells K 86)).alloc (.cells (qcells ⟨14, field, text, terms, offs, n, weight, lo, hi, occur⟩ ks.length A1 A2 A3 A4 c1 c2 c3 c4) 29) := ⟨_, rfl⟩
  have K1 : Blk W2 (w.heap.size + 1) 29 (qcells ⟨14, field, text, terms, offs, n, weight, lo, hi, occur⟩ ks.length A1 A2 A3 A4 c1 c2 c3 c4) := by
    rw [hW2]
    have := Blk.new (w.alloc (.cells K 86)) 29 (qcells ⟨14, field, text, terms, offs, n, weight, lo, hi, occur⟩ ks.length A1 A2 A3 A4 c1 c2 c3 c4)
    rwa [World.size_alloc] at this
  have KK1 : Blk W2 w.heap.size 86 K := by
    rw [hW2]
    exact (Blk.new w 86 K).alloc _
  have hsz : w.heap.size + 1 + 1 = W2.heap.size := by rw [hW2]; simp
  have hbW : Below w.heap.size w W2 := by rw [hW2]; (repeat (first | exact Below.refl _ _ | assumption | refine balloc ?_ _ | refine bdrew ?_ | refine bdrewN ?_ _ | refine bchain ?_ (by assumption)))
  have ho2 : Byt W2 base v l := hown.below hbW
  have hneK1 : some w.heap.size ≠ v.ownBlock := own_lt hown _ (Nat.le_refl _)
  have hne : some (w.heap.size + 1) ≠ v.ownBlock := own_lt hown _ (Nat.le_succ _)
  have ho3 := ho2.below (Below.alloc (Below.refl W2.heap.size W2) (Nat.le_refl _) (.cells #[.int .u8 40] 5))
  have hsr := src_blk (Blk.new W2 5 #[.int .u8 40]) [40] rfl
  rw [← hsz] at hsr
  have HW := Lib.hid hW2
  have HSZ := Lib.hid hsz
  have F0 := Lib.hid (f0_of ok)
  have F1 := Lib.hid hF.2
  have N0 := Lib.hid okn
  have N1 := Lib.hid hN.2
  have W0 := Lib.hid hW.1
  have W1 := Lib.hid hW.2
  have HKB := Lib.hid hkb
  have HH1 := Lib.hid hb1
  have S3 := Lib.hid s3
  have H4K := Lib.hid h4
  have H5K := Lib.hid h5
  have IHK := Lib.hid IH
  have HKS := Lib.hid hks
  have HOE := Lib.hid hoe
  have BK := Lib.hid hbk
  have HB := Lib.hid hbl
  have HL := Lib.hid hl
  unfold qcells at hW2 ⊢
  rw [hW2] at ho3 hsr
  clear hkb hb1 s3 h4 h5 IH hks hkl hoe
  clear hW2 hsz hF hN hW z1 z2 z3 hbk hbl hl okn ok hk1 hk2 hg hwt hw
  go_enter Tryz.func46, Tryz.ntmps46
  go_upto_region 30 with (first | (at_builtin; refine wpList_addB rfl _ _ rfl rfl ho3 rfl hsr (by decide) (by simp; omega) (by have := HL.out; simp; omega) ?_; intro v3 w3 ha3) | (at_builtin; refine wpList_addB rfl _ _ rfl rfl ha3.1 rfl (src_str [99, 111, 110, 115, 116]) (by decide) (by have := ha3.2.1.size; simp at this; omega) (by have := HL.out; simp; omega) ?_; intro v4 w4 ha4; have hA := (ha3.trans ha4).pre (by rw [HW.out]; exact Below.alloc (Below.refl _ _) (Nat.le_refl _) _ : Below W2.heap.size W2 _); have KQ := K1.grown hA.2.1 hne; have q0 : w4.cell? ⟨w.heap.size + 1, 0, none⟩ = some (.int .i64 14) := KQ.cell 0))
  have h4 : Byt w4 base v4 (l ++ ([40] ++ [99, 111, 110, 115, 116])) := hA.1
  have hne4 : some (w.heap.size + 1) ≠ v4.ownBlock := by
    rcases hA.2.2.1 with e | ⟨g, e, hg⟩
    · rw [e]; exact hne
    · rw [e]; intro h; cases h; have := HSZ.out; omega
  have hb4 : base ≤ w4.heap.size := Nat.le_trans (Nat.le_trans hb hbW.size) hA.2.1.size
  have HP := Lib.hid ((ht.on (hbW.mono hb)).add hA ho2 (Nat.le_trans hb hbW.size))
  obtain ⟨l4, hl4⟩ : ∃ l4, l4 = l ++ ([40] ++ [99, 111, 110, 115, 116]) := ⟨_, rfl⟩
  have H4 := Lib.hid (show Byt w4 base v4 l4 by rw [hl4]; exact h4)
  have H1 := Lib.hid (show 1 ≤ l4.length by rw [hl4]; simp)
  obtain ⟨L, hL⟩ : ∃ L : List (List UInt8), L = [bodyL ⟨14, field, text, terms, offs, n, weight, lo, hi, occur⟩] := ⟨_, rfl⟩
  have M0 := Lib.hid (show L[0]? = some (bodyL ⟨14, field, text, terms, offs, n, weight, lo, hi, occur⟩) by rw [hL]; rfl)
  have HE := Lib.hid (show preL L 1 = bodyL ⟨14, field, text, terms, offs, n, weight, lo, hi, occur⟩ by rw [hL]; simp [preL])
  have HL4 := Lib.hid (show l4.length + L.flatten.length ≤ 17592186044416 by
    have e : L.flatten = bodyL ⟨14, field, text, terms, offs, n, weight, lo, hi, occur⟩ := by rw [hL]; simp
    rw [e, hl4]; have := HB.out; have := HL.out; simp; omega)
  have HEl := Lib.hid hl4
  have HA := Lib.hid hA
  have hlt4 : w.heap.size + 1 < w4.heap.size := by have := hA.2.1.size; have := HSZ.out; omega
  have qcell : ∀ {wx : World} (hx : w4.grownBy wx v4.ownBlock) (j : Nat) (u : Value) (_ : (qcells ⟨14, field, text, terms, offs, n, weight, lo, hi, occur⟩ ks.length A1 A2 A3 A4 c1 c2 c3 c4)[j]? = some u), wx.cell? ⟨w.heap.size + 1, j, none⟩ = some u := fun hx j u hu => ((KQ.grown hx hne4).cell j).trans hu
  have KK := KK1.grown hA.2.1 hneK1
  have hneK : some w.heap.size ≠ v4.ownBlock := by
    rcases hA.2.2.1 with e | ⟨g, e, hg⟩
    · rw [e]; exact hneK1
    · rw [e]; intro h; cases h; have := HSZ.out; omega
  have hbB : Below base w w4 := (hbW.mono hb).trans (NumAll.AddB.below hA ho2 (Nat.le_trans hb hbW.size))
  have HBB := Lib.hid hbB
  have HL4l := Lib.hid (show l4.length ≤ l.length + 7 by rw [hl4]; simp)
  clear hbB KK1 hneK1
  clear ho2 ho3 hsr ha3 ha4 hA h4 hl4 k9 q0 hown hL ht
  have hx0 : w4.grownBy w4 v4.ownBlock := ⟨rfl, rfl, rfl, Nat.le_refl _, fun _ _ _ => rfl⟩
  have q1 := qcell hx0 6 (.int .u64 weight) rfl
  go_upto_region 31 with (go_at_call 81; refine (weight_int weight W0.out W1.out H4.out hb4 (by have := HL4.out; omega) HP.out).mono ?_; rintro e wx ⟨v5, rfl, had⟩)
  have hx := had.2.1
  have hg5 : AddB base w4 v4 l4 (bodyL ⟨14, field, text, terms, offs, n, weight, lo, hi, occur⟩) v5 wx := by
    have e : bodyL ⟨14, field, text, terms, offs, n, weight, lo, hi, occur⟩ = num weight := by simp [bodyL]
    rw [e]; exact had
  clear had
  have q14 := qcell hx 14 (.slice A4 ks.length c4) rfl
  have HG5 := Lib.hid hg5
  have hkl := HKS.out
  have hml : maxLen = 9223372036854775807 := rfl
  clear hg5
  go_wp2_with fail
  go_loopw [149, 0] (fun i u wr => ∃ (j : Nat) (v2 : Value), j ≤ ks.length ∧ i = .int .i64 j ∧ u = v2 ∧ AddB base w4 v4 l4 (bodyL ⟨14, field, text, terms, offs, n, weight, lo, hi, occur⟩ ++ kidsL (ks.take j) occur 0) v2 wr) (fun i _ _ => ks.length - (intOf i).toNat)
  case atStart => exact ⟨0, _, Nat.zero_le _, rfl, rfl, by rw [List.take_zero, show kidsL [] occur 0 = [] from rfl, List.append_nil]; exact HG5.out⟩
  case round =>
    obtain ⟨j, v2, hj, rfl, rfl, hadd⟩ := hrel
    have hbr : base ≤ wr.heap.size := Nat.le_trans hb4 hadd.2.1.size
    have hbe := NumAll.AddB.below hadd H4.out hb4
    have q14' := qcell hadd.2.1 14 (.slice A4 ks.length c4) rfl
    have q0' := qcell hadd.2.1 0 (.int .i64 14) rfl
    have HA5 := Lib.hid hadd
    have hkj := HKB.out j hj
    have hB1 := HB.out
    have hH1 := HH1.out
    have hL1 := HL.out
    have hL4 := HL4l.out
    rcases Nat.lt_or_ge j ks.length with hlt | hge
    · obtain ⟨g, o, rfl, hg, hc⟩ := H4K.out (by intro h; subst h; simp at hlt)
      obtain ⟨x, hx1⟩ : ∃ x, ks[j]? = some x := ⟨_, List.getElem?_eq_getElem hlt⟩
      have hbw := HBB.out.trans hbe
      have hq := (H5K.out j x hx1).kept hbw hB
      have hbt := bulks_take hx1
      obtain ⟨B1, B2, B3, B4, d1, d2, d3, d4, e, x0, x1, x2, x3, x4, x5, x6, x7, x8, x9, x10, x11, x12, x13, x14⟩ := kid_cells hq (fun j' u hu => (hbw.cell (p := ⟨g, o + j * 15 + j', none⟩) (Nat.lt_of_lt_of_le hg hB)).trans (hc j hlt j' u hu))
      have IH2 := Lib.hid (IHK.out j x hx1)
      rw [e] at IH2
      unfold qcells at IH2
      have hlt2 : (j : Int) < 9223372036854775807 := by omega
      have i1 : (j : Int) < (ks.length : Int) := by omega
      have HBK2 := Lib.hid (show (l4 ++ (bodyL ⟨14, field, text, terms, offs, n, weight, lo, hi, occur⟩ ++ kidsL (ks.take j) occur 0)).length + 128 * bulk x + 2 ≤ 8796093022208 by rw [List.length_append, List.length_append]; omega)
      have hll : (l4 ++ (bodyL ⟨14, field, text, terms, offs, n, weight, lo, hi, occur⟩ ++ kidsL (ks.take j) occur 0)).length ≤ 17592186044416 := by have := HBK2.out; omega
      have HBW := Lib.hid hbw
      have HKT0 := Lib.hid (kidsL_take (oc := occur) hx1)
      have hlt3 : wr.heap.size < wr.heap.size + 1 := Nat.lt_succ_self _
      have HKT := Lib.hid (show bodyL ⟨14, field, text, terms, offs, n, weight, lo, hi, occur⟩ ++ kidsL (ks.take (j + 1)) occur 0 = (bodyL ⟨14, field, text, terms, offs, n, weight, lo, hi, occur⟩ ++ kidsL (ks.take j) occur 0) ++ ([32] ++ lineL x) by rw [HKT0.out, HOE.out]; simp [occL])
      clear hc hadd hq hbw hbe hkj hB1 hL1 hL4 hbt hx1 e
      go_upto_region 39 with (first
        | (at_builtin; refine wpList_addB rfl _ _ rfl rfl (HA5.out.1.below (by (repeat (first | exact Below.refl _ _ | assumption | refine balloc ?_ _ | refine bdrew ?_ | refine bdrewN ?_ _ | refine bchain ?_ (by assumption))))) rfl (src_last _ [32] #[.int .u8 32] (by simp) rfl) (by decide) (by simp; omega) (by simp only [List.length_cons, List.length_nil]; omega) ?_; intro v6 w6 ha6; have ha6' := ha6.pre (show Below wr.heap.size wr _ by (repeat (first | exact Below.refl _ _ | assumption | refine balloc ?_ _ | refine bdrew ?_ | refine bdrewN ?_ _ | refine bchain ?_ (by assumption)))); have hb6 : base ≤ w6.heap.size := Nat.le_trans hbr ha6'.2.1.size; have KD6 : Blk w6 wr.heap.size 29 #[.int .i64 x.h.kind, .int .i64 x.h.field, .string x.h.text, .slice B1 x.h.terms.length d1, .slice B2 x.h.offs.length d2, .int .i64 x.h.n, .int .u64 x.h.weight, .bool x.h.lo.op, .bool x.h.lo.inn, .string x.h.lo.text, .bool x.h.hi.op, .bool x.h.hi.inn, .string x.h.hi.text, .slice B3 x.h.occur.length d3, .slice B4 x.kids.length d4] := ((Blk.new wr 29 #[.int .i64 x.h.kind, .int .i64 x.h.field, .string x.h.text, .slice B1 x.h.terms.length d1, .slice B2 x.h.offs.length d2, .int .i64 x.h.n, .int .u64 x.h.weight, .bool x.h.lo.op, .bool x.h.lo.inn, .string x.h.lo.text, .bool x.h.hi.op, .bool x.h.hi.inn, .string x.h.hi.text, .slice B3 x.h.occur.length d3, .slice B4 x.kids.length d4]).alloc _).grown ha6.2.1 (own_lt HA5.out.1 _ (Nat.le_refl _)); have G6 := HA5.out.trans ha6'; have KK6 := KK.grown G6.2.1 hneK; have LK := load_blk (P := Tryz.prog) (ty := 86) _ KK6 kindsUnd rfl hKs; have LD := load_blk (P := Tryz.prog) (ty := 29) _ KD6 Tryz.underlying29 rfl qInfo; have q06 := qcell G6.2.1 0 (.int .i64 14) rfl; have q136 := qcell G6.2.1 13 (.slice A3 occur.length c3) rfl))
      go_step
      go_step
      go_step
      first | go_step | go_values
      with_reducible refine wpList_load ⟨w.heap.size, 0, none⟩ (.agg K) ?_ ?_ ?_
      · rfl
      · exact LK
      simp only [Act.put, Base.s1, Base.s2, Base.s3]
      with_reducible refine wpList_load ⟨wr.heap.size, 0, none⟩ (.agg #[.int .i64 x.h.kind, .int .i64 x.h.field, .string x.h.text, .slice B1 x.h.terms.length d1, .slice B2 x.h.offs.length d2, .int .i64 x.h.n, .int .u64 x.h.weight, .bool x.h.lo.op, .bool x.h.lo.inn, .string x.h.lo.text, .bool x.h.hi.op, .bool x.h.hi.inn, .string x.h.hi.text, .slice B3 x.h.occur.length d3, .slice B4 x.kids.length d4]) ?_ ?_ ?_
      · rfl
      · exact LD
      simp only [Act.put, Base.s1, Base.s2, Base.s3]
      clear LK LD
      go_wp2_with (first
        | (go_at_call 46; refine (IH2.out v6 _ w6 (HBB.out.trans (NumAll.AddB.below G6 H4.out hb4)) ha6.1 hb6 (HP.out.on (NumAll.AddB.below G6 H4.out hb4)) (by have h := HBK2.out; simp only [List.length_append, List.length_cons, List.length_nil] at h ⊢; omega)).mono ?_; rintro e w9 ⟨v9, rfl, ha9⟩))
      go_roundw
      case rel =>
        refine ⟨j + 1, v9, by omega, by go_num, rfl, ?_⟩
        rw [HKT.out]
        exact HA5.out.trans (ha6'.trans ha9)
      case measure => simp [intOf]; omega
    · obtain rfl : j = ks.length := by omega
      have hl9 : (l4 ++ (bodyL ⟨14, field, text, terms, offs, n, weight, lo, hi, occur⟩ ++ kidsL (ks.take ks.length) occur 0)).length ≤ 17592186044416 := by rw [List.length_append, List.length_append]; rw [List.take_length] at hkj ⊢; omega
      have ho9 := hadd.1.below (Below.alloc (Below.refl wr.heap.size wr) (Nat.le_refl _) (.cells #[.int .u8 41] 5))
      have hsr9 := src_blk (Blk.new wr 5 #[.int .u8 41]) [41] rfl
      clear hadd
      go_wp2_with (at_builtin; refine wpList_addB rfl _ _ rfl rfl ho9 rfl hsr9 (by decide) (by simp; omega) (by rw [show [(41 : UInt8)].length = 1 from rfl]; omega) ?_; intro v10 w10 ha10)
      go_ret
      refine ⟨_, rfl, ?_⟩
      have h1 := HA5.out.trans (ha10.pre (Below.alloc (Below.refl wr.heap.size wr) (Nat.le_refl _) _))
      rw [HEl.out, List.take_length] at h1
      have h2 := (HA.out.trans h1).pre hbW
      have e : lineL (.mk ⟨14, field, text, terms, offs, n, weight, lo, hi, occur⟩ ks) = [40] ++ [99, 111, 110, 115, 116] ++ ((bodyL ⟨14, field, text, terms, offs, n, weight, lo, hi, occur⟩ ++ kidsL ks occur 0) ++ [41]) := by simp [lineL, hasOf]
      rw [e]
      exact h2

end Go.Proofs.YtkcfgcdlnojaeaaGreatDoor.LineKids

namespace Go.Proofs.YtkcfgcdlnojaeaaGreatDoor.LineAll
set_option maxRecDepth 100000
open Go.RowKit Go.PlainAid Base Query QrySize BindBase Bytes Digits NumAll TextPlain TextLine TextOne LineLeaf LineFew LinePhrase LineKids

theorem line_any (q : Qry) : good 16 false q = true → ∀ (cs : List Value) (B : Nat) (v : Value) (l : List UInt8) (base : Nat) (w : World), QVal w B cs q → B ≤ base → Byt w base v l → base ≤ w.heap.size → Pow base w → bulk q ≤ 1099511627776 → l.length + 128 * bulk q ≤ 8796093022208 →
    Calls Tryz.prog 46 #[v, .agg kindsA, .agg cs.toArray] w (Adds base w v l (lineL q)) := by
  induction q using Qry.ind with
  | h q ih =>
    intro hg cs B v l base w hq hB hown hb ht hbk hl
    have hwt := wt_of hq
    obtain ⟨hd, ks, A1, A2, A3, A4, c1, c2, c3, c4, kc, hw, hk, h1, h2, h3, h4, h5⟩ := hq
    simp only [Qry.kids] at ih
    unfold good at hg
    simp only [goodBy, goodsBy_all, Bool.and_eq_true, List.all_eq_true] at hg hwt
    obtain ⟨hk1, hk2, ok⟩ := ok_of hg.1
    have hb0 := hbk
    have hl0 := hl
    simp only [bulk] at hb0 hl0
    have hh1 : 1 ≤ hbulk hd := by unfold hbulk; omega
    have leaf : (hasOf hd.kind.toNat).k = 0 → ks = [] := fun e => List.eq_nil_of_length_eq_zero (ok.k0 e)
    have IH : ∀ i k, ks[i]? = some k → ∀ (v : Value) (l : List UInt8) (w1 : World), Below base w w1 → Byt w1 base v l → base ≤ w1.heap.size → Pow base w1 → l.length + 128 * bulk k ≤ 8796093022208 → Calls Tryz.prog 46 #[v, .agg kindsA, .agg (kc i).toArray] w1 (Adds base w1 v l (lineL k)) := fun i k hik v l w1 hbel ho hb1 ht1 hl1 =>
      ih k (List.mem_of_getElem? hik) (hg.2 k (List.mem_of_getElem? hik)) _ B v l base w1 ((h5 i k hik).kept hbel hB) hB ho hb1 ht1 (by have := bulks_take hik; omega) hl1
    have hkl : ∀ k ∈ ks, (lineL k).length + 4 ≤ 128 * bulk k := fun k hm => line_len (n := 16) (p := false) (by decide) k (hg.2 k hm) (hwt.2 k hm)
    obtain ⟨k, hkk⟩ : ∃ k, hd.kind = k := ⟨_, rfl⟩
    rw [hkk] at hk1 hk2
    rcases (by omega : k = 1 ∨ k = 2 ∨ k = 3 ∨ k = 4 ∨ k = 5 ∨ k = 6 ∨ k = 7 ∨ k = 8 ∨ k = 9 ∨ k = 10 ∨ k = 11 ∨ k = 12 ∨ k = 13 ∨ k = 14) with rfl | rfl | rfl | rfl | rfl | rfl | rfl | rfl | rfl | rfl | rfl | rfl | rfl | rfl
    · obtain rfl := leaf (by rw [hkk]; rfl)
      exact line_k1 hd hkk hw hg.1 A1 A2 A3 A4 c1 c2 c3 c4 v l base w hown hb ht (by omega)
    · obtain rfl := leaf (by rw [hkk]; rfl)
      exact line_k2 hd hkk hw hg.1 A1 A2 A3 A4 c1 c2 c3 c4 v l base w hown hb ht (by omega)
    · obtain rfl := leaf (by rw [hkk]; rfl)
      exact line_k3 hd hkk hw hg.1 A1 A2 A3 A4 c1 c2 c3 c4 v l base w hown hb ht (by omega) (by omega)
    · obtain rfl := leaf (by rw [hkk]; rfl)
      exact line_k4 hd hkk hw hg.1 A1 A2 A3 A4 c1 c2 c3 c4 v l base w hown hb ht (by omega) (by omega)
    · obtain rfl := leaf (by rw [hkk]; rfl)
      exact line_k5 hd hkk hw hg.1 A1 A2 A3 A4 c1 c2 c3 c4 v l base w hown hb ht B hB h1 h2 (by omega) (by omega)
    · obtain rfl := leaf (by rw [hkk]; rfl)
      exact line_k6 hd hkk hw hg.1 A1 A2 A3 A4 c1 c2 c3 c4 v l base w hown hb ht (by omega) (by omega)
    · obtain rfl := leaf (by rw [hkk]; rfl)
      exact line_k7 hd hkk hw hg.1 A1 A2 A3 A4 c1 c2 c3 c4 v l base w hown hb ht (by omega) (by omega)
    · obtain rfl := leaf (by rw [hkk]; rfl)
      exact line_k8 hd hkk hw hg.1 A1 A2 A3 A4 c1 c2 c3 c4 v l base w hown hb ht (by omega) (by omega)
    · obtain rfl := leaf (by rw [hkk]; rfl)
      exact line_k9 hd hkk hw hg.1 A1 A2 A3 A4 c1 c2 c3 c4 v l base w hown hb ht (by omega) (by omega)
    · exact line_k10 hd ks hkk hw hg.1 A1 A2 A3 A4 c1 c2 c3 c4 v l base w hown hb ht B hB kc hk h3 h4 h5 IH hkl hbk hl
    · exact line_k11 hd ks hkk hw hg.1 A1 A2 A3 A4 c1 c2 c3 c4 v l base w hown hb ht B hB kc hk h3 h4 h5 IH hkl hbk hl
    · exact line_k12 hd ks hkk hw hg.1 A1 A2 A3 A4 c1 c2 c3 c4 v l base w hown hb ht B hB kc hk h3 h4 h5 IH hkl hbk hl
    · exact line_k13 hd ks hkk hw hg.1 A1 A2 A3 A4 c1 c2 c3 c4 v l base w hown hb ht B hB kc hk h3 h4 h5 IH hkl hbk hl
    · exact line_k14 hd ks hkk hw hg.1 A1 A2 A3 A4 c1 c2 c3 c4 v l base w hown hb ht B hB kc hk h3 h4 h5 IH hkl hbk hl
end Go.Proofs.YtkcfgcdlnojaeaaGreatDoor.LineAll
