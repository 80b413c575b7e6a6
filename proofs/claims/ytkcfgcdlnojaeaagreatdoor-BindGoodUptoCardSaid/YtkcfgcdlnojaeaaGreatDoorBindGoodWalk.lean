/-
  The walk of concordlaw16.BindGood.
-/
import Derived.Test.YtkcfgcdlnojaeaaGreatDoorBindTop
import Derived.Test.YtkcfgcdlnojaeaaGreatDoorDChk
import Derived.Test.YtkcfgcdlnojaeaaGreatDoorDNodT
import Derived.Test.YtkcfgcdlnojaeaaGreatDoorLivesBind
set_option linter.unusedVariables false
set_option linter.unusedSimpArgs false
namespace Go.Proofs.YtkcfgcdlnojaeaaGreatDoor.BindGoodWalk
set_option maxRecDepth 100000
open Go.RowKit Go.PlainAid Base Query QrySize NodeTree NodeWalk NodePlain NodeOwn NodeCheck TermCheck TextPlain BindBase NodeTerm WordPlain WordsWalk StopsWalk WordsOne OpenField FieldPlain SchemaCheck WordsAny WordsMany LeafBase TreePlain BindTop GoodBind GoodAll GoodTxt CheckAll Small LivesBind QuietLoad

theorem nInfo : (Tryz.prog.info? 39).map (·.size) = some 12 := by kernel_rfl
theorem ask1_of {w : World} (h : Asks w) : Ask1 w := fun j u hu => h 1 j u (by decide) (by rw [← hu, show ask1 = (askV (askOf 1)).toArray from rfl, List.getElem?_toArray])
set_option maxHeartbeats 3000000 in
theorem walk (fs : List Fld) (A : Option Addr) (c : Nat) (q : Nod) (cs : List Value) (B B0 : Nat) (a1 a2 : Addr) (w : World) (hq : NVal w B cs q) (hB : B ≤ w.heap.size) (hbk : q.bulk ≤ 1048576) (hB0 : B0 ≤ w.heap.size) (h1 : Slc w B0 A (fldCells fs))
    (hnm : ∀ f ∈ fs, f.nm.size ≤ 9223372036854775807) (hlen : fs.length ≤ 1048576) (ht : Tab w) (h0 : 3 < w.heap.size) (ha : Asks w) (h2 : 2 < w.heap.size)
    (he1 : w.cell? ⟨0, 0, none⟩ = some (errV a1)) (h3 : 0 < w.heap.size) (he2 : w.cell? ⟨1, 0, none⟩ = some (errV a2)) (h4 : 1 < w.heap.size) :
    Calls Tryz.prog 4 #[.agg #[.slice A fs.length c], .agg cs.toArray] w fun e w' => e = .returned (.bool true) ∧ Below w.heap.size w w' := by
  have keep : ∀ W, Below w.heap.size w W → NVal W B cs q ∧ B ≤ W.heap.size ∧ B0 ≤ W.heap.size ∧ Slc W B0 A (fldCells fs) ∧ Tab W ∧ 3 < W.heap.size ∧ Asks W ∧ 2 < W.heap.size ∧ W.cell? ⟨0, 0, none⟩ = some (errV a1) ∧ 0 < W.heap.size ∧ W.cell? ⟨1, 0, none⟩ = some (errV a2) ∧ 1 < W.heap.size := fun W hW =>
    ⟨hq.kept hW hB, Nat.le_trans hB hW.size, Nat.le_trans hB0 hW.size, h1.below hW hB0, tab_below ht hW h0, Nat.lt_of_lt_of_le h0 hW.size, ha.below hW h2, Nat.lt_of_lt_of_le h2 hW.size, (hW.cell (p := ⟨0, 0, none⟩) h3).trans he1, Nat.lt_of_lt_of_le h3 hW.size, (hW.cell (p := ⟨1, 0, none⟩) h4).trans he2, Nat.lt_of_lt_of_le h4 hW.size⟩
  have hl63 : fs.length ≤ 9223372036854775807 := by omega
  have LV := Lib.hid (fun W (hW : Below w.heap.size w W) => by obtain ⟨k1, k2, k3, k4, k5, k6, k7, k8, k9, k10, k11, k12⟩ := keep W hW; exact lives_any (errV a1) a2 W k5 (ask1_of k7) k9 k11 k6)
  have SM := Lib.hid (fun W (hW : Below w.heap.size w W) => by obtain ⟨k1, k2, k3, k4, k5, k6, k7, k8, k9, k10, k11, k12⟩ := keep W hW; exact small_any q cs B W k1 k2)
  have BT := Lib.hid (fun W (hW : Below w.heap.size w W) => by obtain ⟨k1, k2, k3, k4, k5, k6, k7, k8, k9, k10, k11, k12⟩ := keep W hW; exact bindTop_any fs A c q cs B B0 a1 a2 W k1 k2 hbk k3 k4 hnm hl63 k5 k6 k7 k8 k9 k10 k11 k12)
  have SC := Lib.hid (fun W (hW : Below w.heap.size w W) => by obtain ⟨k1, k2, k3, k4, k5, k6, k7, k8, k9, k10, k11, k12⟩ := keep W hW; exact schemaCheck_any fs A c B0 (errV a1) W k3 k4 hnm hl63 k9 k10)
  have NC := Lib.hid (fun W (hW : Below w.heap.size w W) => by obtain ⟨k1, k2, k3, k4, k5, k6, k7, k8, k9, k10, k11, k12⟩ := keep W hW; exact nodeCheck_any q cs B a2 W k1 k2 (by omega) k7 k8 k11 k12)
  have NS := Lib.hid (fun W (hW : Below w.heap.size w W) => by obtain ⟨k1, k2, k3, k4, k5, k6, k7, k8, k9, k10, k11, k12⟩ := keep W hW; have := nsize_any q cs B W k1 k2; rw [GoodTxt.wrap_small q.size (Nat.le_trans (size_bulk q) hbk)] at this; exact this)
  have G1 := Lib.hid (fun W (hW : Below w.heap.size w W) => by obtain ⟨k1, k2, k3, k4, k5, k6, k7, k8, k9, k10, k11, k12⟩ := keep W hW; exact (k9 : W.cell? ⟨0, 0, none⟩ = some (errV a1)))
  have G2 := Lib.hid (fun W (hW : Below w.heap.size w W) => by obtain ⟨k1, k2, k3, k4, k5, k6, k7, k8, k9, k10, k11, k12⟩ := keep W hW; exact (k11 : W.cell? ⟨1, 0, none⟩ = some (errV a2)))
  have CT := Lib.hid (fun (x : Qry) (xs : List Value) (N : Int) W (hW : Below w.heap.size w W) (hx : QVal W W.heap.size xs x) (htx : Txt x) => by obtain ⟨k1, k2, k3, k4, k5, k6, k7, k8, k9, k10, k11, k12⟩ := keep W hW; exact check_txt x xs W.heap.size N (errV a2) W hx (Nat.le_refl _) htx k11 k12)
  have HTX := Lib.hid (top_txt fs q hbk)
  have HG0 := Lib.hid (fun (hs : schemaB fs = true) (hg : nodB q = true) (N : Int) (hN : (fs.length : Int) ≤ N) => GoodBind.top_good (N := N) (fs := fs) (by unfold schemaB at hs; rw [Bool.and_eq_true, Bool.and_eq_true] at hs; exact of_decide_eq_true hs.1.1) hN q hg hbk)
  have HTS := Lib.hid (Nat.le_trans (top_size fs q) (size_bulk q))
  have HTS2 := Lib.hid (top_size fs q)
  have HBK := Lib.hid hbk
  have HFS := Lib.hid (fun (hs : schemaB fs = true) => (by unfold schemaB at hs; rw [Bool.and_eq_true, Bool.and_eq_true] at hs; exact of_decide_eq_true hs.1.1 : 1 ≤ fs.length))
  obtain ⟨k, fn, T, m, R, ecs⟩ := nod_cells hq
  rw [ecs] at SM BT NC NS ⊢
  unfold errV at G1 G2 SC
  clear keep hq hB hbk hB0 h1 hnm ht h0 ha h2 he1 h3 he2 h4 hl63 ecs
  obtain ⟨W1, hW1⟩ : ∃ W, W = (w.alloc (.cells #[.slice A fs.length c] 36)).alloc (.cells (nodeV k fn T m R) 39) := ⟨_, rfl⟩
  have KS : Blk W1 w.heap.size 36 #[.slice A fs.length c] := by rw [hW1]; exact (Blk.new w _ _).alloc _
  have KN : Blk W1 (w.heap.size + 1) 39 (nodeV k fn T m R) := by
    rw [hW1]
    have := Blk.new (w.alloc (.cells #[.slice A fs.length c] 36)) 39 (nodeV k fn T m R)
    rwa [World.size_alloc] at this
  have hbW : Below w.heap.size w W1 := by rw [hW1]; (repeat (first | exact Below.refl _ _ | assumption | refine balloc ?_ _ | refine bdrew ?_ | refine bdrewN ?_ _ | refine bchain ?_ (by assumption)))
  have hsz : w.heap.size + 2 = W1.heap.size := by rw [hW1]; simp
  unfold nodeV at KN hW1 SM BT NC NS ⊢
  have HZ := Lib.hid hsz
  have HW := Lib.hid hW1
  clear hW1 hsz
  have hl1 : (0 : Int) ≤ (fs.length : Int) := by omega
  unfold bindR bindE errV at BT
  have EQ1 : ∀ wx : World, (binOp .eql 42 (.iface 274 (.pointer (some a1))) (.iface 274 (.pointer (some a1)))).run Tryz.prog wx = .ok (.bool true) wx := fun wx => by
    obtain ⟨i, hi, hc⟩ := info_comp
    obtain ⟨j, hj⟩ := info_str
    exact run_eql_iface_ptr_same wx a1 Tryz.underlying42 Tryz.underlying274 hi hc hj
  have EQ2 : ∀ wx : World, (binOp .eql 42 (.iface 274 (.pointer (some a2))) (.iface 274 (.pointer (some a2)))).run Tryz.prog wx = .ok (.bool true) wx := fun wx => by
    obtain ⟨i, hi, hc⟩ := info_comp
    obtain ⟨j, hj⟩ := info_str
    exact run_eql_iface_ptr_same wx a2 Tryz.underlying42 Tryz.underlying274 hi hc hj
  go_enter Tryz.func4, Tryz.ntmps4
  cases hs : schemaB fs with
  | false =>
    rw [hs] at SC BT
    simp only [Bool.false_eq_true, false_and, if_false] at BT
    unfold errIf at SC
    simp only [Bool.false_eq_true, if_false] at SC
    go_wp2_with (first | (go_at_call 11; refine (LV.out _ (by (repeat (first | exact Below.refl _ _ | assumption | refine balloc ?_ _ | refine bdrew ?_ | refine bdrewN ?_ _ | refine bchain ?_ (by assumption))))).mono ?_; rintro e w2 ⟨rfl, hb2⟩; have hb12 : Below W1.heap.size W1 w2 := (by rw [HW.out]; exact hb2); obtain ⟨n0, n1, n2, n3, n4, n5, n6, n7, n8, n9, n10, n11⟩ := nrow (KN.below hb12 (by have := HZ.out; omega))) | (go_at_call 15; refine (SM.out _ (bchain hbW hb12)).mono ?_; rintro e w3 ⟨⟨sb, rfl⟩, hb3⟩; have hb13 : Below W1.heap.size W1 w3 := bchain hb12 hb3; have s0 : w3.cell? ⟨w.heap.size, 0, none⟩ = some (.slice A fs.length c) := (KS.below hb13 (by have := HZ.out; omega)).cell 0; obtain ⟨n0, n1, n2, n3, n4, n5, n6, n7, n8, n9, n10, n11⟩ := nrow (KN.below hb13 (by have := HZ.out; omega)); cases sb) | (go_at_call 16; refine (BT.out _ (bchain hbW hb13)).mono ?_; rintro e w4 ⟨qs, rfl, hfr, hb4⟩; have hb14 : Below W1.heap.size W1 w4 := bchain hb13 hb4; obtain ⟨qh, qk, Q1, Q2, Q3, Q4, d1, d2, d3, d4, kc', hw', hkl', h1', h2', h3', h4', h5'⟩ := hfr.val; clear h1' h2' h3' h4' h5' hw' hkl' hfr; have sA : ∀ o, (w4.alloc o).cell? ⟨w.heap.size, 0, none⟩ = some (.slice A fs.length c) := fun o => (KS.below (balloc hb14 o) (by have := HZ.out; omega)).cell 0) | (go_at_call 17; refine (SC.out _ (bchain hbW (balloc hb14 _))).mono ?_; rintro e w5 ⟨rfl, hb5⟩; have hb15 : Below W1.heap.size W1 w5 := bchain (balloc hb14 _) hb5; have g1 := G1.out w5 (bchain hbW hb15)))
    all_goals
      go_ret
      first
      | exact ⟨rfl, bchain hbW hb13⟩
      | exact ⟨by simp, bchain hbW hb15⟩
  | true =>
    rw [hs] at SC BT
    simp only [true_and, if_true] at BT
    unfold errIf at SC
    simp only [if_true] at SC
    cases hg : nodB q with
    | false =>
      rw [hg] at NC BT
      simp only [Bool.false_eq_true, if_false] at BT
      unfold errUnless at NC
      simp only [Bool.false_eq_true, if_false] at NC
      go_wp2_with (first | (go_at_call 11; refine (LV.out _ (by (repeat (first | exact Below.refl _ _ | assumption | refine balloc ?_ _ | refine bdrew ?_ | refine bdrewN ?_ _ | refine bchain ?_ (by assumption))))).mono ?_; rintro e w2 ⟨rfl, hb2⟩; have hb12 : Below W1.heap.size W1 w2 := (by rw [HW.out]; exact hb2); obtain ⟨n0, n1, n2, n3, n4, n5, n6, n7, n8, n9, n10, n11⟩ := nrow (KN.below hb12 (by have := HZ.out; omega))) | (go_at_call 15; refine (SM.out _ (bchain hbW hb12)).mono ?_; rintro e w3 ⟨⟨sb, rfl⟩, hb3⟩; have hb13 : Below W1.heap.size W1 w3 := bchain hb12 hb3; have s0 : w3.cell? ⟨w.heap.size, 0, none⟩ = some (.slice A fs.length c) := (KS.below hb13 (by have := HZ.out; omega)).cell 0; obtain ⟨n0, n1, n2, n3, n4, n5, n6, n7, n8, n9, n10, n11⟩ := nrow (KN.below hb13 (by have := HZ.out; omega)); cases sb) | (go_at_call 16; refine (BT.out _ (bchain hbW hb13)).mono ?_; rintro e w4 ⟨qs, rfl, hfr, hb4⟩; have hb14 : Below W1.heap.size W1 w4 := bchain hb13 hb4; obtain ⟨qh, qk, Q1, Q2, Q3, Q4, d1, d2, d3, d4, kc', hw', hkl', h1', h2', h3', h4', h5'⟩ := hfr.val; clear h1' h2' h3' h4' h5' hw' hkl' hfr; have sA : ∀ o, (w4.alloc o).cell? ⟨w.heap.size, 0, none⟩ = some (.slice A fs.length c) := fun o => (KS.below (balloc hb14 o) (by have := HZ.out; omega)).cell 0) | (go_at_call 17; refine (SC.out _ (bchain hbW (balloc hb14 _))).mono ?_; rintro e w5 ⟨rfl, hb5⟩; have hb45 := hb5; have hb15 : Below W1.heap.size W1 w5 := bchain (balloc hb14 _) hb5; obtain ⟨n0, n1, n2, n3, n4, n5, n6, n7, n8, n9, n10, n11⟩ := nrow (KN.below hb15 (by have := HZ.out; omega))) | (go_at_call 18; refine (NC.out _ (bchain hbW hb15)).mono ?_; rintro e w6 ⟨rfl, hb6⟩; have hb16 : Below W1.heap.size W1 w6 := bchain hb15 hb6; have g2 := G2.out w6 (bchain hbW hb16)))
      all_goals
        go_ret
        first
        | exact ⟨rfl, bchain hbW hb13⟩
        | exact ⟨by simp, bchain hbW hb16⟩
    | true =>
      have HG := Lib.hid (HG0.out hs hg)
      have HF1 := Lib.hid (HFS.out hs)
      rw [hg] at NC BT
      simp only [if_true] at BT
      unfold errUnless at NC
      simp only [if_true] at NC
      clear HG0 HFS
      obtain ⟨tq, htq⟩ : ∃ t, t = topQ fs q := ⟨_, rfl⟩
      rw [← htq] at BT HTX HTS HTS2 HG
      clear htq
      go_upto_region 9 with (first | (go_at_call 11; refine (LV.out _ (by (repeat (first | exact Below.refl _ _ | assumption | refine balloc ?_ _ | refine bdrew ?_ | refine bdrewN ?_ _ | refine bchain ?_ (by assumption))))).mono ?_; rintro e w2 ⟨rfl, hb2⟩; have hb12 : Below W1.heap.size W1 w2 := (by rw [HW.out]; exact hb2); obtain ⟨n0, n1, n2, n3, n4, n5, n6, n7, n8, n9, n10, n11⟩ := nrow (KN.below hb12 (by have := HZ.out; omega))) | (go_at_call 15; refine (SM.out _ (bchain hbW hb12)).mono ?_; rintro e w3 ⟨⟨sb, rfl⟩, hb3⟩; have hb13 : Below W1.heap.size W1 w3 := bchain hb12 hb3; have s0 : w3.cell? ⟨w.heap.size, 0, none⟩ = some (.slice A fs.length c) := (KS.below hb13 (by have := HZ.out; omega)).cell 0; obtain ⟨n0, n1, n2, n3, n4, n5, n6, n7, n8, n9, n10, n11⟩ := nrow (KN.below hb13 (by have := HZ.out; omega)); cases sb) | (go_at_call 16; refine (BT.out _ (bchain hbW hb13)).mono ?_; rintro e w4 ⟨qs, rfl, hfr, hb4⟩; have hb14 : Below W1.heap.size W1 w4 := bchain hb13 hb4; have hv := hfr.val; have hv' := hv; obtain ⟨qh, qk, Q1, Q2, Q3, Q4, d1, d2, d3, d4, kc', hw', hkl', h1', h2', h3', h4', h5'⟩ := hv'; clear h1' h2' h3' h4' h5' hw' hkl' hfr; have HV := Lib.hid hv; clear hv; have sA : ∀ o, (w4.alloc o).cell? ⟨w.heap.size, 0, none⟩ = some (.slice A fs.length c) := fun o => (KS.below (balloc hb14 o) (by have := HZ.out; omega)).cell 0) | (go_at_call 17; refine (SC.out _ (bchain hbW (balloc hb14 _))).mono ?_; rintro e w5 ⟨rfl, hb5⟩; have hb45 := hb5; have hb15 : Below W1.heap.size W1 w5 := bchain (balloc hb14 _) hb5; obtain ⟨n0, n1, n2, n3, n4, n5, n6, n7, n8, n9, n10, n11⟩ := nrow (KN.below hb15 (by have := HZ.out; omega))) | (go_at_call 18; refine (NC.out _ (bchain hbW hb15)).mono ?_; rintro e w6 ⟨rfl, hb6⟩; have hb16 : Below W1.heap.size W1 w6 := bchain hb15 hb6))
      · go_wp2_with fail
        go_ret
        exact ⟨rfl, bchain hbW hb13⟩
      have K5 : Blk w5 w4.heap.size 29 #[.int .i64 qh.kind, .int .i64 qh.field, .string qh.text, .slice Q1 qh.terms.length d1, .slice Q2 qh.offs.length d2, .int .i64 qh.n, .int .u64 qh.weight, .bool qh.lo.op, .bool qh.lo.inn, .string qh.lo.text, .bool qh.hi.op, .bool qh.hi.inn, .string qh.hi.text, .slice Q3 qh.occur.length d3, .slice Q4 qk.length d4] := (Blk.new w4 _ _).below hb45 (by simp)
      have K6 := K5.below hb6 K5.lt
      have KN6 := KN.below hb16 (by have := HZ.out; omega)
      have hb46 : Below w4.heap.size w4 w6 := bchain (bchain (balloc (Below.refl _ _) _) hb45) hb6
      have S6 : w6.cell? ⟨w.heap.size, 0, none⟩ = some (.slice A fs.length c) := (KS.below hb16 (by have := HZ.out; omega)).cell 0
      have hlw6 : w.heap.size + 2 ≤ w6.heap.size := by have := HZ.out; have := hb16.size; omega
      have L1 := loads_blk (P := Tryz.prog) (B := w6.heap.size) (ty := 29) K6 K6.lt Tryz.underlying29 rfl (by rw [qInfo]; rfl)
      have L2 := loads_blk (P := Tryz.prog) (B := w6.heap.size) (ty := 39) KN6 (by omega) Tryz.underlying39 rfl (by rw [nInfo]; rfl)
      have S9 := Bw.cell (B := w6.heap.size) S6 (by show w.heap.size < _; omega)
      have hvb : ∀ b : Bw w6.heap.size w6, QVal b.at_ b.at_.heap.size [.int .i64 qh.kind, .int .i64 qh.field, .string qh.text, .slice Q1 qh.terms.length d1, .slice Q2 qh.offs.length d2, .int .i64 qh.n, .int .u64 qh.weight, .bool qh.lo.op, .bool qh.lo.inn, .string qh.lo.text, .bool qh.hi.op, .bool qh.hi.inn, .string qh.hi.text, .slice Q3 qh.occur.length d3, .slice Q4 qk.length d4] (.mk qh qk) := fun b => (HV.out.kept (bchain hb46 b.below) (Nat.le_refl _)).mono (Nat.le_trans hb46.size b.below.size)
      have CK : ∀ b : Bw w6.heap.size w6, Calls Tryz.prog 19 #[.agg #[.int .i64 qh.kind, .int .i64 qh.field, .string qh.text, .slice Q1 qh.terms.length d1, .slice Q2 qh.offs.length d2, .int .i64 qh.n, .int .u64 qh.weight, .bool qh.lo.op, .bool qh.lo.inn, .string qh.lo.text, .bool qh.hi.op, .bool qh.hi.inn, .string qh.hi.text, .slice Q3 qh.occur.length d3, .slice Q4 qk.length d4], .int .i64 fs.length, .bool false] b.at_ fun e w' => e = .returned .nilIface ∧ ∃ b' : Bw w6.heap.size w6, w' = b'.at_ := fun b => by
        have := CT.out _ _ fs.length b.at_ (bchain (bchain hbW hb16) b.below) (hvb b) HTX.out
        rw [HG.out _ (Int.le_refl _)] at this
        exact calls_bw (Nat.le_refl _) this
      have SZ : ∀ b : Bw w6.heap.size w6, Calls Tryz.prog 20 #[.agg #[.int .i64 qh.kind, .int .i64 qh.field, .string qh.text, .slice Q1 qh.terms.length d1, .slice Q2 qh.offs.length d2, .int .i64 qh.n, .int .u64 qh.weight, .bool qh.lo.op, .bool qh.lo.inn, .string qh.lo.text, .bool qh.hi.op, .bool qh.hi.inn, .string qh.hi.text, .slice Q3 qh.occur.length d3, .slice Q4 qk.length d4]] b.at_ fun e w' => e = .returned (.int .i64 ((Qry.mk qh qk).size : Int)) ∧ ∃ b' : Bw w6.heap.size w6, w' = b'.at_ := fun b => by
        have := size_any (.mk qh qk) _ b.at_.heap.size b.at_ (hvb b) (Nat.le_refl _)
        rw [GoodTxt.wrap_small _ (Nat.le_trans HTS.out HBK.out)] at this
        exact calls_bw (Nat.le_refl _) this
      have NZ : ∀ b : Bw w6.heap.size w6, Calls Tryz.prog 21 #[.agg #[.int .i64 k, .string fn, .string T, .int .i64 m, .bool R.lo.op, .bool R.lo.inn, .string R.lo.text, .bool R.hi.op, .bool R.hi.inn, .string R.hi.text, .slice R.A1 R.n1 R.c1, .slice R.A2 R.n2 R.c2]] b.at_ fun e w' => e = .returned (.int .i64 (q.size : Int)) ∧ ∃ b' : Bw w6.heap.size w6, w' = b'.at_ := fun b => calls_bw (Nat.le_refl _) (NS.out b.at_ (bchain (bchain hbW hb16) b.below))
      have hcmp : decide ((q.size : Int) < ((Qry.mk qh qk).size : Int)) = false := decide_eq_false (by have := HTS2.out; omega)
      have hcmpn : decide (q.size < (Qry.mk qh qk).size) = false := decide_eq_false (by have := HTS2.out; omega)
      have HVB := Lib.hid hvb
      clear hvb hb46 hb45 hb6 S6 K5
      refine wp_region_bw w6.heap.size (by kernel_rfl) (by kernel_rfl) ?_
      repeat (first | (refine BigFrame.wpQuiet_want (by kernel_rfl) ?_; intro KK hK; refine quiet_load _ _ _ (.agg #[.int .i64 qh.kind, .int .i64 qh.field, .string qh.text, .slice Q1 qh.terms.length d1, .slice Q2 qh.offs.length d2, .int .i64 qh.n, .int .u64 qh.weight, .bool qh.lo.op, .bool qh.lo.inn, .string qh.lo.text, .bool qh.hi.op, .bool qh.hi.inn, .string qh.hi.text, .slice Q3 qh.occur.length d3, .slice Q4 qk.length d4]) rfl rfl L1 (hK _ ?_); clear hK KK; simp only [Act.put, Base.s1, Base.s2, Base.s3]) | (refine BigFrame.wpQuiet_want (by kernel_rfl) ?_; intro KK hK; refine quiet_load _ _ _ (.agg #[.int .i64 k, .string fn, .string T, .int .i64 m, .bool R.lo.op, .bool R.lo.inn, .string R.lo.text, .bool R.hi.op, .bool R.hi.inn, .string R.hi.text, .slice R.A1 R.n1 R.c1, .slice R.A2 R.n2 R.c2]) rfl rfl L2 (hK _ ?_); clear hK KK; simp only [Act.put, Base.s1, Base.s2, Base.s3]) | go_big_quiet_step ((first | (go_at_call 19; with_reducible exact CK _) | (go_at_call 20; with_reducible exact SZ _) | (go_at_call 21; with_reducible exact NZ _))))
      refine wpQuiet_nil ?_
      intro wq hw'
      obtain ⟨⟨wz, hbq⟩, hw''⟩ := hw'
      subst hw''
      have hb1z : Below W1.heap.size W1 wq := bchain hb16 hbq
      have KZ := K6.below hbq K6.lt
      obtain ⟨z0, z1, z2, z3, z4, z5, z6, z7, z8, z9, z10, z11, z12, z13, z14⟩ := qrow KZ
      have hvz := HVB.out ⟨wq, hbq⟩
      have hf1 := HF1.out
      have l0 : decide ((0 : Int) < (fs.length : Int)) = true := decide_eq_true (by omega)
      have l0n : decide (0 < fs.length) = true := decide_eq_true (by omega)
      have C0 := CT.out _ _ 0 wq (bchain hbW hb1z) hvz HTX.out
      have C2 := Lib.hid (fun W (hW : Below wq.heap.size wq W) => (by
        have := CT.out _ _ ((fs.length : Int) + 1) W (bchain (bchain hbW hb1z) hW) ((hvz.kept hW (Nat.le_refl _)).mono hW.size) HTX.out
        rw [HG.out _ (by omega)] at this
        exact this : Calls Tryz.prog 19 #[.agg #[.int .i64 qh.kind, .int .i64 qh.field, .string qh.text, .slice Q1 qh.terms.length d1, .slice Q2 qh.offs.length d2, .int .i64 qh.n, .int .u64 qh.weight, .bool qh.lo.op, .bool qh.lo.inn, .string qh.lo.text, .bool qh.hi.op, .bool qh.hi.inn, .string qh.hi.text, .slice Q3 qh.occur.length d3, .slice Q4 qk.length d4], .int .i64 ((fs.length : Int) + 1), .bool false] W fun e w' => e = .returned .nilIface ∧ Below W.heap.size W w'))
      have HVZ := Lib.hid hvz
      clear hvz L1 L2 CK SZ NZ S9
      cases hg0 : good 0 false (.mk qh qk) with
      | true =>
        rw [hg0] at C0
        have C0 := Lib.hid C0
        go_wp2_with (go_at_call 19; (with_reducible refine C0.out.mono ?_); rintro e w8 ⟨rfl, hb8⟩; rw [show errUnless true (errV a2) = .nilIface from rfl])
        go_ret
        exact ⟨rfl, bchain (bchain hbW hb1z) hb8⟩
      | false =>
        rw [hg0] at C0
        have C0 := Lib.hid C0
        go_wp2_with (first | (go_at_call 19; (with_reducible refine C0.out.mono ?_); rintro e w8 ⟨rfl, hb8⟩; rw [show errUnless false (errV a2) = .iface 274 (.pointer (some a2)) from rfl]; have K8 := KZ.below hb8 KZ.lt; obtain ⟨y0, y1, y2, y3, y4, y5, y6, y7, y8, y9, y10, y11, y12, y13, y14⟩ := qrow K8; have s8 : w8.cell? ⟨w.heap.size, 0, none⟩ = some (.slice A fs.length c) := (KS.below (bchain hb1z hb8) (by have := HZ.out; omega)).cell 0) | (go_at_call 19; (with_reducible refine (C2.out _ hb8).mono ?_); rintro e w9 ⟨rfl, hb9⟩))
        go_ret
        exact ⟨rfl, bchain (bchain (bchain hbW hb1z) hb8) hb9⟩
end Go.Proofs.YtkcfgcdlnojaeaaGreatDoor.BindGoodWalk
