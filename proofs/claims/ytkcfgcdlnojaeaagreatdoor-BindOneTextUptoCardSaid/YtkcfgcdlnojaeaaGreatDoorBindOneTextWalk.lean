/-
  The walk of concordlaw16.BindOneText.
-/
import Derived.Test.YtkcfgcdlnojaeaaGreatDoorLivesBind
import Derived.Test.YtkcfgcdlnojaeaaGreatDoorQrySame
import Derived.Test.YtkcfgcdlnojaeaaGreatDoorLawFew
import Derived.Test.YtkcfgcdlnojaeaaGreatDoorQuietLoad
import Derived.Test.YtkcfgcdlnojaeaaGreatDoorWordsOne
import Derived.Test.YtkcfgcdlnojaeaaGreatDoorTextAll
import Derived.Test.YtkcfgcdlnojaeaaGreatDoorTextInj
set_option linter.unusedVariables false
set_option linter.unusedSimpArgs false
namespace Go.Proofs.YtkcfgcdlnojaeaaGreatDoor.BindOneTextWalk
set_option maxRecDepth 100000
open Go.RowKit Go.PlainAid Base Query BindBase NodeTerm StopsWalk OfText OfAny LivesBind QuietLoad WordsOne QrySize QryLeft LawFew QrySame NumAll TextPlain TextLine TextInj TextOne LineBase TextAll

theorem told_same {P : Prop} {r : Bool} (h : r = true ↔ P) {w w' : World} {e : Ending} (ht : QrySame.Told P w e w') : e = .returned (.bool r) ∧ Below w.heap.size w w' := by
  obtain ⟨⟨x, rfl, hx⟩, hb⟩ := ht
  refine ⟨?_, hb⟩
  rw [Bool.eq_iff_iff.2 (hx.trans h.symm)]

theorem textL_pr (q : Qry) : (textL q).all prB = true := by
  unfold textL
  split
  · exact line_pr q
  · rfl
theorem textL_nil (q : Qry) : (ByteArray.mk (textL q).toArray).toList.isEmpty = !good 16 false q := by
  rw [ByteArray.toList_eq]
  simp only [textL]
  by_cases h : good 16 false q = true
  · rw [if_pos h, h]
    obtain ⟨c, t, e, _⟩ := line_head q (n := 16) (p := false) h
    rw [e]
    rfl
  · rw [if_neg h]
    have h' : good 16 false q = false := by simpa using h
    rw [h']
    rfl
theorem textL_inj {q p : Qry} (hq : good 16 false q = true) (hp : good 16 false p = true) (wq : goodBy wtB q = true) (wp : goodBy wtB p = true) (h : textL q = textL p) : q = p := by
  unfold textL at h
  rw [if_pos hq, if_pos hp] at h
  exact (line_inj q p hq hp wq wp [] [] (by rw [h])).1
theorem bytes_pr {l : List UInt8} (h : l.all prB = true) {k : Nat} (hk : k < (ByteArray.mk l.toArray).size) : 32 ≤ bt (ByteArray.mk l.toArray) k ∧ bt (ByteArray.mk l.toArray) k ≤ 126 := by
  have hk' : k < l.length := by simpa [ByteArray.size] using hk
  have h1 := prB_iff.1 (List.all_eq_true.1 h _ (List.getElem_mem hk'))
  have h2 := get_bt (ByteArray.mk l.toArray) k hk
  have h3 : (l[k].toNat : Int) = bt (ByteArray.mk l.toArray) k := h2
  omega

set_option maxHeartbeats 8000000 in
theorem walk (q p : Qry) (cs cs2 : List Value) (es : Value) (a : Addr) (w : World) (hq : QVal w w.heap.size cs q) (hp : QVal w w.heap.size cs2 p) (hbk : bulk q ≤ 1073741824) (hbp : bulk p ≤ 1073741824) (hpow : Pow w.heap.size w) (ht : Tab w) (ha : Ask1 w) (he : w.cell? ⟨0, 0, none⟩ = some es) (hn : w.cell? ⟨1, 0, none⟩ = some (.iface 274 (.pointer (some a)))) (h0 : 3 < w.heap.size) :
    Calls Tryz.prog 9 #[.agg cs.toArray, .agg cs2.toArray] w fun e w' => e = .returned (.bool true) ∧ Below w.heap.size w w' := by
  obtain ⟨W2, hW2⟩ : ∃ W, W = (w.alloc (.cells cs.toArray 29)).alloc (.cells cs2.toArray 29) := ⟨_, rfl⟩
  have K1 : Blk W2 w.heap.size 29 cs.toArray := by rw [hW2]; exact (Blk.new w _ _).alloc _
  have K2 : Blk W2 (w.heap.size + 1) 29 cs2.toArray := by
    have h := Blk.new (w.alloc (.cells cs.toArray 29)) 29 cs2.toArray
    rw [show (w.alloc (.cells cs.toArray 29)).heap.size = w.heap.size + 1 by simp] at h
    rw [hW2]; exact h
  have hsz : W2.heap.size = w.heap.size + 2 := by rw [hW2]; simp
  have hbW : Below w.heap.size w W2 := by rw [hW2]; (repeat (first | exact Below.refl _ _ | assumption | refine balloc ?_ _ | refine bdrew ?_ | refine bdrewN ?_ _ | refine bchain ?_ (by assumption)))
  have LV := Lib.hid (lives_any es a W2 (tab_below ht hbW h0) (ha.below hbW (by omega)) ((hbW.cell (p := ⟨0, 0, none⟩) (by show 0 < _; omega)).trans he) ((hbW.cell (p := ⟨1, 0, none⟩) (by show 1 < _; omega)).trans hn) (by omega))
  have le : ∀ W : World, Below W2.heap.size W2 W → Below w.heap.size w W := fun W h => bchain hbW h
  have en : ∀ W : World, Below W2.heap.size W2 W → W.cell? ⟨1, 0, none⟩ = some (.iface 274 (.pointer (some a))) := fun W h => ((le W h).cell (p := ⟨1, 0, none⟩) (by show 1 < _; omega)).trans hn
  obtain ⟨r, hr⟩ : ∃ r : Bool, r = true ↔ q = p := by
    rcases Classical.em (q = p) with h | h
    · exact ⟨true, fun _ => h, fun _ => rfl⟩
    · exact ⟨false, fun e => Bool.noConfusion e, fun e => absurd e h⟩
  have FQ := Lib.hid (fun W (hW : Below W2.heap.size W2 W) => LawFew.few_any q cs w.heap.size W 4000 (hq.kept (le W hW) (Nat.le_refl _)) (le W hW).size)
  have FP := Lib.hid (fun W (hW : Below W2.heap.size W2 W) => LawFew.few_any p cs2 w.heap.size W 4000 (hp.kept (le W hW) (Nat.le_refl _)) (le W hW).size)
  have TQ := Lib.hid (fun W (hW : Below W2.heap.size W2 W) => text_any q cs w.heap.size w.heap.size a W (hq.kept (le W hW) (Nat.le_refl _)) (Nat.le_refl _) (le W hW).size (hpow.on (le W hW)) hbk (en W hW) (by have := (le W hW).size; omega))
  have TP := Lib.hid (fun W (hW : Below W2.heap.size W2 W) => text_any p cs2 w.heap.size w.heap.size a W (hp.kept (le W hW) (Nat.le_refl _)) (Nat.le_refl _) (le W hW).size (hpow.on (le W hW)) hbp (en W hW) (by have := (le W hW).size; omega))
  have CQ := Lib.hid (fun W (hW : Below W2.heap.size W2 W) => check_any q cs w.heap.size 16 _ W (hq.kept (le W hW) (Nat.le_refl _)) (le W hW).size (by omega) (en W hW) (by have := (le W hW).size; omega))
  have CP := Lib.hid (fun W (hW : Below W2.heap.size W2 W) => check_any p cs2 w.heap.size 16 _ W (hp.kept (le W hW) (Nat.le_refl _)) (le W hW).size (by omega) (en W hW) (by have := (le W hW).size; omega))
  have SQP := Lib.hid (fun W (hW : Below W2.heap.size W2 W) => (same_any q p cs cs2 w.heap.size W (hq.kept (le W hW) (Nat.le_refl _)) (hp.kept (le W hW) (Nat.le_refl _)) (le W hW).size).mono fun e w' h => told_same hr h)
  have wq := wt_of hq
  have wp := wt_of hp
  obtain ⟨S, hS⟩ : ∃ T : ByteArray, T = ⟨(textL q).toArray⟩ := ⟨_, rfl⟩
  obtain ⟨T, hT⟩ : ∃ T : ByteArray, T = ⟨(textL p).toArray⟩ := ⟨_, rfl⟩
  obtain ⟨gq, hgq⟩ : ∃ g, g = good 16 false q := ⟨_, rfl⟩
  obtain ⟨gp, hgp⟩ : ∃ g, g = good 16 false p := ⟨_, rfl⟩
  have nS : S.toList.isEmpty = !gq := by rw [hS, hgq]; exact textL_nil q
  have nT : T.toList.isEmpty = !gp := by rw [hT, hgp]; exact textL_nil p
  have pS : ∀ k, k < S.size → 32 ≤ bt S k ∧ bt S k ≤ 126 := by rw [hS]; exact fun k hk => bytes_pr (textL_pr q) hk
  have sS : S.size ≤ 137438953472 := by
    rw [hS]
    unfold textL
    split
    · rename_i hg
      have := line_len (by omega) q hg wq
      simp [ByteArray.size]
      omega
    · simp [ByteArray.size]
  have iS : gq = true → gp = true → (S = T ↔ r = true) := by
    intro h1 h2
    rw [hr, hS, hT]
    constructor
    · intro e
      exact textL_inj (hgq ▸ h1) (hgp ▸ h2) wq wp (by simpa using e)
    · intro e; rw [e]
  rw [← hS] at TQ
  rw [← hT] at TP
  rw [← hgq] at CQ
  rw [← hgp] at CP
  obtain ⟨hd, ks, A1, A2, A3, A4, c1, c2, c3, c4, kc, hw, hk, h1, h2, h3, h4, h5⟩ := hq
  obtain ⟨hd2, ks2, B1, B2, B3, B4, d1, d2, d3, d4, kc2, hw2, hk2, g1, g2, g3, g4, g5⟩ := hp
  have HW := Lib.hid hW2
  have HZ := Lib.hid hsz
  have PS := Lib.hid pS
  have SZ := Lib.hid sS
  have IS := Lib.hid iS
  have NS := Lib.hid nS
  have NT := Lib.hid nT
  clear hw hk h1 h2 h3 h4 h5 hw2 hk2 g1 g2 g3 g4 g5 hW2 hsz ht ha he hn hpow hbk hbp hS hT hgq hgp hr wq wp pS iS sS en nS nT
  go_enter Tryz.func9, Tryz.ntmps9
  go_upto_region 1 with fail
  rw [← HW.out]
  go_wp2_with (go_at_call 11; refine LV.out.mono ?_; rintro e w3 ⟨rfl, hb3⟩; obtain ⟨z0, z1, z2, z3, z4, z5, z6, z7, z8, z9, z10, z11, z12, z13, z14⟩ := qrow (K1.below hb3 (by have := HZ.out; omega)))
  go_at_call 41
  refine (FQ.out w3 hb3).mono ?_
  rintro e w4 ⟨⟨f1, rfl⟩, hb4⟩
  have hb := bchain hb3 hb4
  have hs4 := hb.size
  have hsw := HZ.out
  clear z0 z1 z2 z3 z4 z5 z6 z7 z8 z9 z10 z11 z12 z13 z14
  rcases (by omega : f1 < 0 ∨ 0 ≤ f1) with hf | hf
  · have hd1 : decide (f1 < 0) = true := decide_eq_true hf
    clear hf
    go_wp2_with fail
    go_ret
    exact ⟨rfl, bchain hbW hb⟩
  have hd1 : decide (f1 < 0) = false := decide_eq_false (by omega)
  clear hf
  obtain ⟨y0, y1, y2, y3, y4, y5, y6, y7, y8, y9, y10, y11, y12, y13, y14⟩ := qrow (K2.below hb (by omega))
  go_wp2_with fail
  go_at_call 41
  refine (FP.out w4 hb).mono ?_
  rintro e w5 ⟨⟨f2, rfl⟩, hb5⟩
  have hB := bchain hb hb5
  have hs5 := hB.size
  clear y0 y1 y2 y3 y4 y5 y6 y7 y8 y9 y10 y11 y12 y13 y14 hb hs4 hd1
  rcases (by omega : f2 < 0 ∨ 0 ≤ f2) with hf | hf
  · have hd1 : decide (f2 < 0) = true := decide_eq_true hf
    clear hf
    go_wp2_with fail
    go_ret
    exact ⟨rfl, bchain hbW hB⟩
  have hd1 : decide (f2 < 0) = false := decide_eq_false (by omega)
  clear hf
  have K1' : Blk w5 w.heap.size 29 _ := K1.below hB (by omega)
  have K2' : Blk w5 (w.heap.size + 1) 29 _ := K2.below hB (by omega)
  have L1 := loads_blk (P := Tryz.prog) (ty := 29) K1' (show w.heap.size < w5.heap.size by omega) Tryz.underlying29 rfl (by rw [LineBase.qInfo]; rfl)
  have L2 := loads_blk (P := Tryz.prog) (ty := 29) K2' (show w.heap.size + 1 < w5.heap.size by omega) Tryz.underlying29 rfl (by rw [LineBase.qInfo]; rfl)
  clear K1' K2'
  have C1 := fun b : Bw w5.heap.size w5 => calls_bw (Nat.le_refl _) (TQ.out b.at_ (bchain hB b.below))
  have C2 := fun b : Bw w5.heap.size w5 => calls_bw (Nat.le_refl _) (TP.out b.at_ (bchain hB b.below))
  go_upto_region 7 with fail
  obtain ⟨v1, hv1⟩ : ∃ v, v = Value.agg (List.toArray [.int .i64 hd.kind, .int .i64 hd.field, .string hd.text, .slice A1 hd.terms.length c1, .slice A2 hd.offs.length c2, .int .i64 hd.n, .int .u64 hd.weight, .bool hd.lo.op, .bool hd.lo.inn, .string hd.lo.text, .bool hd.hi.op, .bool hd.hi.inn, .string hd.hi.text, .slice A3 hd.occur.length c3, .slice A4 ks.length c4]) := ⟨_, rfl⟩
  obtain ⟨v2, hv2⟩ : ∃ v, v = Value.agg (List.toArray [.int .i64 hd2.kind, .int .i64 hd2.field, .string hd2.text, .slice B1 hd2.terms.length d1, .slice B2 hd2.offs.length d2, .int .i64 hd2.n, .int .u64 hd2.weight, .bool hd2.lo.op, .bool hd2.lo.inn, .string hd2.lo.text, .bool hd2.hi.op, .bool hd2.hi.inn, .string hd2.hi.text, .slice B3 hd2.occur.length d3, .slice B4 ks2.length d4]) := ⟨_, rfl⟩
  have V1 := Lib.hid hv1
  have V2 := Lib.hid hv2
  rw [← hv1] at L1 C1
  rw [← hv2] at L2 C2
  clear hv1 hv2
  refine wp_region_bw w5.heap.size (by kernel_rfl) (by kernel_rfl) ?_
  repeat (first | (refine BigFrame.wpQuiet_want (by kernel_rfl) ?_; intro K hK; (first | refine quiet_load _ _ _ v1 rfl rfl L1 (hK _ ?_) | refine quiet_load _ _ _ v2 rfl rfl L2 (hK _ ?_)); clear hK K; simp only [Act.put, Base.s1, Base.s2, Base.s3]) | go_big_quiet_step ((first | (go_at_call 13; first | with_reducible exact C1 _ | with_reducible exact C2 _))))
  refine wpQuiet_nil ?_
  intro w6 hw'
  obtain ⟨⟨wz, hbq⟩, hw''⟩ := hw'
  subst hw''
  clear C1 C2 L1 L2
  have hB6 := bchain hB hbq
  have hs6 := hB6.size
  have K1' : Blk w6 w.heap.size 29 _ := K1.below hB6 (by omega)
  have K2' : Blk w6 (w.heap.size + 1) 29 _ := K2.below hB6 (by omega)
  have L1 := loads_blk (P := Tryz.prog) (ty := 29) K1' (show w.heap.size < w6.heap.size by omega) Tryz.underlying29 rfl (by rw [LineBase.qInfo]; rfl)
  have L2 := loads_blk (P := Tryz.prog) (ty := 29) K2' (show w.heap.size + 1 < w6.heap.size by omega) Tryz.underlying29 rfl (by rw [LineBase.qInfo]; rfl)
  clear K1' K2'
  rw [← V1.out] at L1
  rw [← V2.out] at L2
  clear hd1
  obtain ⟨RS, hRS⟩ : ∃ x, x = S.toList.isEmpty := ⟨_, rfl⟩
  have e_s := NS.out
  have e_t := NT.out
  have hw6 := bchain hbW hB6
  cases gq <;> cases gp
  all_goals
    simp only [Bool.not_true, Bool.not_false] at e_s e_t
    have D1 := fun b : Bw w6.heap.size w6 => calls_bw (Nat.le_refl _) (CQ.out b.at_ (bchain hB6 b.below))
    have D2 := fun b : Bw w6.heap.size w6 => calls_bw (Nat.le_refl _) (CP.out b.at_ (bchain hB6 b.below))
    rw [← V1.out] at D1
    rw [← V2.out] at D2
    simp only [TermCheck.errUnless, Bool.false_eq_true, if_true, if_false] at D1 D2
    go_upto_region 8 with fail
    refine wp_region_bw w6.heap.size (by kernel_rfl) (by kernel_rfl) ?_
    repeat (first | (refine BigFrame.wpQuiet_want (by kernel_rfl) ?_; intro K hK; (first | refine quiet_load _ _ _ v1 rfl rfl L1 (hK _ ?_) | refine quiet_load _ _ _ v2 rfl rfl L2 (hK _ ?_)); clear hK K; simp only [Act.put, Base.s1, Base.s2, Base.s3]) | go_big_quiet_step ((first | (go_at_call 19; first | with_reducible exact D1 _ | with_reducible exact D2 _))))
    refine wpQuiet_nil ?_
    intro w7 hw'
    obtain ⟨⟨wz7, hbq7⟩, hw''⟩ := hw'
    subst hw''
    clear L1 L2 D1 D2
    go_wp2_with fail
    go_loop [11] (fun i => ∃ k : Nat, k ≤ S.size ∧ i = .int .i64 k) (fun i => S.size - (intOf i).toNat)
    case atStart => exact ⟨0, Nat.zero_le _, rfl⟩
    case round =>
      obtain ⟨k, hk, rfl⟩ := hrel
      rcases Nat.lt_or_ge k S.size with hlt | hge
      · obtain ⟨p1, p2⟩ := PS.out k hlt
        have hgb := get_bt S
        have b1 : decide (bt S k < 32) = false := decide_eq_false (by omega)
        have b2 : decide (126 < bt S k) = false := decide_eq_false (by omega)
        have hlt2 : (k : Int) < 9223372036854775807 := by have := SZ.out; omega
        have i2 : (k : Int) < (S.size : Int) := by omega
        clear p1 p2
        go_wp2_with fail
        go_round
        case rel => exact ⟨k + 1, by omega, by go_num⟩
        case measure => simp [intOf]; omega
      · have i2 : ¬ ((k : Int) < (S.size : Int)) := by omega
        have hwe := bchain hw6 hbq7
        first
          | (go_wp2_with fail
             go_ret
             exact ⟨rfl, hwe⟩)
          | (have hB7 := bchain hB6 hbq7
             have hs7 := hB7.size
             obtain ⟨z0, z1, z2, z3, z4, z5, z6, z7, z8, z9, z10, z11, z12, z13, z14⟩ := qrow (K1.below hB7 (by omega))
             obtain ⟨y0, y1, y2, y3, y4, y5, y6, y7, y8, y9, y10, y11, y12, y13, y14⟩ := qrow (K2.below hB7 (by omega))
             rcases Classical.em (S = T) with hST | hST
             · have hr := (IS.out (by first | rfl | trivial) (by first | rfl | trivial)).1 hST
               subst hST hr
               go_wp2_with (go_at_call 33; refine (SQP.out _ hB7).mono ?_; rintro e w8 ⟨rfl, hb8⟩)
               go_ret
               exact ⟨rfl, bchain hwe hb8⟩
             · have hr : r = false := by
                 cases r
                 · rfl
                 · exact absurd ((IS.out (by first | rfl | trivial) (by first | rfl | trivial)).2 (by first | rfl | trivial)) hST
               have hne : ¬ S.toList = T.toList := fun h => hST (ba_eq h)
               have hne2 : (S.toList == T.toList) = false := beq_eq_false_iff_ne.2 hne
               have hne3 : decide (S.toList = T.toList) = false := decide_eq_false hne
               subst hr
               go_wp2_with (go_at_call 33; refine (SQP.out _ hB7).mono ?_; rintro e w8 ⟨rfl, hb8⟩)
               go_ret
               refine ⟨?_, bchain hwe hb8⟩
               first | rfl | (simp [hne]; done))
end Go.Proofs.YtkcfgcdlnojaeaaGreatDoor.BindOneTextWalk
