/-
  The walk of concordlaw16.BindSames.
-/
import Derived.Test.YtkcfgcdlnojaeaaGreatDoorLivesBind
import Derived.Test.YtkcfgcdlnojaeaaGreatDoorQryRefSame
import Derived.Test.YtkcfgcdlnojaeaaGreatDoorDQry
import Derived.Test.YtkcfgcdlnojaeaaGreatDoorQuietLoad
import Derived.Test.YtkcfgcdlnojaeaaGreatDoorWordsOne
set_option linter.unusedVariables false
set_option linter.unusedSimpArgs false
namespace Go.Proofs.YtkcfgcdlnojaeaaGreatDoor.BindSamesWalk
set_option maxRecDepth 100000
open Go.RowKit Go.PlainAid Base Query BindBase NodeTerm StopsWalk OfText OfAny LivesBind QuietLoad WordsOne QrySize QryLeft QrySame QryRefSame

theorem told_same {P : Prop} {r : Bool} (h : r = true ↔ P) {w w' : World} {e : Ending} (ht : QrySame.Told P w e w') : e = .returned (.bool r) ∧ Below w.heap.size w w' := by
  obtain ⟨⟨x, rfl, hx⟩, hb⟩ := ht
  refine ⟨?_, hb⟩
  rw [Bool.eq_iff_iff.2 (hx.trans h.symm)]

set_option maxHeartbeats 8000000 in
theorem walk (q p : Qry) (cs cs2 : List Value) (es : Value) (a : Addr) (w : World) (hq : QVal w w.heap.size cs q) (hp : QVal w w.heap.size cs2 p) (ht : Tab w) (ha : Ask1 w) (he : w.cell? ⟨0, 0, none⟩ = some es) (hn : w.cell? ⟨1, 0, none⟩ = some (.iface 274 (.pointer (some a)))) (h0 : 3 < w.heap.size) :
    Calls Tryz.prog 10 #[.agg cs.toArray, .agg cs2.toArray] w fun e w' => e = .returned (.bool true) ∧ Below w.heap.size w w' := by
  obtain ⟨W2, hW2⟩ : ∃ W, W = (w.alloc (.cells cs.toArray 29)).alloc (.cells cs2.toArray 29) := ⟨_, rfl⟩
  have K1 : Blk W2 w.heap.size 29 cs.toArray := by rw [hW2]; exact (Blk.new w _ _).alloc _
  have K2 : Blk W2 (w.heap.size + 1) 29 cs2.toArray := by
    have h := Blk.new (w.alloc (.cells cs.toArray 29)) 29 cs2.toArray
    rw [show (w.alloc (.cells cs.toArray 29)).heap.size = w.heap.size + 1 by simp] at h
    rw [hW2]; exact h
  have hsz : W2.heap.size = w.heap.size + 2 := by rw [hW2]; simp
  have hbW : Below w.heap.size w W2 := by rw [hW2]; (repeat (first | exact Below.refl _ _ | assumption | refine balloc ?_ _ | refine bdrew ?_ | refine bdrewN ?_ _ | refine bchain ?_ (by assumption)))
  have LV := Lib.hid (lives_any es a W2 (tab_below ht hbW h0) (ha.below hbW (by omega)) ((hbW.cell (p := ⟨0, 0, none⟩) (by show 0 < _; omega)).trans he) ((hbW.cell (p := ⟨1, 0, none⟩) (by show 1 < _; omega)).trans hn) (by omega))
  obtain ⟨r, hr⟩ : ∃ r : Bool, r = true ↔ q = p := by
    rcases Classical.em (q = p) with h | h
    · exact ⟨true, fun _ => h, fun _ => rfl⟩
    · exact ⟨false, fun e => Bool.noConfusion e, fun e => absurd e h⟩
  have hr2 : r = true ↔ p = q := hr.trans eq_comm
  obtain ⟨n, hN⟩ : ∃ n, n = q.size := ⟨_, rfl⟩
  obtain ⟨m, hM⟩ : ∃ m, m = p.size := ⟨_, rfl⟩
  have le : ∀ W : World, Below W2.heap.size W2 W → Below w.heap.size w W := fun W h => bchain hbW h
  have FQ := Lib.hid (fun W (hW : Below W2.heap.size W2 W) => few_any q cs w.heap.size W 4000 (hq.kept (le W hW) (Nat.le_refl _)) (le W hW).size)
  have FP := Lib.hid (fun W (hW : Below W2.heap.size W2 W) => few_any p cs2 w.heap.size W 4000 (hp.kept (le W hW) (Nat.le_refl _)) (le W hW).size)
  have SQQ := Lib.hid (fun W (hW : Below W2.heap.size W2 W) => (same_any q q cs cs w.heap.size W (hq.kept (le W hW) (Nat.le_refl _)) (hq.kept (le W hW) (Nat.le_refl _)) (le W hW).size).mono fun e w' h => told_same (r := true) ⟨fun _ => rfl, fun _ => rfl⟩ h)
  have SQP := Lib.hid (fun W (hW : Below W2.heap.size W2 W) => (same_any q p cs cs2 w.heap.size W (hq.kept (le W hW) (Nat.le_refl _)) (hp.kept (le W hW) (Nat.le_refl _)) (le W hW).size).mono fun e w' h => told_same hr h)
  have SPQ := Lib.hid (fun W (hW : Below W2.heap.size W2 W) => (same_any p q cs2 cs w.heap.size W (hp.kept (le W hW) (Nat.le_refl _)) (hq.kept (le W hW) (Nat.le_refl _)) (le W hW).size).mono fun e w' h => told_same hr2 h)
  have RQP := Lib.hid (fun W (hW : Below W2.heap.size W2 W) => (refSame_any q p cs cs2 w.heap.size W (hq.kept (le W hW) (Nat.le_refl _)) (hp.kept (le W hW) (Nat.le_refl _)) (le W hW).size).mono fun e w' h => told_same hr h)
  have ZQ := Lib.hid (fun W (hW : Below W2.heap.size W2 W) => hN ▸ size_any q cs w.heap.size W (hq.kept (le W hW) (Nat.le_refl _)) (le W hW).size)
  have ZP := Lib.hid (fun W (hW : Below W2.heap.size W2 W) => hM ▸ size_any p cs2 w.heap.size W (hp.kept (le W hW) (Nat.le_refl _)) (le W hW).size)
  have YQ := Lib.hid (fun W (hW : Below W2.heap.size W2 W) => hN ▸ refSize_any q cs w.heap.size W (hq.kept (le W hW) (Nat.le_refl _)) (le W hW).size)
  have YP := Lib.hid (fun W (hW : Below W2.heap.size W2 W) => hM ▸ refSize_any p cs2 w.heap.size W (hp.kept (le W hW) (Nat.le_refl _)) (le W hW).size)
  clear hr2
  obtain ⟨hd, ks, A1, A2, A3, A4, c1, c2, c3, c4, kc, hw, hk, h1, h2, h3, h4, h5⟩ := hq
  obtain ⟨hd2, ks2, B1, B2, B3, B4, d1, d2, d3, d4, kc2, hw2, hk2, g1, g2, g3, g4, g5⟩ := hp
  have HW := Lib.hid hW2
  have HZ := Lib.hid hsz
  clear hw hk h1 h2 h3 h4 h5 hw2 hk2 g1 g2 g3 g4 g5 hW2 hsz hr hN hM ht ha he hn
  have S0 : ∀ j : Nat, j < 15 → True := fun _ _ => trivial
  go_enter Tryz.func10, Tryz.ntmps10
  go_upto_region 1 with fail
  rw [← HW.out]
  go_wp2_with (
    go_at_call 11
    refine LV.out.mono ?_
    rintro e w3 ⟨rfl, hb3⟩
    have z0 := (hb3.cell (p := ⟨w.heap.size, 0, none⟩) (show w.heap.size < W2.heap.size by have := HZ.out; omega)).trans (K1.cell 0)
    have z1 := (hb3.cell (p := ⟨w.heap.size, 1, none⟩) (show w.heap.size < W2.heap.size by have := HZ.out; omega)).trans (K1.cell 1)
    have z2 := (hb3.cell (p := ⟨w.heap.size, 2, none⟩) (show w.heap.size < W2.heap.size by have := HZ.out; omega)).trans (K1.cell 2)
    have z3 := (hb3.cell (p := ⟨w.heap.size, 3, none⟩) (show w.heap.size < W2.heap.size by have := HZ.out; omega)).trans (K1.cell 3)
    have z4 := (hb3.cell (p := ⟨w.heap.size, 4, none⟩) (show w.heap.size < W2.heap.size by have := HZ.out; omega)).trans (K1.cell 4)
    have z5 := (hb3.cell (p := ⟨w.heap.size, 5, none⟩) (show w.heap.size < W2.heap.size by have := HZ.out; omega)).trans (K1.cell 5)
    have z6 := (hb3.cell (p := ⟨w.heap.size, 6, none⟩) (show w.heap.size < W2.heap.size by have := HZ.out; omega)).trans (K1.cell 6)
    have z7 := (hb3.cell (p := ⟨w.heap.size, 7, none⟩) (show w.heap.size < W2.heap.size by have := HZ.out; omega)).trans (K1.cell 7)
    have z8 := (hb3.cell (p := ⟨w.heap.size, 8, none⟩) (show w.heap.size < W2.heap.size by have := HZ.out; omega)).trans (K1.cell 8)
    have z9 := (hb3.cell (p := ⟨w.heap.size, 9, none⟩) (show w.heap.size < W2.heap.size by have := HZ.out; omega)).trans (K1.cell 9)
    have z10 := (hb3.cell (p := ⟨w.heap.size, 10, none⟩) (show w.heap.size < W2.heap.size by have := HZ.out; omega)).trans (K1.cell 10)
    have z11 := (hb3.cell (p := ⟨w.heap.size, 11, none⟩) (show w.heap.size < W2.heap.size by have := HZ.out; omega)).trans (K1.cell 11)
    have z12 := (hb3.cell (p := ⟨w.heap.size, 12, none⟩) (show w.heap.size < W2.heap.size by have := HZ.out; omega)).trans (K1.cell 12)
    have z13 := (hb3.cell (p := ⟨w.heap.size, 13, none⟩) (show w.heap.size < W2.heap.size by have := HZ.out; omega)).trans (K1.cell 13)
    have z14 := (hb3.cell (p := ⟨w.heap.size, 14, none⟩) (show w.heap.size < W2.heap.size by have := HZ.out; omega)).trans (K1.cell 14)
    )
  go_at_call 12
  refine (FQ.out w3 hb3).mono ?_
  rintro e w4 ⟨⟨f1, rfl⟩, hb4⟩
  have hb4' := bchain hb3 hb4
  clear z0 z1 z2 z3 z4 z5 z6 z7 z8 z9 z10 z11 z12 z13 z14
  cases f1
  · go_wp2_with fail
    go_ret
    exact ⟨rfl, bchain hbW hb4'⟩
  have y0 := (hb4'.cell (p := ⟨w.heap.size + 1, 0, none⟩) (show w.heap.size + 1 < W2.heap.size by have := HZ.out; omega)).trans (K2.cell 0)
  have y1 := (hb4'.cell (p := ⟨w.heap.size + 1, 1, none⟩) (show w.heap.size + 1 < W2.heap.size by have := HZ.out; omega)).trans (K2.cell 1)
  have y2 := (hb4'.cell (p := ⟨w.heap.size + 1, 2, none⟩) (show w.heap.size + 1 < W2.heap.size by have := HZ.out; omega)).trans (K2.cell 2)
  have y3 := (hb4'.cell (p := ⟨w.heap.size + 1, 3, none⟩) (show w.heap.size + 1 < W2.heap.size by have := HZ.out; omega)).trans (K2.cell 3)
  have y4 := (hb4'.cell (p := ⟨w.heap.size + 1, 4, none⟩) (show w.heap.size + 1 < W2.heap.size by have := HZ.out; omega)).trans (K2.cell 4)
  have y5 := (hb4'.cell (p := ⟨w.heap.size + 1, 5, none⟩) (show w.heap.size + 1 < W2.heap.size by have := HZ.out; omega)).trans (K2.cell 5)
  have y6 := (hb4'.cell (p := ⟨w.heap.size + 1, 6, none⟩) (show w.heap.size + 1 < W2.heap.size by have := HZ.out; omega)).trans (K2.cell 6)
  have y7 := (hb4'.cell (p := ⟨w.heap.size + 1, 7, none⟩) (show w.heap.size + 1 < W2.heap.size by have := HZ.out; omega)).trans (K2.cell 7)
  have y8 := (hb4'.cell (p := ⟨w.heap.size + 1, 8, none⟩) (show w.heap.size + 1 < W2.heap.size by have := HZ.out; omega)).trans (K2.cell 8)
  have y9 := (hb4'.cell (p := ⟨w.heap.size + 1, 9, none⟩) (show w.heap.size + 1 < W2.heap.size by have := HZ.out; omega)).trans (K2.cell 9)
  have y10 := (hb4'.cell (p := ⟨w.heap.size + 1, 10, none⟩) (show w.heap.size + 1 < W2.heap.size by have := HZ.out; omega)).trans (K2.cell 10)
  have y11 := (hb4'.cell (p := ⟨w.heap.size + 1, 11, none⟩) (show w.heap.size + 1 < W2.heap.size by have := HZ.out; omega)).trans (K2.cell 11)
  have y12 := (hb4'.cell (p := ⟨w.heap.size + 1, 12, none⟩) (show w.heap.size + 1 < W2.heap.size by have := HZ.out; omega)).trans (K2.cell 12)
  have y13 := (hb4'.cell (p := ⟨w.heap.size + 1, 13, none⟩) (show w.heap.size + 1 < W2.heap.size by have := HZ.out; omega)).trans (K2.cell 13)
  have y14 := (hb4'.cell (p := ⟨w.heap.size + 1, 14, none⟩) (show w.heap.size + 1 < W2.heap.size by have := HZ.out; omega)).trans (K2.cell 14)
  go_wp2_with fail
  go_at_call 12
  refine (FP.out w4 hb4').mono ?_
  rintro e w5 ⟨⟨f2, rfl⟩, hb5⟩
  have hb := bchain hb4' hb5
  have hs5 := hb.size
  have hsw := HZ.out
  clear y0 y1 y2 y3 y4 y5 y6 y7 y8 y9 y10 y11 y12 y13 y14
  cases f2
  · go_wp2_with fail
    go_ret
    exact ⟨rfl, bchain hbW hb⟩
  have K1' : Blk w5 w.heap.size 29 _ := K1.below hb (by omega)
  have K2' : Blk w5 (w.heap.size + 1) 29 _ := K2.below hb (by omega)
  have L1 := loads_blk (P := Tryz.prog) (ty := 29) K1' (show w.heap.size < w5.heap.size by omega) Tryz.underlying29 rfl (by rw [qInfo]; rfl)
  have L2 := loads_blk (P := Tryz.prog) (ty := 29) K2' (show w.heap.size + 1 < w5.heap.size by omega) Tryz.underlying29 rfl (by rw [qInfo]; rfl)
  have C1 := fun b : Bw w5.heap.size w5 => calls_bw (Nat.le_refl _) (SQQ.out b.at_ (bchain hb b.below))
  have C2 := fun b : Bw w5.heap.size w5 => calls_bw (Nat.le_refl _) (SQP.out b.at_ (bchain hb b.below))
  have C3 := fun b : Bw w5.heap.size w5 => calls_bw (Nat.le_refl _) (SPQ.out b.at_ (bchain hb b.below))
  have C4 := fun b : Bw w5.heap.size w5 => calls_bw (Nat.le_refl _) (RQP.out b.at_ (bchain hb b.below))
  go_upto_region 4 with fail
  clear K1 K2 K1' K2' S0
  generalize Value.agg (List.toArray [.int .i64 hd.kind, .int .i64 hd.field, .string hd.text, .slice A1 hd.terms.length c1, .slice A2 hd.offs.length c2, .int .i64 hd.n, .int .u64 hd.weight, .bool hd.lo.op, .bool hd.lo.inn, .string hd.lo.text, .bool hd.hi.op, .bool hd.hi.inn, .string hd.hi.text, .slice A3 hd.occur.length c3, .slice A4 ks.length c4]) = v1 at L1 C1 C2 C3 C4 ZQ YQ ⊢
  generalize Value.agg (List.toArray [.int .i64 hd2.kind, .int .i64 hd2.field, .string hd2.text, .slice B1 hd2.terms.length d1, .slice B2 hd2.offs.length d2, .int .i64 hd2.n, .int .u64 hd2.weight, .bool hd2.lo.op, .bool hd2.lo.inn, .string hd2.lo.text, .bool hd2.hi.op, .bool hd2.hi.inn, .string hd2.hi.text, .slice B3 hd2.occur.length d3, .slice B4 ks2.length d4]) = v2 at L2 C2 C3 C4 ZP YP ⊢
  cases r
  · refine wp_region_bw w5.heap.size (by kernel_rfl) (by kernel_rfl) ?_
    repeat (first | (refine BigFrame.wpQuiet_want (by kernel_rfl) ?_; intro K hK; (first | refine quiet_load _ _ _ v1 rfl rfl L1 (hK _ ?_) | refine quiet_load _ _ _ v2 rfl rfl L2 (hK _ ?_)); clear hK K; simp only [Act.put, Base.s1, Base.s2, Base.s3]) | go_big_quiet_step ((first | (go_at_call 33; first | with_reducible exact C1 _ | with_reducible exact C2 _ | with_reducible exact C3 _) | (go_at_call 42; with_reducible exact C4 _) | (go_at_call 20; first | with_reducible exact C5 _ | with_reducible exact C6 _) | (go_at_call 43; first | with_reducible exact C7 _ | with_reducible exact C8 _))))
    refine wpQuiet_nil ?_
    intro wq hw'
    obtain ⟨⟨wz, hbq⟩, hw''⟩ := hw'
    subst hw''
    go_upto_region 6 with fail
    have M1 : ∀ wx, (∃ b : Bw wq.heap.size wq, wx = b.at_) → (loadVar 29 ⟨w.heap.size, 0, none⟩).run Tryz.prog wx = .ok v1 wx := fun wx ⟨b, e⟩ => L1 wx ⟨⟨b.at_, bchain hbq b.below⟩, e⟩
    have M2 : ∀ wx, (∃ b : Bw wq.heap.size wq, wx = b.at_) → (loadVar 29 ⟨w.heap.size + 1, 0, none⟩).run Tryz.prog wx = .ok v2 wx := fun wx ⟨b, e⟩ => L2 wx ⟨⟨b.at_, bchain hbq b.below⟩, e⟩
    have C5 := fun b : Bw wq.heap.size wq => calls_bw (Nat.le_refl _) (ZQ.out b.at_ (bchain (bchain hb hbq) b.below))
    have C6 := fun b : Bw wq.heap.size wq => calls_bw (Nat.le_refl _) (ZP.out b.at_ (bchain (bchain hb hbq) b.below))
    have C7 := fun b : Bw wq.heap.size wq => calls_bw (Nat.le_refl _) (YQ.out b.at_ (bchain (bchain hb hbq) b.below))
    have C8 := fun b : Bw wq.heap.size wq => calls_bw (Nat.le_refl _) (YP.out b.at_ (bchain (bchain hb hbq) b.below))
    clear L1 L2 C1 C2 C3 C4
    have hbq1 := hbq
    clear hbq
    refine wp_region_bw wq.heap.size (by kernel_rfl) (by kernel_rfl) ?_
    repeat (first | (refine BigFrame.wpQuiet_want (by kernel_rfl) ?_; intro K hK; (first | refine quiet_load _ _ _ v1 rfl rfl M1 (hK _ ?_) | refine quiet_load _ _ _ v2 rfl rfl M2 (hK _ ?_)); clear hK K; simp only [Act.put, Base.s1, Base.s2, Base.s3]) | go_big_quiet_step ((first | (go_at_call 33; first | with_reducible exact C1 _ | with_reducible exact C2 _ | with_reducible exact C3 _) | (go_at_call 42; with_reducible exact C4 _) | (go_at_call 20; first | with_reducible exact C5 _ | with_reducible exact C6 _) | (go_at_call 43; first | with_reducible exact C7 _ | with_reducible exact C8 _))))
    refine wpQuiet_nil ?_
    intro wq2 hw'
    obtain ⟨⟨wz2, hbq⟩, hw''⟩ := hw'
    subst hw''
    go_wp2_with fail
    go_ret
    exact ⟨rfl, bchain hbW (bchain hb (bchain hbq1 hbq))⟩
  · refine wp_region_bw w5.heap.size (by kernel_rfl) (by kernel_rfl) ?_
    repeat (first | (refine BigFrame.wpQuiet_want (by kernel_rfl) ?_; intro K hK; (first | refine quiet_load _ _ _ v1 rfl rfl L1 (hK _ ?_) | refine quiet_load _ _ _ v2 rfl rfl L2 (hK _ ?_)); clear hK K; simp only [Act.put, Base.s1, Base.s2, Base.s3]) | go_big_quiet_step ((first | (go_at_call 33; first | with_reducible exact C1 _ | with_reducible exact C2 _ | with_reducible exact C3 _) | (go_at_call 42; with_reducible exact C4 _) | (go_at_call 20; first | with_reducible exact C5 _ | with_reducible exact C6 _) | (go_at_call 43; first | with_reducible exact C7 _ | with_reducible exact C8 _))))
    refine wpQuiet_nil ?_
    intro wq hw'
    obtain ⟨⟨wz, hbq⟩, hw''⟩ := hw'
    subst hw''
    go_upto_region 6 with fail
    have M1 : ∀ wx, (∃ b : Bw wq.heap.size wq, wx = b.at_) → (loadVar 29 ⟨w.heap.size, 0, none⟩).run Tryz.prog wx = .ok v1 wx := fun wx ⟨b, e⟩ => L1 wx ⟨⟨b.at_, bchain hbq b.below⟩, e⟩
    have M2 : ∀ wx, (∃ b : Bw wq.heap.size wq, wx = b.at_) → (loadVar 29 ⟨w.heap.size + 1, 0, none⟩).run Tryz.prog wx = .ok v2 wx := fun wx ⟨b, e⟩ => L2 wx ⟨⟨b.at_, bchain hbq b.below⟩, e⟩
    have C5 := fun b : Bw wq.heap.size wq => calls_bw (Nat.le_refl _) (ZQ.out b.at_ (bchain (bchain hb hbq) b.below))
    have C6 := fun b : Bw wq.heap.size wq => calls_bw (Nat.le_refl _) (ZP.out b.at_ (bchain (bchain hb hbq) b.below))
    have C7 := fun b : Bw wq.heap.size wq => calls_bw (Nat.le_refl _) (YQ.out b.at_ (bchain (bchain hb hbq) b.below))
    have C8 := fun b : Bw wq.heap.size wq => calls_bw (Nat.le_refl _) (YP.out b.at_ (bchain (bchain hb hbq) b.below))
    clear L1 L2 C1 C2 C3 C4
    have hbq1 := hbq
    clear hbq
    refine wp_region_bw wq.heap.size (by kernel_rfl) (by kernel_rfl) ?_
    repeat (first | (refine BigFrame.wpQuiet_want (by kernel_rfl) ?_; intro K hK; (first | refine quiet_load _ _ _ v1 rfl rfl M1 (hK _ ?_) | refine quiet_load _ _ _ v2 rfl rfl M2 (hK _ ?_)); clear hK K; simp only [Act.put, Base.s1, Base.s2, Base.s3]) | go_big_quiet_step ((first | (go_at_call 33; first | with_reducible exact C1 _ | with_reducible exact C2 _ | with_reducible exact C3 _) | (go_at_call 42; with_reducible exact C4 _) | (go_at_call 20; first | with_reducible exact C5 _ | with_reducible exact C6 _) | (go_at_call 43; first | with_reducible exact C7 _ | with_reducible exact C8 _))))
    refine wpQuiet_nil ?_
    intro wq2 hw'
    obtain ⟨⟨wz2, hbq⟩, hw''⟩ := hw'
    subst hw''
    go_wp2_with fail
    go_ret
    exact ⟨rfl, bchain hbW (bchain hb (bchain hbq1 hbq))⟩
end Go.Proofs.YtkcfgcdlnojaeaaGreatDoor.BindSamesWalk
