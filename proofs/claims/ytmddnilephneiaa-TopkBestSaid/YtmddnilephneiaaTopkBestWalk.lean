/-
  The walk of TopkBest.
-/
import Derived.Test.YtmddnilephneiaaTwoWalk
import Derived.Test.YtmddnilephneiaaBestPlain
import Derived.Test.YtmddnilephneiaaOutWalk
namespace Go.Proofs.Ytmddnilephneiaa.TopkBestWalk
open Go.RowKit Go.PlainAid HitPlain HeapPlain KeepPlain Base HitBase PushWalk OfferWalk KeepWalk TopkWalk TwoWalk BestPlain Fixed OutWalk

set_option maxRecDepth 100000 in
set_option maxHeartbeats 4000000 in
theorem walk (L : List Hit) (A : Option Addr) (c B : Nat) (turn k : Int) (ht1 : -9223372036854775808 ≤ turn) (ht2 : turn < 9223372036854775808) (hk1 : -9223372036854775808 ≤ k) (hk2 : k < 9223372036854775808) (w : World) (hB : B ≤ w.heap.size) (h : Slc w B A (hc L)) (hn : (L.length + 1) * 16 ≤ 140737488355328) :
    Calls Try.prog 5 #[.slice A L.length c, .int .i64 turn, .int .i64 k] w fun e w' => e = .returned (.bool true) ∧ Below w.heap.size w w' := by
  go_enter Try.func5, Try.ntmps5
  go_wp2_with (go_at_call 9; refine (fixed_any _).mono ?_; rintro e w1 ⟨rfl, hb1⟩)
  have z1 := hb1.size
  go_at_call 10
  refine (new_any _ _).mono ?_
  rintro e w2 ⟨rfl, hq2, hb2, hlt2⟩
  go_wp2_with fail
  go_at_call 10
  refine (new_any _ _).mono ?_
  rintro e w3 ⟨rfl, hq3, hb3, hlt3⟩
  have hT : Two w3 w1.heap.size w1.heap.size w2.heap.size k k (tk k.toNat []) (tk k.toNat []) := by
    rw [tk_nil]
    exact Two.fresh hq2 hb3 hq3 (Nat.le_of_lt hlt2) hlt2
  have hb3w : Below w1.heap.size w1 w3 := bchain hb2 hb3
  clear hq2 hq3 hb2 hb3 hlt3
  go_wp2_with fail
  obtain ⟨t, htu⟩ : ∃ t : Nat, t = (IntKind.u64.wrap turn).toNat % L.length := ⟨_, rfl⟩
  have HTU := Lib.hid htu
  clear htu
  have hbw3 : Below w.heap.size w w3 := hb1.trans (hb3w.mono z1)
  have z3 := hb3w.size
  obtain ⟨a, ha⟩ : ∃ a, a = w1.heap.size := ⟨_, rfl⟩
  obtain ⟨b, hb⟩ : ∃ b, b = w2.heap.size := ⟨_, rfl⟩
  rw [← ha] at hT
  rw [← hb] at hT
  rw [← ha, ← hb]
  have hT' : Two w3 w.heap.size a b k k (tk k.toNat []) (tk k.toNat []) := hT.mono (by omega)
  clear hT hb3w
  go_loopw [38] (fun i wr => ∃ j : Nat, j ≤ L.length ∧ i = .int .i64 j ∧ Two wr w.heap.size a b k k (tk k.toNat (L.take j)) (tk k.toNat (rot L t j)) ∧ Below w.heap.size w wr) (fun i _ => L.length - (intOf i).toNat)
  case atStart => exact ⟨0, Nat.zero_le _, rfl, hT', hbw3⟩
  case round =>
    obtain ⟨j, hj, rfl, hkr, hbr⟩ := hrel
    clear hT' hbw3 hlt2 ha hb z3 hb1 z1
    have hsr := hbr.size
    by_cases hlt : j < L.length
    · obtain ⟨⟨x1, x2⟩, hx⟩ : ∃ x, L[j]? = some x := ⟨_, List.getElem?_eq_getElem hlt⟩
      have htl : t < L.length := by rw [HTU.out]; exact Nat.mod_lt _ (by omega)
      obtain ⟨⟨y1, y2⟩, hy⟩ : ∃ y, L[jx t L.length j]? = some y := ⟨_, List.getElem?_eq_getElem (jx_lt htl hlt)⟩
      obtain ⟨g2, o2, rfl, hg2, a2⟩ := slc_at (h.below hbr hB) (by intro e; rw [e] at hlt; simp at hlt)
      obtain ⟨q0, q1⟩ := a2 j _ hx
      have e1 : Hid (tk k.toNat (L.take (j + 1)) = (insS (x1, x2) (tk k.toNat (L.take j))).take k.toNat) := Lib.hid (by rw [take_snoc hx, tk_snoc])
      have e2 : Hid (tk k.toNat (rot L t (j + 1)) = (insS (y1, y2) (tk k.toNat (rot L t j))).take k.toNat) := Lib.hid (by rw [rot_succ hy, tk_snoc])
      have l1 : (tk k.toNat (L.take j)).length ≤ j := by rw [tk_len, List.length_take]; omega
      have l2 : (tk k.toNat (rot L t j)).length ≤ j := by rw [tk_len, rot_len]; omega
      obtain ⟨q2, q3⟩ := a2 (jx t L.length j) _ hy
      have HY := Lib.hid hy
      have HW : Hid (wrap64 (wrap64 ((IntKind.u64.wrap turn).tmod (L.length : Int)) - (j : Int)) = (t : Int) - (j : Int)) := Lib.hid (by
        have p0 : 0 ≤ IntKind.u64.wrap turn := by rw [IntKind.wrap_u64]; omega
        have p1 : (IntKind.u64.wrap turn).tmod (L.length : Int) = (t : Int) := by
          rw [Int.tmod_eq_emod_of_nonneg p0, HTU.out]
          rw [Int.natCast_emod, Int.toNat_of_nonneg p0]
        rw [p1, IntWalk.wrap64_in (t : Int) (by omega), IntWalk.wrap64_in _ (by omega)])
      clear hx hy a2
      go_wp2_with fail
      go_at_call 18
      refine (offer_two _ _ _ _ _ _ _ _ _ _ hkr hsr (by omega)).mono ?_
      rintro e w5 ⟨rfl, hk5, hb5⟩
      have c2 : w5.cell? ⟨g2, o2 + jx t L.length j * 2, none⟩ = some (.int .i64 y1) := (hb5.cell (p := ⟨g2, _, none⟩) (by show g2 < _; omega)).trans q2
      have c3 : w5.cell? ⟨g2, o2 + jx t L.length j * 2 + 1, none⟩ = some (.int .u64 y2) := (hb5.cell (p := ⟨g2, _, none⟩) (by show g2 < _; omega)).trans q3
      obtain ⟨J, hJ⟩ : ∃ J, J = jx t L.length j := ⟨_, rfl⟩
      rw [← hJ] at c2 c3
      clear q0 q1 q2 q3
      have HJ := Lib.hid hJ
      have i3 : J < L.length := by rw [hJ]; exact jx_lt htl hlt
      clear hJ
      go_upto_if 56 with fail
      rw [HW.out]
      by_cases htj : t < j
      · have i1 : (t : Int) - (j : Int) < 0 := by omega
        have i2 : (t : Int) - (j : Int) + (L.length : Int) = (J : Int) := by rw [HJ.out]; unfold jx; rw [if_pos htj]; omega
        go_upto_region 14 with fail
        (try rw [i2])
        go_wp2_with fail
        go_at_call 18
        refine (offer_two _ _ _ _ _ _ _ _ _ _ hk5.symm (Nat.le_trans hsr hb5.size) (by omega)).mono ?_
        rintro e w6 ⟨rfl, hk6, hb6⟩
        go_wp2_with fail
        go_roundw
        case rel => exact ⟨j + 1, by omega, by go_num, by rw [e1.out, e2.out]; exact hk6.symm, (hbr.trans hb5).trans hb6⟩
        case measure => simp [intOf]; omega
      · have i1 : ¬ (t : Int) - (j : Int) < 0 := by omega
        have i2 : (t : Int) - (j : Int) = (J : Int) := by rw [HJ.out]; unfold jx; rw [if_neg htj]; omega
        go_upto_region 14 with fail
        (try rw [i2])
        go_wp2_with fail
        go_at_call 18
        refine (offer_two _ _ _ _ _ _ _ _ _ _ hk5.symm (Nat.le_trans hsr hb5.size) (by omega)).mono ?_
        rintro e w6 ⟨rfl, hk6, hb6⟩
        go_wp2_with fail
        go_roundw
        case rel => exact ⟨j + 1, by omega, by go_num, by rw [e1.out, e2.out]; exact hk6.symm, (hbr.trans hb5).trans hb6⟩
        case measure => simp [intOf]; omega
    · obtain rfl : j = L.length := by omega
      rw [List.take_length] at hkr
      have hR : tk k.toNat (rot L t L.length) = tk k.toNat L := by
        cases L with
        | nil => rfl
        | cons x r => exact tk_congr _ (rot_perm (by rw [HTU.out]; exact Nat.mod_lt _ (by simp)))
      rw [hR] at hkr
      obtain ⟨K, hK⟩ : ∃ K, K = tk k.toNat L := ⟨_, rfl⟩
      have HKL : Hid (K.length = min k.toNat L.length) := Lib.hid (by rw [hK, tk_len])
      have hKl : K.length ≤ L.length := by have := HKL.out; omega
      rw [← hK] at hkr
      have hKs : Srt K := by rw [hK]; exact tk_srt _ _
      have HK := Lib.hid hK
      clear hR hK
      go_wp2_with fail
      go_at_call 13
      refine (hits_kb _ _ _ _ _ hkr.fst hsr (by omega)).mono ?_
      rintro e w5 ⟨A5, c5, rfl, hown5, hb5⟩
      have hk5 := hkr.below hb5
      have hb0 : Below w.heap.size w w5 := hbr.trans (hb5.mono hsr)
      have hs5 : Slc w5 w5.heap.size A5 (hc K) := slc_own hown5
      have z5 := hb0.size
      have h5 : Slc w5 w5.heap.size A (hc L) := (h.below hb0 hB).mono (by omega)
      have HWANT : Hid (max 0 (min k (L.length : Int)) = (K.length : Int)) := Lib.hid (by rw [HKL.out]; omega)
      have hlL : L.length ≤ 8796093022208 := by omega
      have hlK : K.length ≤ 8796093022208 := by omega
      have HSR := Lib.hid hKs
      clear hown5 hb5 hkr hbr hsr h hKs
      go_upto_region 18 with fail
      rw [HWANT.out]
      go_wp2_with fail
      go_at_call 17
      refine (sorted_any K A5 c5 w5.heap.size w5 (Nat.le_refl _) hs5 hlK HSR.out).mono ?_
      rintro e w6 ⟨rfl, hb6⟩
      go_wp2_with fail
      go_at_call 13
      refine (hits_kb _ _ _ _ _ (hk5.snd.below hb6) (Nat.le_trans z5 hb6.size) (by omega)).mono ?_
      rintro e w7 ⟨A7, c7, rfl, hown7, hb7⟩
      have b7 := bchain hb6 hb7
      have hs7 := slc_own hown7
      clear hb7 hb6 hown7
      go_wp2_with fail
      go_at_call 12
      refine (equal_eq K A5 A7 _ _ _ _ w7 hlK (hs5.below b7 (Nat.le_refl _)) hs7).mono ?_
      rintro e w8 ⟨rfl, hb8⟩
      have b8 := bchain b7 hb8
      clear hb8 b7 hs7
      go_wp2_with fail
      go_at_call 15
      refine (select_any L A c _ k w8 b8.size (h5.below b8 (Nat.le_refl _)) hn).mono ?_
      rw [← HK.out]
      rintro e w9 ⟨A9, c9, rfl, hown9, hb9⟩
      have b9 := bchain b8 hb9
      have hs9 := slc_own hown9
      clear hb9 hown9 b8
      go_wp2_with fail
      go_at_call 12
      refine (equal_eq K A5 A9 _ _ _ _ w9 hlK (hs5.below b9 (Nat.le_refl _)) hs9).mono ?_
      rintro e w10 ⟨rfl, hb10⟩
      have b10 := bchain b9 hb10
      clear hb10 b9 hs9
      by_cases hK0 : K.length = 0
      · have d0 : (K.length : Int) = 0 := by omega
        go_wp2_with fail
        go_ret
        exact ⟨rfl, hb0.trans (b10.mono z5)⟩
      · have d0 : ¬ (K.length : Int) = 0 := by omega
        have d0' : ((K.length : Int) == 0) = false := by simpa using hK0
        go_wp2_with fail
        go_loopw [101] (fun i wr => ∃ j : Nat, j ≤ L.length ∧ i = .int .i64 j ∧ Below w5.heap.size w5 wr) (fun i _ => L.length - (intOf i).toNat)
        case atStart => exact ⟨0, Nat.zero_le _, rfl, b10⟩
        case round =>
          clear b10
          obtain ⟨j, hj, rfl, hbr⟩ := hrel
          have hsr := hbr.size
          by_cases hlt : j < L.length
          · obtain ⟨⟨x1, x2⟩, hx⟩ : ∃ x, L[j]? = some x := ⟨_, List.getElem?_eq_getElem hlt⟩
            obtain ⟨g2, o2, rfl, hg2, a2⟩ := slc_at (h5.below hbr (Nat.le_refl _)) (by intro e; rw [e] at hlt; simp at hlt)
            obtain ⟨q0, q1⟩ := a2 j _ hx
            have HX := Lib.hid hx
            clear a2 hx
            obtain ⟨wa, hwa⟩ : ∃ wa, wa = wr.alloc (.cells #[.int .i64 x1, .int .u64 x2] 29) := ⟨_, rfl⟩
            have hba : Below wr.heap.size wr wa := by rw [hwa]; exact (Below.refl _ _).alloc (Nat.le_refl _) _
            have d0 : wa.cell? ⟨wr.heap.size, 0, none⟩ = some (.int .i64 x1) := by rw [hwa, World.cell?_alloc_mark]; rfl
            have d1 : wa.cell? ⟨wr.heap.size, 1, none⟩ = some (.int .u64 x2) := by rw [hwa, World.cell?_alloc_mark]; rfl
            have hsa : wa.heap.size = wr.heap.size + 1 := by rw [hwa]; simp
            have hbwa : Below w5.heap.size w5 wa := hbr.trans (hba.mono hsr)
            obtain ⟨kc, hkc⟩ : ∃ kc, kc = K.count (x1, x2) := ⟨_, rfl⟩
            obtain ⟨lc, hlc⟩ : ∃ lc, lc = L.count (x1, x2) := ⟨_, rfl⟩
            have hle : kc ≤ lc := by rw [hkc, hlc, HK.out]; exact count_tk _ _ _
            have C1 : ∀ b : Bw wa.heap.size wa, Calls Try.prog 19 #[.slice A5 K.length c5, .agg #[.int .i64 x1, .int .u64 x2]] b.at_ fun e w' => e = .returned (.int .i64 (kc : Int)) ∧ ∃ b' : Bw wa.heap.size wa, w' = b'.at_ := fun b => hkc ▸ calls_bw (Nat.le_refl _) (count_any K A5 c5 _ x1 x2 _ (Nat.le_trans hbwa.size b.below.size) ((hs5.below hbwa (Nat.le_refl _)).below b.below hbwa.size) hlK)
            have C2 : ∀ b : Bw wa.heap.size wa, Calls Try.prog 19 #[.slice (some ⟨g2, o2, none⟩) L.length c, .agg #[.int .i64 x1, .int .u64 x2]] b.at_ fun e w' => e = .returned (.int .i64 (lc : Int)) ∧ ∃ b' : Bw wa.heap.size wa, w' = b'.at_ := fun b => hlc ▸ calls_bw (Nat.le_refl _) (count_any L _ c _ x1 x2 _ (Nat.le_trans hbwa.size b.below.size) ((h5.below hbwa (Nat.le_refl _)).below b.below hbwa.size) hlL)
            have D0 := Bw.cell (B := wa.heap.size) d0 (by show wr.heap.size < _; omega)
            have D1 := Bw.cell (B := wa.heap.size) d1 (by show wr.heap.size < _; omega)
            have HWA := Lib.hid hwa
            clear hwa
            go_upto_region 25 with fail
            rw [← HWA.out]
            refine wp_region_bw wa.heap.size (by kernel_rfl) (by kernel_rfl) ?_
            repeat (go_big_quiet_step ((go_at_call 19; first | with_reducible exact C1 _ | with_reducible exact C2 _)))
            refine wpQuiet_nil ?_
            intro _ hw'
            obtain ⟨⟨wq, hbq⟩, hw''⟩ := hw'
            subst hw''
            rename_i wb
            go_upto_region 26 with fail
            have hbb := hbwa.trans (hbq.mono hbwa.size)
            have f0 := (hbq.cell (p := ⟨wr.heap.size, 0, none⟩) (by show wr.heap.size < _; omega)).trans d0
            have f1 := (hbq.cell (p := ⟨wr.heap.size, 1, none⟩) (by show wr.heap.size < _; omega)).trans d1
            have HKC := Lib.hid hkc
            have HLC := Lib.hid hlc
            clear hkc hlc d0 d1 D0 D1 C1 C2
            have g1 : decide ((lc : Int) < (kc : Int)) = false := by simpa using hle
            have g1' : decide (lc < kc) = false := by simpa using hle
            by_cases hc2 : kc < lc
            · have g2 : decide ((kc : Int) < (lc : Int)) = true := by simpa using hc2
              have g2' : decide (kc < lc) = true := by simpa using hc2
              obtain ⟨⟨r1, r2⟩, hr⟩ : ∃ x, K[K.length - 1]? = some x := ⟨_, List.getElem?_eq_getElem (by omega)⟩
              obtain ⟨g3, o3, rfl, hg3, a3⟩ := slc_at (hs5.below hbb (Nat.le_refl _)) (by intro e; rw [e] at hK0; simp at hK0)
              obtain ⟨p0', p1'⟩ := a3 _ _ hr
              have p0 : World.cell? _ ⟨g3, o3 + (K.length - 1) * 2, none⟩ = some (.int .i64 r1) := p0'
              have p1 : World.cell? _ ⟨g3, o3 + (K.length - 1) * 2 + 1, none⟩ = some (.int .u64 r2) := p1'
              have HB : Hid (btr (x1, x2) (r1, r2) = false) := Lib.hid (by
                have h1 := HK.out; have h2 := HKC.out; have h3 := HLC.out
                exact left_out (k := k.toNat) (L := L) (by rw [← h1, ← h2, ← h3]; exact hc2) (j := K.length - 1) (by rw [← h1]; exact hr))
              clear a3 hr p0' p1'
              have i1 : (0 : Int) ≤ (K.length : Int) - 1 := by omega
              have i2 : (K.length : Int) - 1 < (K.length : Int) := by omega
              have i3 : ((K.length : Int) - 1).toNat = K.length - 1 := by omega
              have i4 : IntKind.i64.wrap ((K.length : Int) - 1) = (K.length : Int) - 1 := IntWalk.i64_in _ (by omega)
              have D0 := Bw.cell f0 (Nat.lt_of_lt_of_le (by show wr.heap.size < _; omega) hbq.size)
              have D1 := Bw.cell f1 (Nat.lt_of_lt_of_le (by show wr.heap.size < _; omega) hbq.size)
              have P0 := Bw.cell p0 (Nat.lt_of_lt_of_le hg3 hbb.size)
              have P1 := Bw.cell p1 (Nat.lt_of_lt_of_le hg3 hbb.size)
              refine wp_region_bw wb.heap.size (by kernel_rfl) (by kernel_rfl) ?_
              repeat (go_big_quiet_step ((go_at_call 20; refine (calls_bw (v := .bool false) (Nat.le_refl _) ?_); refine (ahead_any _ _ _ _ _).mono ?_; rw [HB.out]; intro _ _ h; exact h)))
              refine wpQuiet_nil ?_
              intro _ hw'
              obtain ⟨⟨wq, hbq⟩, hw''⟩ := hw'
              subst hw''
              have hbf := hbb.trans (hbq.mono hbb.size)
              go_wp2_with fail
              go_roundw
              case rel => exact ⟨j + 1, by omega, by go_num, hbf⟩
              case measure => simp [intOf]; omega
            · have g2 : decide ((kc : Int) < (lc : Int)) = false := by simpa using hc2
              have g2' : decide (kc < lc) = false := by simpa using hc2
              go_quiet (fail)
              go_wp2_with fail
              go_roundw
              case rel => exact ⟨j + 1, by omega, by go_num, bdrewN hbb _⟩
              case measure => simp [intOf]; omega
          · obtain rfl : j = L.length := by omega
            go_wp2_with fail
            obtain ⟨wo, rfl⟩ : ∃ wo : World, wo = wr := ⟨_, rfl⟩
            go_loopw [131] (fun i wr => ∃ j : Nat, j ≤ K.length ∧ i = .int .i64 j ∧ Below w5.heap.size w5 wr) (fun i _ => K.length - (intOf i).toNat)
            case atStart => exact ⟨0, Nat.zero_le _, rfl, hbr⟩
            case round =>
              clear hbr hsr
              obtain ⟨j, hj, rfl, hbr⟩ := hrel
              have hsr := hbr.size
              by_cases hlt : j < K.length
              · obtain ⟨⟨x1, x2⟩, hx⟩ : ∃ x, K[j]? = some x := ⟨_, List.getElem?_eq_getElem hlt⟩
                obtain ⟨g2, o2, rfl, hg2, a2⟩ := slc_at (hs5.below hbr (Nat.le_refl _)) (by intro e; rw [e] at hlt; simp at hlt)
                obtain ⟨q0, q1⟩ := a2 j _ hx
                obtain ⟨lc, hlc⟩ : ∃ lc, lc = L.count (x1, x2) := ⟨_, rfl⟩
                have hlc0 : 0 < lc := by rw [hlc]; exact count_mem (k := k.toNat) (by rw [← HK.out]; exact List.mem_of_getElem? hx)
                have e0 : ¬ (lc : Int) = 0 := by omega
                have e0' : ¬ lc = 0 := by omega
                have HLC := Lib.hid hlc
                clear a2 hx hlc
                have hba : Below wr.heap.size wr (wr.alloc (.cells #[.int .i64 x1, .int .u64 x2] 29)) := (Below.refl _ _).alloc (Nat.le_refl _) _
                have hbwa : Below w5.heap.size w5 (wr.alloc (.cells #[.int .i64 x1, .int .u64 x2] 29)) := hbr.trans (hba.mono hsr)
                go_wp2_with (go_at_call 19; refine (count_any L A c _ x1 x2 _ hbwa.size (h5.below hbwa (Nat.le_refl _)) hlL).mono ?_; rw [← HLC.out]; rintro e wz ⟨rfl, hbz⟩)
                go_roundw
                case rel => exact ⟨j + 1, by omega, by go_num, hbwa.trans (hbz.mono hbwa.size)⟩
                case measure => simp [intOf]; omega
              · obtain rfl : j = K.length := by omega
                obtain ⟨⟨r1, r2⟩, hr⟩ : ∃ x, K[K.length - 1]? = some x := ⟨_, List.getElem?_eq_getElem (by omega)⟩
                obtain ⟨g3, o3, rfl, hg3, a3⟩ := slc_at (hs5.below hbr (Nat.le_refl _)) (by intro e; rw [e] at hK0; simp at hK0)
                obtain ⟨p0', p1'⟩ := a3 _ _ hr
                have hwst : worst K = ((r1, r2), true) := by unfold worst; rw [List.getLast?_eq_getElem?, hr]
                have HW := Lib.hid hwst
                obtain ⟨v, hv⟩ := (hk5.fst.below hbr)
                clear a3 hr hwst hk5
                go_wp2_with (go_at_call 21; refine (worst_any _ _ _ _ _ _ hv).mono ?_; rw [HW.out]; rintro e wz ⟨rfl, hbz⟩)
                obtain ⟨wf, hwf⟩ : ∃ wf, wf = wz.alloc (.cells #[.int .i64 r1, .int .u64 r2] 29) := ⟨_, rfl⟩
                have hbf : Below wz.heap.size wz wf := by rw [hwf]; exact (Below.refl _ _).alloc (Nat.le_refl _) _
                have hz := hbz.size
                have d0 : wf.cell? ⟨wz.heap.size, 0, none⟩ = some (.int .i64 r1) := by rw [hwf, World.cell?_alloc_mark]; rfl
                have d1 : wf.cell? ⟨wz.heap.size, 1, none⟩ = some (.int .u64 r2) := by rw [hwf, World.cell?_alloc_mark]; rfl
                have hbe := bchain hbz hbf
                have p0 : wf.cell? ⟨g3, o3 + (K.length - 1) * 2, none⟩ = some (.int .i64 r1) := (hbe.cell (p := ⟨g3, _, none⟩) (by show g3 < _; omega)).trans p0'
                have p1 : wf.cell? ⟨g3, o3 + (K.length - 1) * 2 + 1, none⟩ = some (.int .u64 r2) := (hbe.cell (p := ⟨g3, _, none⟩) (by show g3 < _; omega)).trans p1'
                have i1 : (0 : Int) ≤ (K.length : Int) - 1 := by omega
                have i2 : (K.length : Int) - 1 < (K.length : Int) := by omega
                have i3 : ((K.length : Int) - 1).toNat = K.length - 1 := by omega
                have i4 : IntKind.i64.wrap ((K.length : Int) - 1) = (K.length : Int) - 1 := IntWalk.i64_in _ (by omega)
                rw [← hwf]
                clear hwf p0' p1'
                go_quiet (fail)
                go_wp2_with fail
                go_ret
                exact ⟨rfl, bdrewN (hb0.trans ((hbr.trans (hbe.mono hsr)).mono z5)) _⟩
end Go.Proofs.Ytmddnilephneiaa.TopkBestWalk
