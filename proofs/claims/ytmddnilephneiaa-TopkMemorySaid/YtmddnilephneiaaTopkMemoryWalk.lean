/-
  The walk of TopkMemory.
-/
import Derived.Test.YtmddnilephneiaaMemBase
namespace Go.Proofs.Ytmddnilephneiaa.TopkMemoryWalk
open Go.RowKit Go.PlainAid HitPlain HeapPlain KeepPlain Base HitBase PushWalk OfferWalk KeepWalk TopkWalk Rows2 PairRows MemBase Fixed StepWalk SortedWalk

set_option maxRecDepth 100000 in
set_option maxHeartbeats 16000000 in
theorem walk (L : List Hit) (A : Option Addr) (c B : Nat) (h1 h2 k : Int) (w : World) (hB : B ≤ w.heap.size) (h : Slc w B A (hc L)) (hn : (L.length + 200) * 16 ≤ 140737488355328) :
    Calls Try.prog 8 #[.slice A L.length c, .agg #[.int .i64 h1, .int .u64 h2], .int .i64 k] w fun e w' => e = .returned (.bool true) ∧ Below w.heap.size w w' := by
  have hb0 : Below w.heap.size w (w.alloc (.cells #[.int .i64 h1, .int .u64 h2] 29)) := (Below.refl _ _).alloc (Nat.le_refl _) _
  have b0 : (w.alloc (.cells #[.int .i64 h1, .int .u64 h2] 29)).cell? ⟨w.heap.size, 0, none⟩ = some (.int .i64 h1) := by rw [World.cell?_alloc_mark]; rfl
  have b1 : (w.alloc (.cells #[.int .i64 h1, .int .u64 h2] 29)).cell? ⟨w.heap.size, 1, none⟩ = some (.int .u64 h2) := by rw [World.cell?_alloc_mark]; rfl
  have hs0 : (w.alloc (.cells #[.int .i64 h1, .int .u64 h2] 29)).heap.size = w.heap.size + 1 := by simp
  generalize hw0 : w.alloc (.cells #[.int .i64 h1, .int .u64 h2] 29) = w0 at hb0 b0 b1 hs0
  have HW0 := Lib.hid hw0
  have HS0 := Lib.hid hs0
  have hlw : w.heap.size < w0.heap.size := by omega
  have hl0 : Slc w0 B A (hc L) := h.below hb0 hB
  have C0 : Hid (∀ wx, Below (w.heap.size + 1) w0 wx → wx.cell? ⟨w.heap.size, 0, none⟩ = some (.int .i64 h1) ∧ wx.cell? ⟨w.heap.size, 1, none⟩ = some (.int .u64 h2)) :=
    Lib.hid fun wx hx => ⟨(hx.cell (p := ⟨w.heap.size, 0, none⟩) (by show w.heap.size < _; omega)).trans b0, (hx.cell (p := ⟨w.heap.size, 1, none⟩) (by show w.heap.size < _; omega)).trans b1⟩
  obtain ⟨W, hWd⟩ : ∃ W, W = w.heap.size + 1 := ⟨_, rfl⟩
  have hWw : w0.heap.size = W := by omega
  rw [← hWd] at C0
  have hBW : B ≤ W := by omega
  have HWW := Lib.hid hWw
  have hWlt : w.heap.size < W := by omega
  have HWD := Lib.hid hWd
  have HB0 := Lib.hid hb0
  clear hw0 hs0 hb0 b0 b1 hWw h hWd
  go_enter Try.func8, Try.ntmps8
  go_wp2_with fail
  rw [HW0.out]
  go_at_call 9
  refine (fixed_any _).mono ?_
  rintro e w1 ⟨rfl, hb1⟩
  rw [HWW.out] at hb1
  go_upto_region 4 with fail
  have hW1 := hb1.size
  rw [HWW.out] at hW1
  obtain ⟨w2, hw2⟩ : ∃ w2, w2 = w1.alloc (.cells #[.int .i64 (-71), .int .u64 3, .int .i64 (-72), .int .u64 4, .int .i64 (-73), .int .u64 9223372036854775808] 29) := ⟨_, rfl⟩
  have hb2 : Below w1.heap.size w1 w2 := by rw [hw2]; exact balloc (Below.refl _ _) _
  have hm2 : Slc w2 (w1.heap.size + 1) (some ⟨w1.heap.size, 0, none⟩) (hc marks) := by rw [hw2]; exact slc_new w1 _ _
  have hz2 : w2.heap.size = w1.heap.size + 1 := by rw [hw2]; simp
  have hW2 : W ≤ w2.heap.size := by omega
  have hbw2 : Below W w0 w2 := hb1.trans (hb2.mono hW1)
  have HW2 := Lib.hid hw2
  have HM2 := Lib.hid hm2
  clear hw2 hm2 hz2
  rw [← HW2.out]
  have f1 : L.length + 3 ≤ 8796093022208 := by omega
  go_wp2_with (refine wpList_make_elem (base := W) rfl _ _ rfl hitElem (L.length + 3) rfl rfl (by simp) (by omega) (by unfold maxLen; omega) hW2 ?_)
  intro w3 own3 hb3
  have hW3 := Nat.le_trans hW2 hb3.size
  have hbw3 : Below W w0 w3 := hbw2.trans (hb3.mono hW2)
  go_wp2_with (at_builtin; refine wpList_append_slc rfl _ _ rfl hitElem own3 rfl rfl (hc_len L) (hl0.below hbw3 hBW) (hc_one L) (by omega) (by unfold maxLen; omega) hW3 ?_)
  intro v4 w4 own4 hg4 _
  (try rw [Nat.zero_add] at own4)
  have hW4 := Nat.le_trans hW3 hg4.size
  have hbw4 : Below W w0 w4 := below_own hbw3 own3 hW3 hg4
  obtain ⟨A4, c4, rfl⟩ := own_slice own4
  have hm4 : Slc w4 (w1.heap.size + 1) (some ⟨w1.heap.size, 0, none⟩) (hc marks) := by
    have hlt : w1.heap.size < w2.heap.size := by
      obtain ⟨g, o, e1, _, hc⟩ := HM2.out (by simp [marks, hc, hitC])
      simp only [Option.some.injEq, Addr.mk.injEq] at e1
      obtain ⟨rfl, rfl, _⟩ := e1
      exact World.block_lt_of_cell? w2 _ (hc 0 _ rfl)
    intro hne
    obtain ⟨g, o, e1, hg, hc⟩ := (HM2.out.below hb3 (by omega)) hne
    have e2 := e1
    simp only [Option.some.injEq, Addr.mk.injEq] at e2
    refine ⟨g, o, e1, hg, fun j u hu => ?_⟩
    have hne3 : some g ≠ (Value.slice (some ⟨w2.heap.size, 0, none⟩) 0 (L.length + 3)).ownBlock := by simp [Value.ownBlock]; omega
    exact (World.cell?_of_block (hg4.block g (by have := hb3.size; omega) hne3)).trans (hc j u hu)
  go_wp2_with (at_builtin; refine wpList_append_slc (m := 3) rfl _ _ rfl hitElem own4 rfl rfl rfl hm4 (by intro u hu; simp [marks, hc, hitC] at hu; rcases hu with rfl | rfl | rfl | rfl | rfl | rfl <;> rfl) (by omega) (by unfold maxLen; omega) hW4 ?_)
  intro v5 w5 own5 hg5 _
  have hW5 := Nat.le_trans hW4 hg5.size
  have hbw5 : Below W w0 w5 := below_own hbw4 own4 hW4 hg5
  obtain ⟨A8, c8, rfl⟩ := own_slice own5
  have hb6 : Below w5.heap.size w5 (w5.alloc (.cells #[] 29)) := balloc (Below.refl _ _) _
  have hrow0 : (w5.alloc (.cells #[] 29)).ownsRow w5.heap.size 29 2 (.slice (some ⟨w5.heap.size, 0, none⟩) 0 0) 0 (hc []) := World.ownsRow_lit (e := 29) (size := 2) (base := w5.heap.size) w5 #[] 0 (Nat.le_refl _) (by decide) rfl
  have hsl6 : Slc (w5.alloc (.cells #[] 29)) w5.heap.size A8 (hc L ++ hc marks) := (slc_own own5).below hb6 (Nat.le_refl _)
  have hl6 : (hc L ++ hc marks).length = (L.length + 3) * 2 := own5.1
  go_wp2_with (at_builtin; refine wpList_append_slc rfl _ _ rfl hitElem hrow0 rfl rfl hl6 hsl6 (by rw [← hc_append]; exact hc_one _) (by omega) (by unfold maxLen; omega) hb6.size ?_)
  intro v9 w9 own9 hg9 _
  (try rw [Nat.zero_add] at own9)
  have own9' : w9.ownsRow w5.heap.size 29 2 v9 (L.length + 3) (hc L ++ hc marks) := own9
  have hb9 : Below w5.heap.size w5 w9 := below_own hb6 hrow0 hb6.size hg9
  obtain ⟨A9, c9, rfl⟩ := own_slice own9'
  have hc8 := own_cap own5
  have k1 : (0 : Int) ≤ (L.length : Int) := by omega
  have k2 : (L.length : Int) ≤ (c8 : Int) := by omega
  go_wp2_with fail
  go_at_call 10
  refine (new_any _ _).mono ?_
  rintro e w10 ⟨rfl, hq10, hb10, hlt10⟩
  have hW9 := Nat.le_trans hW5 hb9.size
  have hE : Env w10 W w9.heap.size k (.slice A8 (L.length + 3) c8) (.slice A9 (L.length + 3) c9) (.slice none 0 0) L (tk k.toNat []) := by
    have o8 := own_below own5 (bchain hb9 hb10)
    have o9 := own_below own9' hb10
    have hz9 := hb9.size
    have e1 : (Value.slice none 0 0).ownBlock = none := rfl
    refine ⟨o8, own_base o9 hW5, by rw [tk_nil]; exact keeps_base hq10 hW9, fun g e2 e3 => ?_, fun e2 => ?_, fun e2 => ?_, fun g _ e2 => ?_, fun g _ e2 => ?_⟩
    · have := (own5.lt g e2).2; have := (o9.lt g e3).1; omega
    · have := (own5.lt _ e2).2; omega
    · have := (own9'.lt _ e2).2; omega
    · rw [e1] at e2; cases e2
    · rw [e1] at e2; cases e2
  have hbw10 : Below W w0 w10 := (hbw5.trans (hb9.mono hW5)).trans (hb10.mono hW9)
  have hbt : W ≤ w9.heap.size := hW9
  obtain ⟨b, hbd⟩ : ∃ b, b = w9.heap.size := ⟨_, rfl⟩
  rw [← hbd] at hE hbt ⊢
  clear own3 own4 own5 own9 own9' hrow0 hsl6 hl6 hm4 hq10 hb10 hlt10 hg4 hg5 hg9 hb9 hb6 hW5 hW4 hW3 hW2 hb3 hb2 hb1 hW1 hbw2 hbw3 hbw4 hbw5 hbd hW9 HW2 HM2
  go_wp2_with fail
  go_loopw [56] (fun i wr => ∃ (j : Nat) (vb : Value), j ≤ L.length ∧ i = .int .i64 j ∧ Env wr W b k (.slice A8 (L.length + 3) c8) (.slice A9 (L.length + 3) c9) vb L (tk k.toNat (L.take j)) ∧ Below W w0 wr) (fun i _ => L.length - (intOf i).toNat)
  case atStart => exact ⟨0, _, Nat.zero_le _, rfl, hE, hbw10⟩
  case round =>
    obtain ⟨j, vb, hj, rfl, hEr, hbr⟩ := hrel
    clear hE hbw10
    have hsr := hbr.size
    rw [HWW.out] at hsr
    by_cases hlt : j < L.length
    · obtain ⟨⟨x1, x2⟩, hx⟩ : ∃ x, L[j]? = some x := ⟨_, List.getElem?_eq_getElem hlt⟩
      obtain ⟨g2, o2, rfl, hg2, a2⟩ := slc_at (hl0.below hbr hBW) (by intro e; rw [e] at hlt; simp at hlt)
      obtain ⟨q0, q1⟩ := a2 j _ hx
      have e1 : Hid (tk k.toNat (L.take (j + 1)) = (insS (x1, x2) (tk k.toNat (L.take j))).take k.toNat) := Lib.hid (by rw [take_snoc hx, tk_snoc])
      have l1 : (tk k.toNat (L.take j)).length ≤ j := by rw [tk_len, List.length_take]; omega
      clear a2 hx
      obtain ⟨wx, hwx⟩ : ∃ wx, wx = wr.alloc (.cells #[.int .i64 x1, .int .u64 x2] 29) := ⟨_, rfl⟩
      have hbx : Below wr.heap.size wr wx := by rw [hwx]; exact balloc (Below.refl _ _) _
      have hEx := Lib.hid (hEr.below hbx)
      have OO := Lib.hid (offer_any W b k vb _ x1 x2 wx hEx.out.kee (Nat.le_trans hsr hbx.size) (by omega))
      have hbwx : Below W w0 wx := hbr.trans (hbx.mono hsr)
      have HWX := Lib.hid hwx
      clear hEr hwx hbx
      go_wp2_with fail
      rw [← HWX.out]
      go_at_call 18
      refine OO.out.mono ?_
      rintro e w5 ⟨rfl, hoff⟩
      have HOF := Lib.hid hoff
      clear hoff q0 q1
      go_wp2_with fail
      go_roundw
      case rel =>
        obtain ⟨v', q1, q2, q3⟩ := HOF.out
        have hE2 := hEx.out
        have hlow := (Offered.kb hE2.kee (by have := hbwx.size; rw [HWW.out] at this; exact this) HOF.out).2
        have hlt8 := hE2.lt
        refine ⟨j + 1, v', by omega, by go_num, ?_, hbwx.trans hlow⟩
        rw [e1.out]
        have d8 : ∀ g, (Value.slice A8 (L.length + 3) c8).ownBlock = some g → v'.ownBlock ≠ some g := fun g e2 e3 => by
          rcases q3 with q | q
          · exact hE2.n8v g e2 (q ▸ e3)
          · have := q g e3; have := hlt8.1 g e2; omega
        have d9 : ∀ g, (Value.slice A9 (L.length + 3) c9).ownBlock = some g → v'.ownBlock ≠ some g := fun g e2 e3 => by
          rcases q3 with q | q
          · exact hE2.n9v g e2 (q ▸ e3)
          · have := q g e3; have := hlt8.2.1 g e2; omega
        exact ⟨q2.own hE2.inn fun g e2 => ⟨fun e3 => hE2.n8b (e3 ▸ e2), fun e3 => hE2.n8v g e2 e3⟩, q2.own hE2.who fun g e2 => ⟨fun e3 => hE2.n9b (e3 ▸ e2), fun e3 => hE2.n9v g e2 e3⟩, q1, hE2.n89, hE2.n8b, hE2.n9b, d8, d9⟩
      case measure => simp [intOf]; omega
    · obtain rfl : j = L.length := by omega
      rw [List.take_length] at hEr
      clear hlt hj
      obtain ⟨K, hKd⟩ : ∃ K, K = tk k.toNat L := ⟨_, rfl⟩
      obtain ⟨K2, hK2d⟩ : ∃ K2, K2 = tk k.toNat (behind (h1, h2) L) := ⟨_, rfl⟩
      have hKl : K.length ≤ L.length := by rw [hKd, tk_len]; omega
      have hK2l : K2.length ≤ L.length := by have := behind_le (h1, h2) L; rw [hK2d, tk_len]; omega
      have C1 : Hid (∀ wx, Below wr.heap.size wr wx → wx.cell? ⟨w.heap.size, 0, none⟩ = some (.int .i64 h1) ∧ wx.cell? ⟨w.heap.size, 1, none⟩ = some (.int .u64 h2)) := Lib.hid fun wx hx => C0.out wx (hbr.trans (hx.mono hsr))
      have hlr : Slc wr wr.heap.size A8 (hc L) := by
        have h9 := hEr.inn
        rw [← hc_append] at h9
        have := slc_take (slc_own h9) L.length
        rwa [List.take_left] at this
      have LL : Hid (∀ wx, Below wr.heap.size wr wx → Slc wx wr.heap.size A8 (hc L)) := Lib.hid fun wx hx => hlr.below hx (Nat.le_refl _)
      have SEL : Hid (∀ wx, Below wr.heap.size wr wx → Calls Try.prog 15 #[.slice A8 L.length c8, .int .i64 k] wx (Makes wx K)) := Lib.hid fun wx hx => hKd ▸ select_any L A8 c8 wr.heap.size k wx hx.size (LL.out wx hx) (by omega)
      have AFT : Hid (∀ wx, Below wr.heap.size wr wx → Calls Try.prog 23 #[.slice A8 L.length c8, .agg #[.int .i64 h1, .int .u64 h2], .int .i64 k] wx (Makes wx K2)) := Lib.hid fun wx hx => hK2d ▸ after_any L A8 c8 wr.heap.size h1 h2 k wx hx.size (LL.out wx hx) (by omega)
      have e1 : allHits [((A8, c8, L) : Lst)] = L := by simp [allHits]
      have e2 : allHits [((A8, c8, L) : Lst), (none, 0, [])] = L := by simp [allHits]
      have JN1 : Hid (∀ wx, Below wr.heap.size wr wx → ∀ g, Blk wx g 26 #[.slice A8 L.length c8] → Calls Try.prog 16 #[.slice (some ⟨g, 0, none⟩) 1 1, .int .i64 k] wx (Makes wx K)) := Lib.hid fun wx hx g hg => by
        have := join_any [(A8, c8, L)] (some ⟨g, 0, none⟩) 1 wx.heap.size k wx (Nat.le_refl _) ⟨fun _ => ⟨g, 0, rfl, hg.lt, fun j u hu => by rw [Nat.zero_add, hg.cell]; simpa [lv] using hu⟩, fun y hy => by
          have : y = (A8, c8, L) := by simpa using hy
          subst this
          exact (LL.out wx hx).mono hx.size⟩ (by simp) (by rw [e1]; omega)
        rwa [e1, ← hKd] at this
      have JN2 : Hid (∀ wx, Below wr.heap.size wr wx → ∀ g, Blk wx g 26 #[.slice A8 L.length c8, .slice none 0 0] → Calls Try.prog 16 #[.slice (some ⟨g, 0, none⟩) 2 2, .int .i64 k] wx (Makes wx K)) := Lib.hid fun wx hx g hg => by
        have := join_any [(A8, c8, L), (none, 0, [])] (some ⟨g, 0, none⟩) 2 wx.heap.size k wx (Nat.le_refl _) ⟨fun _ => ⟨g, 0, rfl, hg.lt, fun j u hu => by rw [Nat.zero_add, hg.cell]; simpa [lv] using hu⟩, fun y hy => by
          have : y = (A8, c8, L) ∨ y = (none, 0, []) := by simpa using hy
          rcases this with this | this
          · subst this; exact (LL.out wx hx).mono hx.size
          · subst this; exact Slc.nil _⟩ (by simp) (by rw [e2]; omega)
        rwa [e2, ← hKd] at this
      rw [← hKd] at hEr
      have HE := Lib.hid hEr
      have HIT : Hid (∀ wx, Below wr.heap.size wr wx → Calls Try.prog 13 #[.pointer (some ⟨b, 0, none⟩)] wx (Makes wx K)) := Lib.hid fun wx hx => hits_any W b k vb K wx (HE.out.below hx).kee (Nat.le_trans hsr hx.size) (by omega)
      have HKd := Lib.hid hKd
      have HK2d := Lib.hid hK2d
      clear hKd hK2d e1 e2 hEr hlr
      go_upto_region 15 with fail
      refine Relb.wp_region_relb (fun wx => Below wr.heap.size wr wx) (fun wa wb => Below wa.heap.size wa wb) (by kernel_rfl) (by kernel_rfl) (bdrew (Below.refl _ _)) (fun _ => Below.refl _ _) ?_
      apply Relb.relb_one [] [] (by kernel_rfl) (by kernel_rfl) (by kernel_rfl)
      case hs =>
        intro vs wx hx hf
        clear hf
        try simp only [Relb.putD, Act.put, List.setIfInBounds_toArray, List.set_cons_zero, List.set_cons_succ]
        intro KK hK
        go_simp
        exact hK _ _ hx (Below.refl _ _) rfl
      apply Relb.relb_one [] [] (by kernel_rfl) (by kernel_rfl) (by kernel_rfl)
      case hs =>
        intro vs wx hx hf
        clear hf
        try simp only [Relb.putD, Act.put, List.setIfInBounds_toArray, List.set_cons_zero, List.set_cons_succ]
        intro KK hK
        go_simp
        exact hK _ _ hx (Below.refl _ _) rfl
      apply Relb.relb_kind [(0, 64), (1, 65)] [] [0, 1] (OwnL wr.heap.size K) (by kernel_rfl) (by kernel_rfl) (by kernel_rfl) (by kernel_rfl) (ownL_stable)
      case hs =>
        intro vs wx hx hf
        have e64 : vs 0 = _ := hf 0 (by simp)
        have e65 : vs 1 = _ := hf 1 (by simp)
        clear hf
        have c0 := (C1.out wx hx).1
        have c1 := (C1.out wx hx).2
        try simp only [Relb.putD, e64, e65, Act.put, List.setIfInBounds_toArray, List.set_cons_zero, List.set_cons_succ]
        intro KK hK
        go_simp
        go_at_call 15
        refine (SEL.out wx hx).mono ?_
        rintro e wy ⟨A', c', rfl, own, hby⟩
        exact hK _ _ (bchain hx hby) hby ⟨A', c', rfl, own_base own hx.size, away_nil _⟩
      apply Relb.relb_one [] [] (by kernel_rfl) (by kernel_rfl) (by kernel_rfl)
      case hs =>
        intro vs wx hx hf
        clear hf
        try simp only [Relb.putD, Act.put, List.setIfInBounds_toArray, List.set_cons_zero, List.set_cons_succ]
        intro KK hK
        go_simp
        exact hK _ _ hx (Below.refl _ _) rfl
      apply Relb.relb_one [] [] (by kernel_rfl) (by kernel_rfl) (by kernel_rfl)
      case hs =>
        intro vs wx hx hf
        clear hf
        try simp only [Relb.putD, Act.put, List.setIfInBounds_toArray, List.set_cons_zero, List.set_cons_succ]
        intro KK hK
        go_simp
        exact hK _ _ hx (Below.refl _ _) rfl
      apply Relb.relb_kind [(3, 67), (4, 68)] [2] [2, 3, 4] (OwnL wr.heap.size K) (by kernel_rfl) (by kernel_rfl) (by kernel_rfl) (by kernel_rfl) (ownL_stable)
      case hs =>
        intro vs wx hx hf
        obtain ⟨A66, c66, e66, o66, w66⟩ := hf 2 (by simp)
        replace e66 : vs 2 = _ := e66
        have e67 : vs 3 = _ := hf 3 (by simp)
        have e68 : vs 4 = _ := hf 4 (by simp)
        clear hf
        have c0 := (C1.out wx hx).1
        have c1 := (C1.out wx hx).2
        try simp only [Relb.putD, e66, e67, e68, Act.put, List.setIfInBounds_toArray, List.set_cons_zero, List.set_cons_succ]
        intro KK hK
        go_simp
        go_at_call 15
        refine (SEL.out wx hx).mono ?_
        rintro e wy ⟨A', c', rfl, own, hby⟩
        exact hK _ _ (bchain hx hby) hby ⟨A', c', rfl, own_base own hx.size, away_cons o66 own (away_nil _)⟩
      apply Relb.relb_one [] [] (by kernel_rfl) (by kernel_rfl) (by kernel_rfl)
      case hs =>
        intro vs wx hx hf
        clear hf
        try simp only [Relb.putD, Act.put, List.setIfInBounds_toArray, List.set_cons_zero, List.set_cons_succ]
        intro KK hK
        go_simp
        exact hK _ _ hx (Below.refl _ _) rfl
      apply Relb.relb_one [] [] (by kernel_rfl) (by kernel_rfl) (by kernel_rfl)
      case hs =>
        intro vs wx hx hf
        clear hf
        have c0 := (C1.out wx hx).1
        have c1 := (C1.out wx hx).2
        try simp only [Relb.putD, Act.put, List.setIfInBounds_toArray, List.set_cons_zero, List.set_cons_succ]
        intro KK hK
        go_simp
        exact hK _ _ hx (Below.refl _ _) rfl
      apply Relb.relb_one [] [] (by kernel_rfl) (by kernel_rfl) (by kernel_rfl)
      case hs =>
        intro vs wx hx hf
        clear hf
        try simp only [Relb.putD, Act.put, List.setIfInBounds_toArray, List.set_cons_zero, List.set_cons_succ]
        intro KK hK
        go_simp
        exact hK _ _ hx (Below.refl _ _) rfl
      apply Relb.relb_kind [(6, 70), (7, 71), (8, 72)] [2, 5] [2, 5, 6, 7, 8] (OwnL wr.heap.size K2) (by kernel_rfl) (by kernel_rfl) (by kernel_rfl) (by kernel_rfl) (ownL_stable)
      case hs =>
        intro vs wx hx hf
        obtain ⟨A66, c66, e66, o66, w66⟩ := hf 2 (by simp)
        replace e66 : vs 2 = _ := e66
        obtain ⟨A69, c69, e69, o69, w69⟩ := hf 5 (by simp)
        replace e69 : vs 5 = _ := e69
        have e70 : vs 6 = _ := hf 6 (by simp)
        have e71 : vs 7 = _ := hf 7 (by simp)
        have e72 : vs 8 = _ := hf 8 (by simp)
        clear hf
        have c0 := (C1.out wx hx).1
        have c1 := (C1.out wx hx).2
        try simp only [Relb.putD, e66, e69, e70, e71, e72, Act.put, List.setIfInBounds_toArray, List.set_cons_zero, List.set_cons_succ]
        intro KK hK
        go_simp
        go_at_call 23
        refine (AFT.out wx hx).mono ?_
        rintro e wy ⟨A', c', rfl, own, hby⟩
        exact hK _ _ (bchain hx hby) hby ⟨A', c', rfl, own_base own hx.size, away_cons o66 own (away_cons o69 own (away_nil _))⟩
      apply Relb.relb_one [] [] (by kernel_rfl) (by kernel_rfl) (by kernel_rfl)
      case hs =>
        intro vs wx hx hf
        clear hf
        try simp only [Relb.putD, Act.put, List.setIfInBounds_toArray, List.set_cons_zero, List.set_cons_succ]
        intro KK hK
        go_simp
        exact hK _ _ hx (Below.refl _ _) rfl
      apply Relb.relb_one [] [] (by kernel_rfl) (by kernel_rfl) (by kernel_rfl)
      case hs =>
        intro vs wx hx hf
        clear hf
        have c0 := (C1.out wx hx).1
        have c1 := (C1.out wx hx).2
        try simp only [Relb.putD, Act.put, List.setIfInBounds_toArray, List.set_cons_zero, List.set_cons_succ]
        intro KK hK
        go_simp
        exact hK _ _ hx (Below.refl _ _) rfl
      apply Relb.relb_one [] [] (by kernel_rfl) (by kernel_rfl) (by kernel_rfl)
      case hs =>
        intro vs wx hx hf
        clear hf
        try simp only [Relb.putD, Act.put, List.setIfInBounds_toArray, List.set_cons_zero, List.set_cons_succ]
        intro KK hK
        go_simp
        exact hK _ _ hx (Below.refl _ _) rfl
      apply Relb.relb_kind [(10, 74), (11, 75), (12, 76)] [2, 5, 9] [2, 5, 9, 10, 11, 12] (OwnL wr.heap.size K2) (by kernel_rfl) (by kernel_rfl) (by kernel_rfl) (by kernel_rfl) (ownL_stable)
      case hs =>
        intro vs wx hx hf
        obtain ⟨A66, c66, e66, o66, w66⟩ := hf 2 (by simp)
        replace e66 : vs 2 = _ := e66
        obtain ⟨A69, c69, e69, o69, w69⟩ := hf 5 (by simp)
        replace e69 : vs 5 = _ := e69
        obtain ⟨A73, c73, e73, o73, w73⟩ := hf 9 (by simp)
        replace e73 : vs 9 = _ := e73
        have e74 : vs 10 = _ := hf 10 (by simp)
        have e75 : vs 11 = _ := hf 11 (by simp)
        have e76 : vs 12 = _ := hf 12 (by simp)
        clear hf
        have c0 := (C1.out wx hx).1
        have c1 := (C1.out wx hx).2
        try simp only [Relb.putD, e66, e69, e73, e74, e75, e76, Act.put, List.setIfInBounds_toArray, List.set_cons_zero, List.set_cons_succ]
        intro KK hK
        go_simp
        go_at_call 23
        refine (AFT.out wx hx).mono ?_
        rintro e wy ⟨A', c', rfl, own, hby⟩
        exact hK _ _ (bchain hx hby) hby ⟨A', c', rfl, own_base own hx.size, away_cons o66 own (away_cons o69 own (away_cons o73 own (away_nil _)))⟩
      apply Relb.relb_one [] [] (by kernel_rfl) (by kernel_rfl) (by kernel_rfl)
      case hs =>
        intro vs wx hx hf
        clear hf
        try simp only [Relb.putD, Act.put, List.setIfInBounds_toArray, List.set_cons_zero, List.set_cons_succ]
        intro KK hK
        go_simp
        exact hK _ _ hx (Below.refl _ _) rfl
      apply Relb.relb_kind [(14, 78)] [] [14] (BlkV #[.slice A8 L.length c8]) (by kernel_rfl) (by kernel_rfl) (by kernel_rfl) (by kernel_rfl) (blkV_stable)
      case hs =>
        intro vs wx hx hf
        have e78 : vs 14 = _ := hf 14 (by simp)
        clear hf
        try simp only [Relb.putD, e78, Act.put, List.setIfInBounds_toArray, List.set_cons_zero, List.set_cons_succ]
        intro KK hK
        go_simp
        exact hK _ _ (balloc hx _) (balloc (Below.refl _ _) _) ⟨wx.heap.size, rfl, Blk.new _ _ _⟩
      apply Relb.relb_one [] [] (by kernel_rfl) (by kernel_rfl) (by kernel_rfl)
      case hs =>
        intro vs wx hx hf
        clear hf
        try simp only [Relb.putD, Act.put, List.setIfInBounds_toArray, List.set_cons_zero, List.set_cons_succ]
        intro KK hK
        go_simp
        exact hK _ _ hx (Below.refl _ _) rfl
      apply Relb.relb_kind [(15, 79), (16, 80)] [2, 5, 9, 13] [2, 5, 9, 13, 15, 16] (OwnL wr.heap.size K) (by kernel_rfl) (by kernel_rfl) (by kernel_rfl) (by kernel_rfl) (ownL_stable)
      case hs =>
        intro vs wx hx hf
        obtain ⟨A66, c66, e66, o66, w66⟩ := hf 2 (by simp)
        replace e66 : vs 2 = _ := e66
        obtain ⟨A69, c69, e69, o69, w69⟩ := hf 5 (by simp)
        replace e69 : vs 5 = _ := e69
        obtain ⟨A73, c73, e73, o73, w73⟩ := hf 9 (by simp)
        replace e73 : vs 9 = _ := e73
        obtain ⟨A77, c77, e77, o77, w77⟩ := hf 13 (by simp)
        replace e77 : vs 13 = _ := e77
        obtain ⟨g79, e79, k79⟩ := hf 15 (by simp)
        replace e79 : vs 15 = _ := e79
        have e80 : vs 16 = _ := hf 16 (by simp)
        clear hf
        have c0 := (C1.out wx hx).1
        have c1 := (C1.out wx hx).2
        try simp only [Relb.putD, e66, e69, e73, e77, e79, e80, Act.put, List.setIfInBounds_toArray, List.set_cons_zero, List.set_cons_succ]
        intro KK hK
        go_simp
        go_at_call 16
        refine (JN1.out wx hx g79 k79).mono ?_
        rintro e wy ⟨A', c', rfl, own, hby⟩
        exact hK _ _ (bchain hx hby) hby ⟨A', c', rfl, own_base own hx.size, away_cons o66 own (away_cons o69 own (away_cons o73 own (away_cons o77 own (away_nil _))))⟩
      apply Relb.relb_one [] [] (by kernel_rfl) (by kernel_rfl) (by kernel_rfl)
      case hs =>
        intro vs wx hx hf
        clear hf
        try simp only [Relb.putD, Act.put, List.setIfInBounds_toArray, List.set_cons_zero, List.set_cons_succ]
        intro KK hK
        go_simp
        exact hK _ _ hx (Below.refl _ _) rfl
      apply Relb.relb_kind [(18, 82)] [] [18] (BlkV #[.slice A8 L.length c8, .slice none 0 0]) (by kernel_rfl) (by kernel_rfl) (by kernel_rfl) (by kernel_rfl) (blkV_stable)
      case hs =>
        intro vs wx hx hf
        have e82 : vs 18 = _ := hf 18 (by simp)
        clear hf
        try simp only [Relb.putD, e82, Act.put, List.setIfInBounds_toArray, List.set_cons_zero, List.set_cons_succ]
        intro KK hK
        go_simp
        exact hK _ _ (balloc hx _) (balloc (Below.refl _ _) _) ⟨wx.heap.size, rfl, Blk.new _ _ _⟩
      apply Relb.relb_one [] [] (by kernel_rfl) (by kernel_rfl) (by kernel_rfl)
      case hs =>
        intro vs wx hx hf
        clear hf
        try simp only [Relb.putD, Act.put, List.setIfInBounds_toArray, List.set_cons_zero, List.set_cons_succ]
        intro KK hK
        go_simp
        exact hK _ _ hx (Below.refl _ _) rfl
      apply Relb.relb_kind [(19, 83), (20, 84)] [2, 5, 9, 13, 17] [2, 5, 9, 13, 17, 19, 20] (OwnL wr.heap.size K) (by kernel_rfl) (by kernel_rfl) (by kernel_rfl) (by kernel_rfl) (ownL_stable)
      case hs =>
        intro vs wx hx hf
        obtain ⟨A66, c66, e66, o66, w66⟩ := hf 2 (by simp)
        replace e66 : vs 2 = _ := e66
        obtain ⟨A69, c69, e69, o69, w69⟩ := hf 5 (by simp)
        replace e69 : vs 5 = _ := e69
        obtain ⟨A73, c73, e73, o73, w73⟩ := hf 9 (by simp)
        replace e73 : vs 9 = _ := e73
        obtain ⟨A77, c77, e77, o77, w77⟩ := hf 13 (by simp)
        replace e77 : vs 13 = _ := e77
        obtain ⟨A81, c81, e81, o81, w81⟩ := hf 17 (by simp)
        replace e81 : vs 17 = _ := e81
        obtain ⟨g83, e83, k83⟩ := hf 19 (by simp)
        replace e83 : vs 19 = _ := e83
        have e84 : vs 20 = _ := hf 20 (by simp)
        clear hf
        have c0 := (C1.out wx hx).1
        have c1 := (C1.out wx hx).2
        try simp only [Relb.putD, e66, e69, e73, e77, e81, e83, e84, Act.put, List.setIfInBounds_toArray, List.set_cons_zero, List.set_cons_succ]
        intro KK hK
        go_simp
        go_at_call 16
        refine (JN2.out wx hx g83 k83).mono ?_
        rintro e wy ⟨A', c', rfl, own, hby⟩
        exact hK _ _ (bchain hx hby) hby ⟨A', c', rfl, own_base own hx.size, away_cons o66 own (away_cons o69 own (away_cons o73 own (away_cons o77 own (away_cons o81 own (away_nil _)))))⟩
      apply Relb.relb_one [] [] (by kernel_rfl) (by kernel_rfl) (by kernel_rfl)
      case hs =>
        intro vs wx hx hf
        clear hf
        try simp only [Relb.putD, Act.put, List.setIfInBounds_toArray, List.set_cons_zero, List.set_cons_succ]
        intro KK hK
        go_simp
        exact hK _ _ hx (Below.refl _ _) rfl
      apply Relb.relb_kind [(22, 86)] [2, 5, 9, 13, 17, 21] [2, 5, 9, 13, 17, 21, 22] (OwnL wr.heap.size K) (by kernel_rfl) (by kernel_rfl) (by kernel_rfl) (by kernel_rfl) (ownL_stable)
      case hs =>
        intro vs wx hx hf
        obtain ⟨A66, c66, e66, o66, w66⟩ := hf 2 (by simp)
        replace e66 : vs 2 = _ := e66
        obtain ⟨A69, c69, e69, o69, w69⟩ := hf 5 (by simp)
        replace e69 : vs 5 = _ := e69
        obtain ⟨A73, c73, e73, o73, w73⟩ := hf 9 (by simp)
        replace e73 : vs 9 = _ := e73
        obtain ⟨A77, c77, e77, o77, w77⟩ := hf 13 (by simp)
        replace e77 : vs 13 = _ := e77
        obtain ⟨A81, c81, e81, o81, w81⟩ := hf 17 (by simp)
        replace e81 : vs 17 = _ := e81
        obtain ⟨A85, c85, e85, o85, w85⟩ := hf 21 (by simp)
        replace e85 : vs 21 = _ := e85
        have e86 : vs 22 = _ := hf 22 (by simp)
        clear hf
        have c0 := (C1.out wx hx).1
        have c1 := (C1.out wx hx).2
        try simp only [Relb.putD, e66, e69, e73, e77, e81, e85, e86, Act.put, List.setIfInBounds_toArray, List.set_cons_zero, List.set_cons_succ]
        intro KK hK
        go_simp
        go_at_call 13
        refine (HIT.out wx hx).mono ?_
        rintro e wy ⟨A', c', rfl, own, hby⟩
        exact hK _ _ (bchain hx hby) hby ⟨A', c', rfl, own_base own hx.size, away_cons o66 own (away_cons o69 own (away_cons o73 own (away_cons o77 own (away_cons o81 own (away_cons o85 own (away_nil _))))))⟩
      apply Relb.relb_one [] [] (by kernel_rfl) (by kernel_rfl) (by kernel_rfl)
      case hs =>
        intro vs wx hx hf
        clear hf
        try simp only [Relb.putD, Act.put, List.setIfInBounds_toArray, List.set_cons_zero, List.set_cons_succ]
        intro KK hK
        go_simp
        exact hK _ _ hx (Below.refl _ _) rfl
      apply Relb.relb_kind [(24, 88)] [2, 5, 9, 13, 17, 21, 23] [2, 5, 9, 13, 17, 21, 23, 24] (OwnL wr.heap.size K) (by kernel_rfl) (by kernel_rfl) (by kernel_rfl) (by kernel_rfl) (ownL_stable)
      case hs =>
        intro vs wx hx hf
        obtain ⟨A66, c66, e66, o66, w66⟩ := hf 2 (by simp)
        replace e66 : vs 2 = _ := e66
        obtain ⟨A69, c69, e69, o69, w69⟩ := hf 5 (by simp)
        replace e69 : vs 5 = _ := e69
        obtain ⟨A73, c73, e73, o73, w73⟩ := hf 9 (by simp)
        replace e73 : vs 9 = _ := e73
        obtain ⟨A77, c77, e77, o77, w77⟩ := hf 13 (by simp)
        replace e77 : vs 13 = _ := e77
        obtain ⟨A81, c81, e81, o81, w81⟩ := hf 17 (by simp)
        replace e81 : vs 17 = _ := e81
        obtain ⟨A85, c85, e85, o85, w85⟩ := hf 21 (by simp)
        replace e85 : vs 21 = _ := e85
        obtain ⟨A87, c87, e87, o87, w87⟩ := hf 23 (by simp)
        replace e87 : vs 23 = _ := e87
        have e88 : vs 24 = _ := hf 24 (by simp)
        clear hf
        have c0 := (C1.out wx hx).1
        have c1 := (C1.out wx hx).2
        try simp only [Relb.putD, e66, e69, e73, e77, e81, e85, e87, e88, Act.put, List.setIfInBounds_toArray, List.set_cons_zero, List.set_cons_succ]
        intro KK hK
        go_simp
        go_at_call 13
        refine (HIT.out wx hx).mono ?_
        rintro e wy ⟨A', c', rfl, own, hby⟩
        exact hK _ _ (bchain hx hby) hby ⟨A', c', rfl, own_base own hx.size, away_cons o66 own (away_cons o69 own (away_cons o73 own (away_cons o77 own (away_cons o81 own (away_cons o85 own (away_cons o87 own (away_nil _)))))))⟩
      apply Relb.relb_one [] [] (by kernel_rfl) (by kernel_rfl) (by kernel_rfl)
      case hs =>
        intro vs wx hx hf
        clear hf
        try simp only [Relb.putD, Act.put, List.setIfInBounds_toArray, List.set_cons_zero, List.set_cons_succ]
        intro KK hK
        go_simp
        exact hK _ _ hx (Below.refl _ _) rfl
      apply Relb.relb_one [] [] (by kernel_rfl) (by kernel_rfl) (by kernel_rfl)
      case hs =>
        intro vs wx hx hf
        clear hf
        try simp only [Relb.putD, Act.put, List.setIfInBounds_toArray, List.set_cons_zero, List.set_cons_succ]
        intro KK hK
        go_simp
        exact hK _ _ hx (Below.refl _ _) rfl
      apply Relb.relb_kind [(26, 90), (27, 91)] [2, 5, 9, 13, 17, 21, 23, 25] [2, 5, 9, 13, 17, 21, 23, 25, 26, 27] (OwnL wr.heap.size K) (by kernel_rfl) (by kernel_rfl) (by kernel_rfl) (by kernel_rfl) (ownL_stable)
      case hs =>
        intro vs wx hx hf
        obtain ⟨A66, c66, e66, o66, w66⟩ := hf 2 (by simp)
        replace e66 : vs 2 = _ := e66
        obtain ⟨A69, c69, e69, o69, w69⟩ := hf 5 (by simp)
        replace e69 : vs 5 = _ := e69
        obtain ⟨A73, c73, e73, o73, w73⟩ := hf 9 (by simp)
        replace e73 : vs 9 = _ := e73
        obtain ⟨A77, c77, e77, o77, w77⟩ := hf 13 (by simp)
        replace e77 : vs 13 = _ := e77
        obtain ⟨A81, c81, e81, o81, w81⟩ := hf 17 (by simp)
        replace e81 : vs 17 = _ := e81
        obtain ⟨A85, c85, e85, o85, w85⟩ := hf 21 (by simp)
        replace e85 : vs 21 = _ := e85
        obtain ⟨A87, c87, e87, o87, w87⟩ := hf 23 (by simp)
        replace e87 : vs 23 = _ := e87
        obtain ⟨A89, c89, e89, o89, w89⟩ := hf 25 (by simp)
        replace e89 : vs 25 = _ := e89
        have e90 : vs 26 = _ := hf 26 (by simp)
        have e91 : vs 27 = _ := hf 27 (by simp)
        clear hf
        have c0 := (C1.out wx hx).1
        have c1 := (C1.out wx hx).2
        try simp only [Relb.putD, e66, e69, e73, e77, e81, e85, e87, e89, e90, e91, Act.put, List.setIfInBounds_toArray, List.set_cons_zero, List.set_cons_succ]
        intro KK hK
        go_simp
        go_at_call 15
        refine (SEL.out wx hx).mono ?_
        rintro e wy ⟨A', c', rfl, own, hby⟩
        exact hK _ _ (bchain hx hby) hby ⟨A', c', rfl, own_base own hx.size, away_cons o66 own (away_cons o69 own (away_cons o73 own (away_cons o77 own (away_cons o81 own (away_cons o85 own (away_cons o87 own (away_cons o89 own (away_nil _))))))))⟩
      apply Relb.relb_kind [(2, 66), (5, 69), (9, 73), (13, 77), (17, 81), (21, 85), (23, 87), (25, 89), (28, 92)] [2, 5, 9, 13, 17, 21, 23, 25, 28] [2, 5, 9, 13, 17, 21, 23, 25, 28] (RowV wr.heap.size) (by kernel_rfl) (by kernel_rfl) (by kernel_rfl) (by kernel_rfl) (rowV_stable)
      case hs =>
        intro vs wx hx hf
        obtain ⟨A66, c66, e66, o66, w66⟩ := hf 2 (by simp)
        replace e66 : vs 2 = _ := e66
        obtain ⟨A69, c69, e69, o69, w69⟩ := hf 5 (by simp)
        replace e69 : vs 5 = _ := e69
        obtain ⟨A73, c73, e73, o73, w73⟩ := hf 9 (by simp)
        replace e73 : vs 9 = _ := e73
        obtain ⟨A77, c77, e77, o77, w77⟩ := hf 13 (by simp)
        replace e77 : vs 13 = _ := e77
        obtain ⟨A81, c81, e81, o81, w81⟩ := hf 17 (by simp)
        replace e81 : vs 17 = _ := e81
        obtain ⟨A85, c85, e85, o85, w85⟩ := hf 21 (by simp)
        replace e85 : vs 21 = _ := e85
        obtain ⟨A87, c87, e87, o87, w87⟩ := hf 23 (by simp)
        replace e87 : vs 23 = _ := e87
        obtain ⟨A89, c89, e89, o89, w89⟩ := hf 25 (by simp)
        replace e89 : vs 25 = _ := e89
        obtain ⟨A92, c92, e92, o92, w92⟩ := hf 28 (by simp)
        replace e92 : vs 28 = _ := e92
        clear hf
        try simp only [Relb.putD, e66, e69, e73, e77, e81, e85, e87, e89, e92, Act.put, List.setIfInBounds_toArray, List.set_cons_zero, List.set_cons_succ]
        intro KK hK
        go_simp
        exact hK _ _ (balloc hx _) (balloc (Below.refl _ _) _) ⟨wx.heap.size, rfl, by simp only [List.map, e66, e69, e73, e77, e81, e85, e87, e89, e92]; exact Blk.new _ _ _, hx.size, by intro u hu e0; simp only [List.map, List.mem_cons, List.not_mem_nil, or_false] at hu; rcases hu with rfl | rfl | rfl | rfl | rfl | rfl | rfl | rfl | rfl; exact absurd (o66.lt _ e0).2 (Nat.lt_irrefl _); exact absurd (o69.lt _ e0).2 (Nat.lt_irrefl _); exact absurd (o73.lt _ e0).2 (Nat.lt_irrefl _); exact absurd (o77.lt _ e0).2 (Nat.lt_irrefl _); exact absurd (o81.lt _ e0).2 (Nat.lt_irrefl _); exact absurd (o85.lt _ e0).2 (Nat.lt_irrefl _); exact absurd (o87.lt _ e0).2 (Nat.lt_irrefl _); exact absurd (o89.lt _ e0).2 (Nat.lt_irrefl _); exact absurd (o92.lt _ e0).2 (Nat.lt_irrefl _)⟩
      apply Relb.relb_kind [(29, 93)] [2, 5, 9, 13, 17, 21, 23, 25, 28] [2, 5, 9, 13, 17, 21, 23, 25, 28, 29] (RowV wr.heap.size) (by kernel_rfl) (by kernel_rfl) (by kernel_rfl) (by kernel_rfl) (rowV_stable)
      case hs =>
        intro vs wx hx hf
        obtain ⟨A66, c66, e66, o66, w66⟩ := hf 2 (by simp)
        replace e66 : vs 2 = _ := e66
        obtain ⟨A69, c69, e69, o69, w69⟩ := hf 5 (by simp)
        replace e69 : vs 5 = _ := e69
        obtain ⟨A73, c73, e73, o73, w73⟩ := hf 9 (by simp)
        replace e73 : vs 9 = _ := e73
        obtain ⟨A77, c77, e77, o77, w77⟩ := hf 13 (by simp)
        replace e77 : vs 13 = _ := e77
        obtain ⟨A81, c81, e81, o81, w81⟩ := hf 17 (by simp)
        replace e81 : vs 17 = _ := e81
        obtain ⟨A85, c85, e85, o85, w85⟩ := hf 21 (by simp)
        replace e85 : vs 21 = _ := e85
        obtain ⟨A87, c87, e87, o87, w87⟩ := hf 23 (by simp)
        replace e87 : vs 23 = _ := e87
        obtain ⟨A89, c89, e89, o89, w89⟩ := hf 25 (by simp)
        replace e89 : vs 25 = _ := e89
        obtain ⟨A92, c92, e92, o92, w92⟩ := hf 28 (by simp)
        replace e92 : vs 28 = _ := e92
        obtain ⟨g93, e93, k93, b93, d93⟩ := hf 29 (by simp)
        replace e93 : vs 29 = _ := e93
        clear hf
        try simp only [Relb.putD, e66, e69, e73, e77, e81, e85, e87, e89, e92, e93, Act.put, List.setIfInBounds_toArray, List.set_cons_zero, List.set_cons_succ]
        intro KK hK
        go_simp
        exact hK _ _ hx (Below.refl _ _) ⟨g93, rfl, k93, b93, d93⟩
      refine Relb.relb_end [(0, 64), (1, 65), (2, 66), (3, 67), (4, 68), (5, 69), (6, 70), (7, 71), (8, 72), (9, 73), (10, 74), (11, 75), (12, 76), (13, 77), (14, 78), (15, 79), (16, 80), (17, 81), (18, 82), (19, 83), (20, 84), (21, 85), (22, 86), (23, 87), (24, 88), (25, 89), (26, 90), (27, 91), (28, 92), (29, 93), (30, 14)] (by kernel_rfl) (by kernel_rfl) ?_
      intro vs wx hx hf
      have e64 : vs 0 = _ := hf 0 (by decide)
      have e65 : vs 1 = _ := hf 1 (by decide)
      obtain ⟨A66, c66, e66, o66, w66⟩ := hf 2 (by decide)
      replace e66 : vs 2 = _ := e66
      have e67 : vs 3 = _ := hf 3 (by decide)
      have e68 : vs 4 = _ := hf 4 (by decide)
      obtain ⟨A69, c69, e69, o69, w69⟩ := hf 5 (by decide)
      replace e69 : vs 5 = _ := e69
      have e70 : vs 6 = _ := hf 6 (by decide)
      have e71 : vs 7 = _ := hf 7 (by decide)
      have e72 : vs 8 = _ := hf 8 (by decide)
      obtain ⟨A73, c73, e73, o73, w73⟩ := hf 9 (by decide)
      replace e73 : vs 9 = _ := e73
      have e74 : vs 10 = _ := hf 10 (by decide)
      have e75 : vs 11 = _ := hf 11 (by decide)
      have e76 : vs 12 = _ := hf 12 (by decide)
      obtain ⟨A77, c77, e77, o77, w77⟩ := hf 13 (by decide)
      replace e77 : vs 13 = _ := e77
      have e78 : vs 14 = _ := hf 14 (by decide)
      obtain ⟨g79, e79, k79⟩ := hf 15 (by decide)
      replace e79 : vs 15 = _ := e79
      have e80 : vs 16 = _ := hf 16 (by decide)
      obtain ⟨A81, c81, e81, o81, w81⟩ := hf 17 (by decide)
      replace e81 : vs 17 = _ := e81
      have e82 : vs 18 = _ := hf 18 (by decide)
      obtain ⟨g83, e83, k83⟩ := hf 19 (by decide)
      replace e83 : vs 19 = _ := e83
      have e84 : vs 20 = _ := hf 20 (by decide)
      obtain ⟨A85, c85, e85, o85, w85⟩ := hf 21 (by decide)
      replace e85 : vs 21 = _ := e85
      have e86 : vs 22 = _ := hf 22 (by decide)
      obtain ⟨A87, c87, e87, o87, w87⟩ := hf 23 (by decide)
      replace e87 : vs 23 = _ := e87
      have e88 : vs 24 = _ := hf 24 (by decide)
      obtain ⟨A89, c89, e89, o89, w89⟩ := hf 25 (by decide)
      replace e89 : vs 25 = _ := e89
      have e90 : vs 26 = _ := hf 26 (by decide)
      have e91 : vs 27 = _ := hf 27 (by decide)
      obtain ⟨A92, c92, e92, o92, w92⟩ := hf 28 (by decide)
      replace e92 : vs 28 = _ := e92
      obtain ⟨g93, e93, k93, b93, d93⟩ := hf 29 (by decide)
      replace e93 : vs 29 = _ := e93
      obtain ⟨g14, e14, k14, b14, d14⟩ := hf 30 (by decide)
      replace e14 : vs 30 = _ := e14
      clear hf
      simp only [Relb.putD, e64, e65, e66, e67, e68, e69, e70, e71, e72, e73, e74, e75, e76, e77, e78, e79, e80, e81, e82, e83, e84, e85, e86, e87, e88, e89, e90, e91, e92, e93, e14, Act.put, List.setIfInBounds_toArray, List.set_cons_zero, List.set_cons_succ]
      rw [e66] at o66
      rw [e69] at o69
      rw [e73] at o73
      rw [e77] at o77
      rw [e81] at o81
      rw [e85] at o85
      rw [e87] at o87
      rw [e89] at o89
      rw [e92] at o92
      simp only [List.map, e66, e69, e73, e77, e81, e85, e87, e89, e92] at k14 d14 w66 w69 w73 w77 w81 w85 w87 w89 w92
      obtain ⟨ks, hks⟩ : ∃ ks : List Lst, ks = [(A66, c66, K), (A69, c69, K), (A73, c73, K2), (A77, c77, K2), (A81, c81, K), (A85, c85, K), (A87, c87, K), (A89, c89, K), (A92, c92, K)] := ⟨_, rfl⟩
      have hmem : ∀ x ∈ ks, wx.ownsRow wr.heap.size 29 2 (lv x) x.2.2.length (hc x.2.2) ∧ (lv x).ownBlock ≠ some g14 ∧ x.2.2.length ≤ L.length := by
        intro x hxm
        simp only [hks, List.mem_cons, List.not_mem_nil, or_false] at hxm
        rcases hxm with rfl | rfl | rfl | rfl | rfl | rfl | rfl | rfl | rfl
        · exact ⟨o66, d14 _ (by simp [lv]), hKl⟩
        · exact ⟨o69, d14 _ (by simp [lv]), hKl⟩
        · exact ⟨o73, d14 _ (by simp [lv]), hK2l⟩
        · exact ⟨o77, d14 _ (by simp [lv]), hK2l⟩
        · exact ⟨o81, d14 _ (by simp [lv]), hKl⟩
        · exact ⟨o85, d14 _ (by simp [lv]), hKl⟩
        · exact ⟨o87, d14 _ (by simp [lv]), hKl⟩
        · exact ⟨o89, d14 _ (by simp [lv]), hKl⟩
        · exact ⟨o92, d14 _ (by simp [lv]), hKl⟩
      have hKT : Kept wx wr.heap.size g14 ks (fun i => (ks.map (fun x => x.2.2)).getD i []) := by
        refine ⟨fun i x hx => ?_, fun i x hx => ?_, k14.lt⟩
        · have e1 : (ks.map (fun x => x.2.2)).getD i [] = x.2.2 := by simp [hx]
          rw [e1]
          exact ⟨rfl, (hmem x (List.mem_of_getElem? hx)).1⟩
        · have e1 : wx.cell? ⟨g14, i, none⟩ = (ks.map lv)[i]? := by rw [k14.cell i, hks]; simp [lv]
          rw [e1, List.getElem?_map, hx]; rfl
      have hsep : Sep (ks.map lv) := by rw [hks]; exact sep_snoc (sep_snoc (sep_snoc (sep_snoc (sep_snoc (sep_snoc (sep_snoc (sep_snoc (sep_snoc (sep_nil) w66) w69) w73) w77) w81) w85) w87) w89) w92
      have hkl : ks.length = 9 := by rw [hks]; rfl
      have hcont : ks.map (fun x => x.2.2) = [K, K, K2, K2, K, K, K, K, K] := by rw [hks]; rfl
      have hgk : ∀ x ∈ ks, (lv x).ownBlock ≠ some g14 := fun x hx => (hmem x hx).2.1
      have hkle : ∀ x ∈ ks, x.2.2.length ≤ L.length := fun x hx => (hmem x hx).2.2
      clear hmem hks o66 w66 o69 w69 o73 w73 o77 w77 o81 w81 o85 w85 o87 w87 o89 w89 o92 w92 k14 d14 e64 e65 e66 e67 e68 e69 e70 e71 e72 e73 e74 e75 e76 e77 e78 e79 e80 e81 e82 e83 e84 e85 e86 e87 e88 e89 e90 e91 e92 e93 e14
      clear SEL AFT JN1 JN2 HIT LL C1 k79 k83 k93 b93 d93 vs
      -- what stands behind region 15
      obtain ⟨w15, rfl⟩ : ∃ w15 : World, w15 = wx := ⟨_, rfl⟩
      have hE15 := HE.out.below hx
      have hb15 : Below W w0 w15 := hbr.trans (hx.mono hsr)
      have hEl := HE.out.lt
      obtain ⟨W1, hW1d⟩ : ∃ W1, W1 = wr.heap.size := ⟨_, rfl⟩
      rw [← hW1d] at hKT hsr hEl
      have hx1 : Below W1 wr w15 := hW1d ▸ hx
      have hg14 : W1 ≤ g14 := hW1d ▸ b14
      have hEl' : ∀ g, (Value.slice A8 (L.length + 3) c8).ownBlock = some g ∨ (Value.slice A9 (L.length + 3) c9).ownBlock = some g ∨ g = b ∨ vb.ownBlock = some g → g < W1 := fun g h => by
        rcases h with h | h | h | h
        · exact hEl.1 g h
        · exact hEl.2.1 g h
        · rw [h]; exact hEl.2.2.1
        · exact hEl.2.2.2 g h
      have HEL := Lib.hid hEl'
      have HKT := Lib.hid hKT
      have HCT := Lib.hid hcont
      have HKL := Lib.hid hkl
      have HSEP := Lib.hid hsep
      have HGK : Hid (okf ks g14) := Lib.hid hgk
      have HLE := Lib.hid hkle
      have HE15 := Lib.hid hE15
      have hz15 : W1 ≤ w15.heap.size := by have := hx.size; omega
      clear hEl hEl' hKT hcont hkl hsep hgk hkle hE15 hx hbr HE hW1d b14
      go_wp2_with fail
      go_at_call 12
      refine (env_equal HE15.out f1).mono ?_
      rintro e w16 ⟨rfl, hb16⟩
      have hE16 := Lib.hid (HE15.out.below hb16)
      have hK16 := Lib.hid (HKT.out.below hb16)
      have hb16w : Below W w0 w16 := hb15.trans (hb16.mono (by omega))
      have hz16 : W1 ≤ w16.heap.size := by have := hb16.size; omega
      obtain ⟨w17, hw17⟩ : ∃ w17, w17 = w16.alloc (.cells #[] 26) := ⟨_, rfl⟩
      have hb17 : Below w16.heap.size w16 w17 := by rw [hw17]; exact balloc (Below.refl _ _) _
      have hrow17 : w17.ownsRow w16.heap.size 26 1 (.slice (some ⟨w16.heap.size, 0, none⟩) 0 0) 0 [] := by rw [hw17]; exact World.ownsRow_lit (e := 26) (size := 1) (base := w16.heap.size) w16 #[] 0 (Nat.le_refl _) (by decide) rfl
      have hP17 : Pair w17 w16.heap.size (.slice none 0 0) (.slice (some ⟨w16.heap.size, 0, none⟩) 0 0) [] [] := ⟨World.ownsRow_nil _ _ _ _, hrow17, (fun _ h => by cases h), (fun g h => by simp [Value.ownBlock] at h)⟩
      have HW17 := Lib.hid hw17
      clear hw17 hrow17 hb16 hb15 HE15 HKT hx1
      go_wp2_with fail
      rw [← HW17.out]
      go_loopw [101, 15] (fun i vw wr => ∃ (j : Nat) (ws : List Lst), j ≤ 9 ∧ i = .int .i64 j ∧ Pair wr w16.heap.size (.slice none 0 0) vw [] ws ∧ Hid (ws.length = j) ∧ Hid (ws.map (fun x => x.2.2) = (ks.take j).map (fun x => x.2.2)) ∧ Hid (∀ y ∈ ws, ∀ g, (lv y).ownBlock = some g → w16.heap.size ≤ g) ∧ Below w16.heap.size w16 wr) (fun i _ _ => 9 - (intOf i).toNat)
      case atStart => exact ⟨0, [], by omega, rfl, hP17, Lib.hid rfl, Lib.hid rfl, Lib.hid (fun _ h => by cases h), hb17⟩
      case round =>
        obtain ⟨j, ws, hj, rfl, hPr, hwl, hwc, hwo, hbr⟩ := hrel
        clear hP17 hb17
        have hsr16 := hbr.size
        have hwle : ws.length ≤ 9 := by have := hwl.out; omega
        by_cases hlt : j < 9
        · have hd9 : decide ((j : Int) < 9) = true := by (simp; omega)
          obtain ⟨⟨Ax, cx, M⟩, hx⟩ : ∃ x, ks[j]? = some x := ⟨_, List.getElem?_eq_getElem (by rw [HKL.out]; exact hlt)⟩
          have hMl : M.length ≤ L.length := HLE.out _ (List.mem_of_getElem? hx)
          have hKr := hK16.out.below hbr
          have p0 : wr.cell? ⟨g14, j, none⟩ = some (.slice Ax M.length cx) := hKr.row j _ hx
          have hM : Slc wr wr.heap.size Ax (hc M) := by
            have := (hKr.own j _ hx).2
            have e1 : (ks.map (fun x => x.2.2)).getD j [] = M := by simp [hx]
            rw [e1] at this
            exact slc_own this
          have HX := Lib.hid hx
          clear hKr hx
          have hba : Below wr.heap.size wr (wr.alloc (.cells #[] 29)) := balloc (Below.refl _ _) _
          have hrow0 : (wr.alloc (.cells #[] 29)).ownsRow wr.heap.size 29 2 (.slice (some ⟨wr.heap.size, 0, none⟩) 0 0) 0 (hc []) := World.ownsRow_lit (e := 29) (size := 2) (base := wr.heap.size) wr #[] 0 (Nat.le_refl _) (by decide) rfl
          have hMa := hM.below hba (Nat.le_refl _)
          go_wp2_with (at_builtin; refine wpList_append_slc rfl _ _ rfl hitElem hrow0 rfl rfl (hc_len M) hMa (hc_one M) (by omega) (by unfold maxLen; omega) hba.size ?_)
          intro vx w3 own3 hg3 _
          (try rw [Nat.zero_add] at own3)
          have hb3 : Below wr.heap.size wr w3 := below_own hba hrow0 hba.size hg3
          obtain ⟨A3, c3, rfl⟩ := own_slice own3
          have hp3 := hPr.below hb3
          have hy := hPr.fresh (L := M) own3
          have hb4 : Below w3.heap.size w3 (w3.alloc (.cells #[.slice A3 M.length c3] 26)) := balloc (Below.refl _ _) _
          have hp4 := hp3.below hb4
          have hy4 := hy.foot (Foot.ofBelow hb4 _)
          have hn4 := slc_new w3 #[.slice A3 M.length c3] 26
          have z3 := Nat.le_trans hsr16 hb3.size
          have hz4 : w16.heap.size ≤ (w3.alloc (.cells #[.slice A3 M.length c3] 26)).heap.size := Nat.le_trans z3 hb4.size
          have hwo3 : Hid (∀ g, (lv (A3, c3, M)).ownBlock = some g → w16.heap.size ≤ g) := Lib.hid fun g e => Nat.le_trans hsr16 (own3.lt g e).1
          clear hp3 hy hrow0 hMa hM p0 own3
          go_wp2_with (at_builtin; refine wpList_append_slc (m := 1) rfl _ _ rfl rowElem hp4.short rfl rfl rfl hn4 (by intro u hu; simp at hu; subst hu; rfl) (by omega) (by unfold maxLen; omega) hz4 ?_)
          intro vs5 w5 hown5 hg5 hat5
          have hp5 := hp4.grow2 (y := (A3, c3, M)) hy4 hown5 hg5 (by simpa using hat5)
          have hb5 : Below w16.heap.size w16 w5 := below_own ((hbr.trans (hb3.mono hsr16)).trans (hb4.mono z3)) hp4.short hz4 hg5
          clear hown5 hg5 hat5 hp4 hy4 hn4
          go_wp2_with fail
          go_roundw
          case rel => exact ⟨j + 1, ws ++ [(A3, c3, M)], by omega, by go_num, hp5, Lib.hid (by rw [List.length_append, hwl.out]; rfl), Lib.hid (by rw [List.map_append, hwc.out, take_snoc HX.out, List.map_append]; rfl), Lib.hid (fun y hy => by
            rcases List.mem_append.1 hy with hy | hy
            · exact hwo.out y hy
            · rw [List.mem_singleton.1 hy]; exact hwo3.out), hb5⟩
          case measure => simp [intOf]; omega
        · obtain rfl : j = 9 := by omega
          try rw [show ((9 : Nat) : Int) = 9 from rfl]
          have hwc9 : ws.map (fun x => x.2.2) = [K, K, K2, K2, K, K, K, K, K] := by rw [hwc.out, List.take_of_length_le (by rw [HKL.out]; exact Nat.le_refl _), HCT.out]
          have hw9 := hwl.out
          obtain ⟨B0, d0, B1, d1, B2, d2, B3, d3, B4, d4, B5, d5, B6, d6, B7, d7, B8, d8, hws⟩ : ∃ B0 d0 B1 d1 B2 d2 B3 d3 B4 d4 B5 d5 B6 d6 B7 d7 B8 d8, ws = [(B0, d0, K), (B1, d1, K), (B2, d2, K2), (B3, d3, K2), (B4, d4, K), (B5, d5, K), (B6, d6, K), (B7, d7, K), (B8, d8, K)] := by
            clear hPr hwl hwc hwo hwle
            match ws, hw9, hwc9 with
            | [(B0, d0, M0), (B1, d1, M1), (B2, d2, M2), (B3, d3, M3), (B4, d4, M4), (B5, d5, M5), (B6, d6, M6), (B7, d7, M7), (B8, d8, M8)], _, hwc9 =>
              simp only [List.map_cons, List.map_nil, List.cons.injEq, and_true] at hwc9
              obtain ⟨rfl, e1, rfl, e3, e4, e5, e6, e7, e8⟩ := hwc9
              exact ⟨_, _, _, _, _, _, _, _, _, _, _, _, _, _, _, _, _, _, by rw [e1, e3, e4, e5, e6, e7, e8]⟩
          subst hws
          obtain ⟨gw, cw, hvw, hgw, hgwl⟩ := hPr.short.form (by simp)
          have hvw2 : _ = Value.slice (some ⟨gw, 0, none⟩) 9 cw := hvw
          clear hvw
          subst hvw2
          have F : Hid (∀ wx, Below wr.heap.size wr wx → wx.cell? ⟨gw, 0, none⟩ = some (.slice B0 K.length d0) ∧ wx.cell? ⟨gw, 1, none⟩ = some (.slice B1 K.length d1) ∧ wx.cell? ⟨gw, 2, none⟩ = some (.slice B2 K2.length d2) ∧ wx.cell? ⟨gw, 3, none⟩ = some (.slice B3 K2.length d3) ∧ wx.cell? ⟨gw, 4, none⟩ = some (.slice B4 K.length d4) ∧ wx.cell? ⟨gw, 6, none⟩ = some (.slice B6 K.length d6) ∧ wx.cell? ⟨gw, 8, none⟩ = some (.slice B8 K.length d8)) :=
            Lib.hid fun wx hx => by
              have h1 := (hPr.below hx).short
              refine ⟨(h1.cellAt 0 (by simp)).trans rfl, (h1.cellAt 1 (by simp)).trans rfl, (h1.cellAt 2 (by simp)).trans rfl, (h1.cellAt 3 (by simp)).trans rfl, (h1.cellAt 4 (by simp)).trans rfl, (h1.cellAt 6 (by simp)).trans rfl, (h1.cellAt 8 (by simp)).trans rfl⟩
          have RD : Hid (∀ wx, Below wr.heap.size wr wx → Slc wx wx.heap.size B0 (hc K) ∧ Slc wx wx.heap.size B1 (hc K) ∧ Slc wx wx.heap.size B2 (hc K2) ∧ Slc wx wx.heap.size B3 (hc K2) ∧ Slc wx wx.heap.size B4 (hc K) ∧ Slc wx wx.heap.size B6 (hc K) ∧ Slc wx wx.heap.size B8 (hc K)) :=
            Lib.hid fun wx hx => by
              have h1 := (hPr.below hx).each
              exact ⟨(h1 (B0, d0, K) (by simp)).slc, (h1 (B1, d1, K) (by simp)).slc, (h1 (B2, d2, K2) (by simp)).slc, (h1 (B3, d3, K2) (by simp)).slc, (h1 (B4, d4, K) (by simp)).slc, (h1 (B6, d6, K) (by simp)).slc, (h1 (B8, d8, K) (by simp)).slc⟩
          have hKn : K.length ≤ 8796093022208 := by omega
          have hK2n : K2.length ≤ 8796093022208 := by omega
          have HW0' : Hid (∀ g, (lv (B0, d0, K)).ownBlock = some g → w16.heap.size ≤ g) := Lib.hid (hwo.out (B0, d0, K) (by simp))
          clear hPr hwo hwl hwc hw9 hwc9 hwle hlt
          go_upto_region 24 with fail
          refine Rel.wp_region_rel (fun wx => Below wr.heap.size wr wx) (fun wa wb => Below wa.heap.size wa wb) (by kernel_rfl) (by kernel_rfl) (bdrew (Below.refl _ _)) (fun _ => Below.refl _ _) ?_
          apply Rel.rel_one2 1 [] rfl (by kernel_rfl) (by kernel_rfl)
          case hs =>
            intro wx hx
            try simp only [Act.put, List.setIfInBounds_toArray, List.set_cons_zero, List.set_cons_succ]
            intro KK hK
            go_simp
            exact hK _ _ hx (Below.refl _ _) rfl
          apply Rel.rel_one2 2 [(0, 112)] rfl (by kernel_rfl) (by kernel_rfl)
          case hs =>
            intro wx hx
            rintro _ rfl
            try simp only [Act.put, List.setIfInBounds_toArray, List.set_cons_zero, List.set_cons_succ]
            intro KK hK
            go_simp
            exact hK _ _ hx (Below.refl _ _) rfl
          apply Rel.rel_one2 3 [(1, 113)] rfl (by kernel_rfl) (by kernel_rfl)
          case hs =>
            intro wx hx
            rintro _ rfl
            have f0 := (F.out wx hx).1
            have f1 := (F.out wx hx).2.1
            have f2 := (F.out wx hx).2.2.1
            have f3 := (F.out wx hx).2.2.2.1
            have f4 := (F.out wx hx).2.2.2.2.1
            have f6 := (F.out wx hx).2.2.2.2.2.1
            have f8 := (F.out wx hx).2.2.2.2.2.2
            try simp only [Act.put, List.setIfInBounds_toArray, List.set_cons_zero, List.set_cons_succ]
            intro KK hK
            go_simp
            exact hK _ _ hx (Below.refl _ _) rfl
          apply Rel.rel_one2 4 [] rfl (by kernel_rfl) (by kernel_rfl)
          case hs =>
            intro wx hx
            try simp only [Act.put, List.setIfInBounds_toArray, List.set_cons_zero, List.set_cons_succ]
            intro KK hK
            go_simp
            exact hK _ _ hx (Below.refl _ _) rfl
          apply Rel.rel_one2 5 [(3, 115)] rfl (by kernel_rfl) (by kernel_rfl)
          case hs =>
            intro wx hx
            rintro _ rfl
            try simp only [Act.put, List.setIfInBounds_toArray, List.set_cons_zero, List.set_cons_succ]
            intro KK hK
            go_simp
            exact hK _ _ hx (Below.refl _ _) rfl
          apply Rel.rel_one2 6 [(4, 116)] rfl (by kernel_rfl) (by kernel_rfl)
          case hs =>
            intro wx hx
            rintro _ rfl
            have f0 := (F.out wx hx).1
            have f1 := (F.out wx hx).2.1
            have f2 := (F.out wx hx).2.2.1
            have f3 := (F.out wx hx).2.2.2.1
            have f4 := (F.out wx hx).2.2.2.2.1
            have f6 := (F.out wx hx).2.2.2.2.2.1
            have f8 := (F.out wx hx).2.2.2.2.2.2
            try simp only [Act.put, List.setIfInBounds_toArray, List.set_cons_zero, List.set_cons_succ]
            intro KK hK
            go_simp
            exact hK _ _ hx (Below.refl _ _) rfl
          apply Rel.rel_one2 7 [(2, 114), (5, 117)] rfl (by kernel_rfl) (by kernel_rfl)
          case hs =>
            intro wx hx
            rintro _ rfl _ rfl
            have f0 := (F.out wx hx).1
            have f1 := (F.out wx hx).2.1
            have f2 := (F.out wx hx).2.2.1
            have f3 := (F.out wx hx).2.2.2.1
            have f4 := (F.out wx hx).2.2.2.2.1
            have f6 := (F.out wx hx).2.2.2.2.2.1
            have f8 := (F.out wx hx).2.2.2.2.2.2
            try simp only [Act.put, List.setIfInBounds_toArray, List.set_cons_zero, List.set_cons_succ]
            intro KK hK
            go_simp
            go_at_call 12
            refine (equal_eq K _ _ _ _ _ _ wx hKn (RD.out wx hx).1 (RD.out wx hx).2.1).mono ?_
            rintro e wy ⟨rfl, hby⟩
            exact hK _ _ (bchain hx hby) hby rfl
          apply Rel.rel_one2 8 [(6, 118)] rfl (by kernel_rfl) (by kernel_rfl)
          case hs =>
            intro wx hx
            rintro _ rfl
            try simp only [Act.put, List.setIfInBounds_toArray, List.set_cons_zero, List.set_cons_succ]
            intro KK hK
            go_simp
            exact hK _ _ hx (Below.refl _ _) rfl
          apply Rel.rel_one2 9 [(7, 119)] rfl (by kernel_rfl) (by kernel_rfl)
          case hs =>
            intro wx hx
            rintro _ rfl
            try simp only [Act.put, List.setIfInBounds_toArray, List.set_cons_zero, List.set_cons_succ]
            intro KK hK
            go_simp
            exact hK _ _ hx (Below.refl _ _) rfl
          apply Rel.rel_one2 10 [(8, 120)] rfl (by kernel_rfl) (by kernel_rfl)
          case hs =>
            intro wx hx
            rintro _ rfl
            try simp only [Act.put, List.setIfInBounds_toArray, List.set_cons_zero, List.set_cons_succ]
            intro KK hK
            go_simp
            exact hK _ _ hx (Below.refl _ _) rfl
          apply Rel.rel_one2 11 [(8, 120), (9, 121)] rfl (by kernel_rfl) (by kernel_rfl)
          case hs =>
            intro wx hx
            rintro _ rfl _ rfl
            try simp only [Act.put, List.setIfInBounds_toArray, List.set_cons_zero, List.set_cons_succ]
            intro KK hK
            go_simp
            exact hK _ _ hx (Below.refl _ _) rfl
          apply Rel.rel_one2 12 [(8, 120), (10, 122)] rfl (by kernel_rfl) (by kernel_rfl)
          case hs =>
            intro wx hx
            rintro _ rfl _ rfl
            have f0 := (F.out wx hx).1
            have f1 := (F.out wx hx).2.1
            have f2 := (F.out wx hx).2.2.1
            have f3 := (F.out wx hx).2.2.2.1
            have f4 := (F.out wx hx).2.2.2.2.1
            have f6 := (F.out wx hx).2.2.2.2.2.1
            have f8 := (F.out wx hx).2.2.2.2.2.2
            try simp only [Act.put, List.setIfInBounds_toArray, List.set_cons_zero, List.set_cons_succ]
            intro KK hK
            go_simp
            exact hK _ _ hx (Below.refl _ _) rfl
          apply Rel.rel_one2 13 [(8, 120)] rfl (by kernel_rfl) (by kernel_rfl)
          case hs =>
            intro wx hx
            rintro _ rfl
            try simp only [Act.put, List.setIfInBounds_toArray, List.set_cons_zero, List.set_cons_succ]
            intro KK hK
            go_simp
            exact hK _ _ hx (Below.refl _ _) rfl
          apply Rel.rel_one2 14 [(8, 120), (12, 124)] rfl (by kernel_rfl) (by kernel_rfl)
          case hs =>
            intro wx hx
            rintro _ rfl _ rfl
            try simp only [Act.put, List.setIfInBounds_toArray, List.set_cons_zero, List.set_cons_succ]
            intro KK hK
            go_simp
            exact hK _ _ hx (Below.refl _ _) rfl
          apply Rel.rel_one2 15 [(8, 120), (13, 125)] rfl (by kernel_rfl) (by kernel_rfl)
          case hs =>
            intro wx hx
            rintro _ rfl _ rfl
            have f0 := (F.out wx hx).1
            have f1 := (F.out wx hx).2.1
            have f2 := (F.out wx hx).2.2.1
            have f3 := (F.out wx hx).2.2.2.1
            have f4 := (F.out wx hx).2.2.2.2.1
            have f6 := (F.out wx hx).2.2.2.2.2.1
            have f8 := (F.out wx hx).2.2.2.2.2.2
            try simp only [Act.put, List.setIfInBounds_toArray, List.set_cons_zero, List.set_cons_succ]
            intro KK hK
            go_simp
            exact hK _ _ hx (Below.refl _ _) rfl
          apply Rel.rel_one2 16 [(8, 120), (11, 123), (14, 126)] rfl (by kernel_rfl) (by kernel_rfl)
          case hs =>
            intro wx hx
            rintro _ rfl _ rfl _ rfl
            have f0 := (F.out wx hx).1
            have f1 := (F.out wx hx).2.1
            have f2 := (F.out wx hx).2.2.1
            have f3 := (F.out wx hx).2.2.2.1
            have f4 := (F.out wx hx).2.2.2.2.1
            have f6 := (F.out wx hx).2.2.2.2.2.1
            have f8 := (F.out wx hx).2.2.2.2.2.2
            try simp only [Act.put, List.setIfInBounds_toArray, List.set_cons_zero, List.set_cons_succ]
            intro KK hK
            go_simp
            go_at_call 12
            refine (equal_eq K _ _ _ _ _ _ wx hKn (RD.out wx hx).1 (RD.out wx hx).2.2.2.2.2.2).mono ?_
            rintro e wy ⟨rfl, hby⟩
            exact hK _ _ (bchain hx hby) hby rfl
          apply Rel.rel_one2 17 [(8, 120), (15, 127)] rfl (by kernel_rfl) (by kernel_rfl)
          case hs =>
            intro wx hx
            rintro _ rfl _ rfl
            try simp only [Act.put, List.setIfInBounds_toArray, List.set_cons_zero, List.set_cons_succ]
            intro KK hK
            go_simp
            exact hK _ _ hx (Below.refl _ _) rfl
          apply Rel.rel_one2 18 [(8, 120), (16, 128)] rfl (by kernel_rfl) (by kernel_rfl)
          case hs =>
            intro wx hx
            rintro _ rfl _ rfl
            try simp only [Act.put, List.setIfInBounds_toArray, List.set_cons_zero, List.set_cons_succ]
            intro KK hK
            go_simp
            exact hK _ _ hx (Below.refl _ _) rfl
          apply Rel.rel_one2 19 [(17, 129)] rfl (by kernel_rfl) (by kernel_rfl)
          case hs =>
            intro wx hx
            rintro _ rfl
            try simp only [Act.put, List.setIfInBounds_toArray, List.set_cons_zero, List.set_cons_succ]
            intro KK hK
            go_simp
            exact hK _ _ hx (Below.refl _ _) rfl
          apply Rel.rel_one2 20 [(18, 130)] rfl (by kernel_rfl) (by kernel_rfl)
          case hs =>
            intro wx hx
            rintro _ rfl
            try simp only [Act.put, List.setIfInBounds_toArray, List.set_cons_zero, List.set_cons_succ]
            intro KK hK
            go_simp
            exact hK _ _ hx (Below.refl _ _) rfl
          apply Rel.rel_one2 21 [(18, 130), (19, 131)] rfl (by kernel_rfl) (by kernel_rfl)
          case hs =>
            intro wx hx
            rintro _ rfl _ rfl
            try simp only [Act.put, List.setIfInBounds_toArray, List.set_cons_zero, List.set_cons_succ]
            intro KK hK
            go_simp
            exact hK _ _ hx (Below.refl _ _) rfl
          apply Rel.rel_one2 22 [(18, 130), (20, 132)] rfl (by kernel_rfl) (by kernel_rfl)
          case hs =>
            intro wx hx
            rintro _ rfl _ rfl
            have f0 := (F.out wx hx).1
            have f1 := (F.out wx hx).2.1
            have f2 := (F.out wx hx).2.2.1
            have f3 := (F.out wx hx).2.2.2.1
            have f4 := (F.out wx hx).2.2.2.2.1
            have f6 := (F.out wx hx).2.2.2.2.2.1
            have f8 := (F.out wx hx).2.2.2.2.2.2
            try simp only [Act.put, List.setIfInBounds_toArray, List.set_cons_zero, List.set_cons_succ]
            intro KK hK
            go_simp
            exact hK _ _ hx (Below.refl _ _) rfl
          apply Rel.rel_one2 23 [(18, 130)] rfl (by kernel_rfl) (by kernel_rfl)
          case hs =>
            intro wx hx
            rintro _ rfl
            try simp only [Act.put, List.setIfInBounds_toArray, List.set_cons_zero, List.set_cons_succ]
            intro KK hK
            go_simp
            exact hK _ _ hx (Below.refl _ _) rfl
          apply Rel.rel_one2 24 [(18, 130), (22, 134)] rfl (by kernel_rfl) (by kernel_rfl)
          case hs =>
            intro wx hx
            rintro _ rfl _ rfl
            try simp only [Act.put, List.setIfInBounds_toArray, List.set_cons_zero, List.set_cons_succ]
            intro KK hK
            go_simp
            exact hK _ _ hx (Below.refl _ _) rfl
          apply Rel.rel_one2 25 [(18, 130), (23, 135)] rfl (by kernel_rfl) (by kernel_rfl)
          case hs =>
            intro wx hx
            rintro _ rfl _ rfl
            have f0 := (F.out wx hx).1
            have f1 := (F.out wx hx).2.1
            have f2 := (F.out wx hx).2.2.1
            have f3 := (F.out wx hx).2.2.2.1
            have f4 := (F.out wx hx).2.2.2.2.1
            have f6 := (F.out wx hx).2.2.2.2.2.1
            have f8 := (F.out wx hx).2.2.2.2.2.2
            try simp only [Act.put, List.setIfInBounds_toArray, List.set_cons_zero, List.set_cons_succ]
            intro KK hK
            go_simp
            exact hK _ _ hx (Below.refl _ _) rfl
          apply Rel.rel_one2 26 [(18, 130), (21, 133), (24, 136)] rfl (by kernel_rfl) (by kernel_rfl)
          case hs =>
            intro wx hx
            rintro _ rfl _ rfl _ rfl
            have f0 := (F.out wx hx).1
            have f1 := (F.out wx hx).2.1
            have f2 := (F.out wx hx).2.2.1
            have f3 := (F.out wx hx).2.2.2.1
            have f4 := (F.out wx hx).2.2.2.2.1
            have f6 := (F.out wx hx).2.2.2.2.2.1
            have f8 := (F.out wx hx).2.2.2.2.2.2
            try simp only [Act.put, List.setIfInBounds_toArray, List.set_cons_zero, List.set_cons_succ]
            intro KK hK
            go_simp
            go_at_call 12
            refine (equal_eq K _ _ _ _ _ _ wx hKn (RD.out wx hx).1 (RD.out wx hx).2.2.2.2.2.1).mono ?_
            rintro e wy ⟨rfl, hby⟩
            exact hK _ _ (bchain hx hby) hby rfl
          apply Rel.rel_one2 27 [(18, 130), (25, 137)] rfl (by kernel_rfl) (by kernel_rfl)
          case hs =>
            intro wx hx
            rintro _ rfl _ rfl
            try simp only [Act.put, List.setIfInBounds_toArray, List.set_cons_zero, List.set_cons_succ]
            intro KK hK
            go_simp
            exact hK _ _ hx (Below.refl _ _) rfl
          apply Rel.rel_one2 28 [(18, 130), (26, 138)] rfl (by kernel_rfl) (by kernel_rfl)
          case hs =>
            intro wx hx
            rintro _ rfl _ rfl
            try simp only [Act.put, List.setIfInBounds_toArray, List.set_cons_zero, List.set_cons_succ]
            intro KK hK
            go_simp
            exact hK _ _ hx (Below.refl _ _) rfl
          apply Rel.rel_one2 29 [(27, 139)] rfl (by kernel_rfl) (by kernel_rfl)
          case hs =>
            intro wx hx
            rintro _ rfl
            try simp only [Act.put, List.setIfInBounds_toArray, List.set_cons_zero, List.set_cons_succ]
            intro KK hK
            go_simp
            exact hK _ _ hx (Below.refl _ _) rfl
          apply Rel.rel_one2 30 [(28, 140)] rfl (by kernel_rfl) (by kernel_rfl)
          case hs =>
            intro wx hx
            rintro _ rfl
            try simp only [Act.put, List.setIfInBounds_toArray, List.set_cons_zero, List.set_cons_succ]
            intro KK hK
            go_simp
            exact hK _ _ hx (Below.refl _ _) rfl
          apply Rel.rel_one2 31 [(28, 140), (29, 141)] rfl (by kernel_rfl) (by kernel_rfl)
          case hs =>
            intro wx hx
            rintro _ rfl _ rfl
            try simp only [Act.put, List.setIfInBounds_toArray, List.set_cons_zero, List.set_cons_succ]
            intro KK hK
            go_simp
            exact hK _ _ hx (Below.refl _ _) rfl
          apply Rel.rel_one2 32 [(28, 140), (30, 142)] rfl (by kernel_rfl) (by kernel_rfl)
          case hs =>
            intro wx hx
            rintro _ rfl _ rfl
            have f0 := (F.out wx hx).1
            have f1 := (F.out wx hx).2.1
            have f2 := (F.out wx hx).2.2.1
            have f3 := (F.out wx hx).2.2.2.1
            have f4 := (F.out wx hx).2.2.2.2.1
            have f6 := (F.out wx hx).2.2.2.2.2.1
            have f8 := (F.out wx hx).2.2.2.2.2.2
            try simp only [Act.put, List.setIfInBounds_toArray, List.set_cons_zero, List.set_cons_succ]
            intro KK hK
            go_simp
            exact hK _ _ hx (Below.refl _ _) rfl
          apply Rel.rel_one2 33 [(28, 140)] rfl (by kernel_rfl) (by kernel_rfl)
          case hs =>
            intro wx hx
            rintro _ rfl
            try simp only [Act.put, List.setIfInBounds_toArray, List.set_cons_zero, List.set_cons_succ]
            intro KK hK
            go_simp
            exact hK _ _ hx (Below.refl _ _) rfl
          apply Rel.rel_one2 34 [(28, 140), (32, 144)] rfl (by kernel_rfl) (by kernel_rfl)
          case hs =>
            intro wx hx
            rintro _ rfl _ rfl
            try simp only [Act.put, List.setIfInBounds_toArray, List.set_cons_zero, List.set_cons_succ]
            intro KK hK
            go_simp
            exact hK _ _ hx (Below.refl _ _) rfl
          apply Rel.rel_one2 35 [(28, 140), (33, 145)] rfl (by kernel_rfl) (by kernel_rfl)
          case hs =>
            intro wx hx
            rintro _ rfl _ rfl
            have f0 := (F.out wx hx).1
            have f1 := (F.out wx hx).2.1
            have f2 := (F.out wx hx).2.2.1
            have f3 := (F.out wx hx).2.2.2.1
            have f4 := (F.out wx hx).2.2.2.2.1
            have f6 := (F.out wx hx).2.2.2.2.2.1
            have f8 := (F.out wx hx).2.2.2.2.2.2
            try simp only [Act.put, List.setIfInBounds_toArray, List.set_cons_zero, List.set_cons_succ]
            intro KK hK
            go_simp
            exact hK _ _ hx (Below.refl _ _) rfl
          apply Rel.rel_one2 36 [(28, 140), (31, 143), (34, 146)] rfl (by kernel_rfl) (by kernel_rfl)
          case hs =>
            intro wx hx
            rintro _ rfl _ rfl _ rfl
            have f0 := (F.out wx hx).1
            have f1 := (F.out wx hx).2.1
            have f2 := (F.out wx hx).2.2.1
            have f3 := (F.out wx hx).2.2.2.1
            have f4 := (F.out wx hx).2.2.2.2.1
            have f6 := (F.out wx hx).2.2.2.2.2.1
            have f8 := (F.out wx hx).2.2.2.2.2.2
            try simp only [Act.put, List.setIfInBounds_toArray, List.set_cons_zero, List.set_cons_succ]
            intro KK hK
            go_simp
            go_at_call 12
            refine (equal_eq K _ _ _ _ _ _ wx hKn (RD.out wx hx).1 (RD.out wx hx).2.2.2.2.1).mono ?_
            rintro e wy ⟨rfl, hby⟩
            exact hK _ _ (bchain hx hby) hby rfl
          apply Rel.rel_one2 37 [(28, 140), (35, 147)] rfl (by kernel_rfl) (by kernel_rfl)
          case hs =>
            intro wx hx
            rintro _ rfl _ rfl
            try simp only [Act.put, List.setIfInBounds_toArray, List.set_cons_zero, List.set_cons_succ]
            intro KK hK
            go_simp
            exact hK _ _ hx (Below.refl _ _) rfl
          apply Rel.rel_one2 38 [(28, 140), (36, 148)] rfl (by kernel_rfl) (by kernel_rfl)
          case hs =>
            intro wx hx
            rintro _ rfl _ rfl
            try simp only [Act.put, List.setIfInBounds_toArray, List.set_cons_zero, List.set_cons_succ]
            intro KK hK
            go_simp
            exact hK _ _ hx (Below.refl _ _) rfl
          apply Rel.rel_one2 39 [(37, 149)] rfl (by kernel_rfl) (by kernel_rfl)
          case hs =>
            intro wx hx
            rintro _ rfl
            try simp only [Act.put, List.setIfInBounds_toArray, List.set_cons_zero, List.set_cons_succ]
            intro KK hK
            go_simp
            exact hK _ _ hx (Below.refl _ _) rfl
          apply Rel.rel_one2 40 [(38, 150)] rfl (by kernel_rfl) (by kernel_rfl)
          case hs =>
            intro wx hx
            rintro _ rfl
            try simp only [Act.put, List.setIfInBounds_toArray, List.set_cons_zero, List.set_cons_succ]
            intro KK hK
            go_simp
            exact hK _ _ hx (Below.refl _ _) rfl
          apply Rel.rel_one2 41 [(38, 150), (39, 151)] rfl (by kernel_rfl) (by kernel_rfl)
          case hs =>
            intro wx hx
            rintro _ rfl _ rfl
            try simp only [Act.put, List.setIfInBounds_toArray, List.set_cons_zero, List.set_cons_succ]
            intro KK hK
            go_simp
            exact hK _ _ hx (Below.refl _ _) rfl
          apply Rel.rel_one2 42 [(38, 150), (40, 152)] rfl (by kernel_rfl) (by kernel_rfl)
          case hs =>
            intro wx hx
            rintro _ rfl _ rfl
            have f0 := (F.out wx hx).1
            have f1 := (F.out wx hx).2.1
            have f2 := (F.out wx hx).2.2.1
            have f3 := (F.out wx hx).2.2.2.1
            have f4 := (F.out wx hx).2.2.2.2.1
            have f6 := (F.out wx hx).2.2.2.2.2.1
            have f8 := (F.out wx hx).2.2.2.2.2.2
            try simp only [Act.put, List.setIfInBounds_toArray, List.set_cons_zero, List.set_cons_succ]
            intro KK hK
            go_simp
            exact hK _ _ hx (Below.refl _ _) rfl
          apply Rel.rel_one2 43 [(38, 150)] rfl (by kernel_rfl) (by kernel_rfl)
          case hs =>
            intro wx hx
            rintro _ rfl
            try simp only [Act.put, List.setIfInBounds_toArray, List.set_cons_zero, List.set_cons_succ]
            intro KK hK
            go_simp
            exact hK _ _ hx (Below.refl _ _) rfl
          apply Rel.rel_one2 44 [(38, 150), (42, 154)] rfl (by kernel_rfl) (by kernel_rfl)
          case hs =>
            intro wx hx
            rintro _ rfl _ rfl
            try simp only [Act.put, List.setIfInBounds_toArray, List.set_cons_zero, List.set_cons_succ]
            intro KK hK
            go_simp
            exact hK _ _ hx (Below.refl _ _) rfl
          apply Rel.rel_one2 45 [(38, 150), (43, 155)] rfl (by kernel_rfl) (by kernel_rfl)
          case hs =>
            intro wx hx
            rintro _ rfl _ rfl
            have f0 := (F.out wx hx).1
            have f1 := (F.out wx hx).2.1
            have f2 := (F.out wx hx).2.2.1
            have f3 := (F.out wx hx).2.2.2.1
            have f4 := (F.out wx hx).2.2.2.2.1
            have f6 := (F.out wx hx).2.2.2.2.2.1
            have f8 := (F.out wx hx).2.2.2.2.2.2
            try simp only [Act.put, List.setIfInBounds_toArray, List.set_cons_zero, List.set_cons_succ]
            intro KK hK
            go_simp
            exact hK _ _ hx (Below.refl _ _) rfl
          apply Rel.rel_one2 46 [(38, 150), (41, 153), (44, 156)] rfl (by kernel_rfl) (by kernel_rfl)
          case hs =>
            intro wx hx
            rintro _ rfl _ rfl _ rfl
            have f0 := (F.out wx hx).1
            have f1 := (F.out wx hx).2.1
            have f2 := (F.out wx hx).2.2.1
            have f3 := (F.out wx hx).2.2.2.1
            have f4 := (F.out wx hx).2.2.2.2.1
            have f6 := (F.out wx hx).2.2.2.2.2.1
            have f8 := (F.out wx hx).2.2.2.2.2.2
            try simp only [Act.put, List.setIfInBounds_toArray, List.set_cons_zero, List.set_cons_succ]
            intro KK hK
            go_simp
            go_at_call 12
            refine (equal_eq K2 _ _ _ _ _ _ wx hK2n (RD.out wx hx).2.2.1 (RD.out wx hx).2.2.2.1).mono ?_
            rintro e wy ⟨rfl, hby⟩
            exact hK _ _ (bchain hx hby) hby rfl
          apply Rel.rel_one2 47 [(38, 150), (45, 157)] rfl (by kernel_rfl) (by kernel_rfl)
          case hs =>
            intro wx hx
            rintro _ rfl _ rfl
            try simp only [Act.put, List.setIfInBounds_toArray, List.set_cons_zero, List.set_cons_succ]
            intro KK hK
            go_simp
            exact hK _ _ hx (Below.refl _ _) rfl
          apply Rel.rel_one2 48 [(38, 150), (46, 158)] rfl (by kernel_rfl) (by kernel_rfl)
          case hs =>
            intro wx hx
            rintro _ rfl _ rfl
            try simp only [Act.put, List.setIfInBounds_toArray, List.set_cons_zero, List.set_cons_succ]
            intro KK hK
            go_simp
            exact hK _ _ hx (Below.refl _ _) rfl
          refine Rel.rel_end [(0, 112), (1, 113), (2, 114), (3, 115), (4, 116), (5, 117), (6, 118), (7, 119), (8, 120), (9, 121), (10, 122), (11, 123), (12, 124), (13, 125), (14, 126), (15, 127), (16, 128), (17, 129), (18, 130), (19, 131), (20, 132), (21, 133), (22, 134), (23, 135), (24, 136), (25, 137), (26, 138), (27, 139), (28, 140), (29, 141), (30, 142), (31, 143), (32, 144), (33, 145), (34, 146), (35, 147), (36, 148), (37, 149), (38, 150), (39, 151), (40, 152), (41, 153), (42, 154), (43, 155), (44, 156), (45, 157), (46, 158), (47, 159)] (by kernel_rfl) (by kernel_rfl) ?_
          intro wx hx
          rintro _ rfl _ rfl _ rfl _ rfl _ rfl _ rfl _ rfl _ rfl _ rfl _ rfl _ rfl _ rfl _ rfl _ rfl _ rfl _ rfl _ rfl _ rfl _ rfl _ rfl _ rfl _ rfl _ rfl _ rfl _ rfl _ rfl _ rfl _ rfl _ rfl _ rfl _ rfl _ rfl _ rfl _ rfl _ rfl _ rfl _ rfl _ rfl _ rfl _ rfl _ rfl _ rfl _ rfl _ rfl _ rfl _ rfl _ rfl _ rfl
          try simp only [Act.put, List.setIfInBounds_toArray, List.set_cons_zero, List.set_cons_succ]
          refine Rel.valsD_ret ?_
          obtain ⟨w24, rfl⟩ : ∃ w24 : World, w24 = wx := ⟨_, rfl⟩
          have hb24 : Below w16.heap.size w16 w24 := hbr.trans (hx.mono hsr16)
          have hE24 := Lib.hid (hE16.out.below hb24)
          have hK24 := hK16.out.below hb24
          have hS0 : SlcP w24 (fun g => w16.heap.size ≤ g) B0 (hc K) := by
            intro hne
            obtain ⟨g, o, e1, hg, hcc⟩ := (RD.out w24 hx).1 hne
            exact ⟨g, o, e1, hg, HW0'.out g (by rw [e1]; rfl), hcc⟩
          have hC0 : w24.cell? ⟨gw, 0, none⟩ = some (.slice B0 K.length d0) := (F.out w24 hx).1
          have hOK : Hid (∀ g, w16.heap.size ≤ g → okf ks g) := Lib.hid fun g hg x hxm e => by
            obtain ⟨i, hi⟩ := List.mem_iff_getElem?.1 hxm
            have := ((hK16.out.own i x hi).2.lt g e).2
            omega
          have HGE : Hid (∀ g, g < W1 → okf ks g) := Lib.hid fun g hg x hxm e => by
            obtain ⟨i, hi⟩ := List.mem_iff_getElem?.1 hxm
            have := ((hK16.out.own i x hi).2.lt g e).1
            omega
          have HS0' := Lib.hid hS0
          have HC0' := Lib.hid hC0
          have hgw24 : gw < w24.heap.size := Nat.lt_of_lt_of_le hgwl hx.size
          have hb24w : Below W w0 w24 := hb16w.trans (hb24.mono (by have := hb16w.size; rw [HWW.out] at this; exact this))
          have hK24' := Lib.hid hK24
          clear F RD hS0 hC0 hE16 hK16 hb16w hb24 hx hbr hsr16 HW0' hgwl hK24
          go_wp2_with fail
          go_loopw [162] (fun i wr => ∃ (j : Nat) (cn : Nat → List Hit), j ≤ 9 ∧ i = .int .i64 j ∧ Kept wr W1 g14 ks cn ∧ Hid (∀ q x, q < j → ks[q]? = some x → cn q = wt q x.2.2.length) ∧ Foot w24 wr (okf ks)) (fun i _ => 9 - (intOf i).toNat)
          case atStart => exact ⟨0, _, by omega, rfl, hK24'.out, Lib.hid (fun q _ h => by omega), Foot.refl _ _⟩
          case round =>
            obtain ⟨j, cn, hj, rfl, hKr, hcn, hfr⟩ := hrel
            clear hK24'
            by_cases hlt : j < 9
            · have hd9 : decide ((j : Int) < 9) = true := by (simp; omega)
              obtain ⟨⟨Ax, cx, M⟩, hx⟩ : ∃ x, ks[j]? = some x := ⟨_, List.getElem?_eq_getElem (by rw [HKL.out]; exact hlt)⟩
              have hMl : M.length ≤ L.length := HLE.out _ (List.mem_of_getElem? hx)
              have p0 : wr.cell? ⟨g14, j, none⟩ = some (.slice Ax M.length cx) := hKr.row j _ hx
              have HX := Lib.hid hx
              clear hx
              go_wp2_with fail
              obtain ⟨wo, rfl⟩ : ∃ wo : World, wo = wr := ⟨_, rfl⟩
              go_loopw [169] (fun i wr2 => ∃ (q : Nat) (cn2 : Nat → List Hit), q ≤ M.length ∧ i = .int .i64 q ∧ Kept wr2 W1 g14 ks cn2 ∧ Hid (∀ r x, r < j → ks[r]? = some x → cn2 r = wt r x.2.2.length) ∧ Hid ((cn2 j).take q = (wt j M.length).take q) ∧ Foot w24 wr2 (okf ks)) (fun i _ => M.length - (intOf i).toNat)
              case atStart => exact ⟨0, cn, Nat.zero_le _, rfl, hKr, hcn, Lib.hid (by simp), hfr⟩
              case round =>
                clear hKr hcn hfr p0
                obtain ⟨q, cn2, hq, rfl, hKr, hcn, htk, hfr⟩ := hrel
                have hcl := (hKr.own j _ HX.out).1
                dsimp only at hcl
                by_cases hql : q < M.length
                · obtain ⟨gx, cap, hAx, _, _⟩ := (hKr.own j _ HX.out).2.form (by show 0 < M.length; omega)
                  simp only [lv, Value.slice.injEq, true_and] at hAx
                  obtain ⟨hAx, hcapx⟩ := hAx
                  clear hcapx
                  subst hAx
                  have hown : wr.ownsRow W1 29 2 (.slice (some ⟨gx, 0, none⟩) M.length cx) M.length (hc (cn2 j)) := (hKr.own j _ HX.out).2
                  obtain ⟨⟨y1, y2⟩, hy⟩ : ∃ y, (cn2 j)[q]? = some y := ⟨_, List.getElem?_eq_getElem (by omega)⟩
                  have c0 : wr.cell? ⟨gx, q * 2, none⟩ = some (.int .i64 y1) := (hown.cellAt (q * 2) (by omega)).trans (hc_at0 _ _ _ hy)
                  have c1 : wr.cell? ⟨gx, q * 2 + 1, none⟩ = some (.int .u64 y2) := (hown.cellAt (q * 2 + 1) (by omega)).trans (hc_at1 _ _ _ hy)
                  have z0 : wr.frozen? ⟨gx, q * 2, none⟩ = false := hown.frozenAt _
                  have z1 : wr.frozen? ⟨gx, q * 2 + 1, none⟩ = false := hown.frozenAt _
                  have u1 : IntKind.u64.wrap (q : Int) = (q : Int) := by rw [IntKind.wrap_u64]; omega
                  have HKR := Lib.hid hKr
                  have htk2 := Lib.hid (take_step (by omega) (wt_at hql) htk.out)
                  have hnok : ¬ okf ks gx := fun h => h _ (List.mem_of_getElem? HX.out) rfl
                  clear hKr hy hown
                  go_wp2_with fail
                  go_roundw
                  case rel => exact ⟨q + 1, _, by omega, by go_num, HKR.out.store HSEP.out HX.out HGK.out (-1000 - (j : Int)) (q : Int), Lib.hid (fun r x hr hx => by simp only [if_neg (Nat.ne_of_lt hr)]; exact hcn.out r x hr hx), Lib.hid (by simp only [if_true]; exact htk2.out), foot_store hfr hnok⟩
                  case measure => simp [intOf]; omega
                · obtain rfl : q = M.length := by omega
                  go_wp2_with fail
                  go_roundw
                  case rel => exact ⟨j + 1, cn2, by omega, by go_num, hKr, Lib.hid (fun r x hr hx => by
                    rcases Nat.lt_or_ge r j with h | h
                    · exact hcn.out r x h hx
                    · obtain rfl : r = j := by omega
                      rw [HX.out] at hx
                      obtain rfl := (Option.some.inj hx).symm
                      have := htk.out
                      rwa [List.take_of_length_le (by omega), List.take_of_length_le (by rw [wt_len]; exact Nat.le_refl _)] at this), hfr⟩
                  case measure => simp [intOf]; omega
            · obtain rfl : j = 9 := by omega
              try rw [show ((9 : Nat) : Int) = 9 from rfl]
              have hKR0 := hKr.toR fun q x hq => hcn.out q x (by have := (List.getElem?_eq_some_iff.1 hq).1; rw [HKL.out] at this; exact this) hq
              clear hKr hcn hlt
              obtain ⟨w34, rfl⟩ : ∃ w34 : World, w34 = wr := ⟨_, rfl⟩
              go_wp2_with fail
              go_loopw [184] (fun i wr => ∃ j : Nat, j ≤ 9 ∧ i = .int .i64 j ∧ KeptR wr W1 g14 ks j ∧ Foot w24 wr (okf ks)) (fun i _ => 9 - (intOf i).toNat)
              case atStart => exact ⟨0, by omega, rfl, hKR0, hfr⟩
              case round =>
                clear hKR0 hfr
                obtain ⟨j, hj, rfl, hKr, hfr⟩ := hrel
                by_cases hlt : j < 9
                · have hd9 : decide ((j : Int) < 9) = true := by (simp; omega)
                  obtain ⟨⟨Ax, cx, M⟩, hx⟩ : ∃ x, ks[j]? = some x := ⟨_, List.getElem?_eq_getElem (by rw [HKL.out]; exact hlt)⟩
                  have hMl : M.length ≤ L.length := HLE.out _ (List.mem_of_getElem? hx)
                  have p0 : wr.cell? ⟨g14, j, none⟩ = some (.slice Ax M.length cx) := hKr.row j _ hx
                  have hown0 : wr.ownsRow W1 29 2 (.slice Ax M.length cx) (M.length + 0) (hc (wt j M.length ++ [])) := by rw [List.append_nil]; exact hKr.own j _ (Nat.le_refl _) hx
                  have hA0 : Hid (∀ g o, Ax = some ⟨g, o, none⟩ → o = 0) := Lib.hid fun g o e => by
                    have := own_of (x := (Ax, cx, M)) (hKr.own j _ (Nat.le_refl _) hx) (g := g) (by simp [lv, Value.ownBlock, e])
                    rw [e] at this
                    simpa using this
                  have hR0 : Hid (Slc wr wr.heap.size Ax (hc (wt j M.length))) := Lib.hid (hKr.read j _ hx)
                  have hW1r : W1 ≤ wr.heap.size := by have := hfr.size; have := hz16; have := hgw24; omega
                  have HX := Lib.hid hx
                  have HKR := Lib.hid hKr
                  clear hx hKr
                  go_wp2_with fail
                  obtain ⟨wo, rfl⟩ : ∃ wo : World, wo = wr := ⟨_, rfl⟩
                  go_loopw [22, 23] (fun vx sj wr2 => ∃ (q : Nat) (E : List Hit), q ≤ 16 ∧ sj = .int .i64 q ∧ wr2.ownsRow W1 29 2 vx (M.length + q) (hc (wt j M.length ++ E)) ∧ Hid (Slc wr2 wr2.heap.size Ax (hc (wt j M.length))) ∧ Foot wo wr2 (fun g => (lv (Ax, cx, M)).ownBlock ≠ some g) ∧ Hid (vx.ownBlock = (lv (Ax, cx, M)).ownBlock ∨ ∀ g, vx.ownBlock = some g → wo.heap.size ≤ g)) (fun _ sj _ => 16 - (intOf sj).toNat)
                  case atStart => exact ⟨0, [], by omega, rfl, hown0, hR0, Foot.refl _ _, Lib.hid (.inl rfl)⟩
                  case round =>
                    clear hown0 hR0 p0
                    obtain ⟨q, E, hq, rfl, hown, hread, hff, hvb⟩ := hrel
                    have hs2 := hff.size
                    by_cases hql : q < 16
                    · have u1 : IntKind.u64.wrap (q : Int) = (q : Int) := by rw [IntKind.wrap_u64]; omega
                      have hbase : W1 ≤ wr.heap.size := Nat.le_trans hW1r hs2
                      go_wp2_with (at_builtin; refine wpList_append1_two rfl _ _ rfl hitElem hown rfl rfl rfl rfl (by omega) (by unfold maxLen; omega) hbase ?_)
                      intro v6 w6 hown6 hcase
                      have hown7 : w6.ownsRow W1 29 2 v6 (M.length + (q + 1)) (hc (wt j M.length ++ (E ++ [((-2000 - (j : Int), (q : Int)) : Hit)]))) := by
                        rw [← List.append_assoc, hc_append]; exact hown6
                      have hrd := Lib.hid (read_append hread.out hA0.out hown7 hcase)
                      obtain ⟨hf7, hv7⟩ := foot_append hff hvb.out hcase
                      have HV7 := Lib.hid hv7
                      clear hown6 hcase hv7 hown
                      go_wp2_with fail
                      go_roundw
                      case rel => exact ⟨q + 1, _, by omega, by go_num, hown7, hrd, hf7, HV7⟩
                      case measure => simp [intOf]; omega
                    · obtain rfl : q = 16 := by omega
                      clear hown
                      go_wp2_with fail
                      go_roundw
                      case rel => exact ⟨j + 1, by omega, by go_num, HKR.out.step HSEP.out HX.out HGK.out hff hread.out, hfr.trans (hff.imp fun g _ h => h _ (List.mem_of_getElem? HX.out))⟩
                      case measure => simp [intOf]; omega
                · obtain rfl : j = 9 := by omega
                  try rw [show ((9 : Nat) : Int) = 9 from rfl]
                  have HKR := Lib.hid hKr
                  clear hKr hlt hj
                  go_wp2_with fail
                  go_loopw [204] (fun i wr2 => ∃ j : Nat, j ≤ 9 ∧ i = .int .i64 j ∧ wr2 = wr) (fun i _ => 9 - (intOf i).toNat)
                  case atStart => exact ⟨0, by omega, rfl, rfl⟩
                  case round =>
                    obtain ⟨j, hj, rfl, hwr⟩ := hrel
                    subst hwr
                    by_cases hlt : j < 9
                    · have hd9 : decide ((j : Int) < 9) = true := by (simp; omega)
                      obtain ⟨⟨Ax, cx, M⟩, hx⟩ : ∃ x, ks[j]? = some x := ⟨_, List.getElem?_eq_getElem (by rw [HKL.out]; exact hlt)⟩
                      have hMl : M.length ≤ L.length := HLE.out _ (List.mem_of_getElem? hx)
                      have p0 := HKR.out.row j _ hx
                      have hread := HKR.out.read j _ hx
                      dsimp only [lv] at p0
                      dsimp only at hread
                      have hread' := Lib.hid hread
                      clear hx hread
                      go_wp2_with fail
                      go_loopw [211] (fun i wr3 => ∃ q : Nat, q ≤ M.length ∧ i = .int .i64 q ∧ Hid (wr3 = wr)) (fun i _ => M.length - (intOf i).toNat)
                      case atStart => exact ⟨0, Nat.zero_le _, rfl, Lib.hid rfl⟩
                      case round =>
                        obtain ⟨q, hq, rfl, hwq⟩ := hrel
                        obtain rfl := hwq.out
                        by_cases hql : q < M.length
                        · have hne2 : wt j M.length ≠ [] := by
                            intro e
                            have h0 := wt_len j M.length
                            rw [e] at h0
                            have h1 : 0 = M.length := h0
                            omega
                          obtain ⟨g2, o2, hA2, hg2, a2⟩ := slc_at hread'.out hne2
                          obtain ⟨q0, q1⟩ := a2 q _ (wt_at hql)
                          dsimp only at q0 q1
                          subst hA2
                          have u1 : IntKind.u64.wrap (q : Int) = (q : Int) := by rw [IntKind.wrap_u64]; omega
                          clear a2
                          go_wp2_with fail
                          go_roundw
                          case rel => exact ⟨q + 1, by omega, by go_num, (by first | exact Lib.hid rfl | exact Lib.hid trivial | trivial)⟩
                          case measure => simp [intOf]; omega
                        · obtain rfl : q = M.length := by omega
                          go_wp2_with fail
                          go_roundw
                          case rel => exact ⟨j + 1, by omega, by go_num, (by first | rfl | trivial)⟩
                          case measure => simp [intOf]; omega
                    · obtain rfl : j = 9 := by omega
                      try rw [show ((9 : Nat) : Int) = 9 from rfl]
                      clear hlt hj
                      have HF43 := Lib.hid hfr
                      have hE43 := env_okf2 hE24.out HEL.out HGE.out hfr
                      have HE43 := Lib.hid hE43
                      have hs43 : SlcP wr (fun g => w16.heap.size ≤ g) B0 (hc K) := HS0'.out.foot (hfr.imp fun g _ h => hOK.out g h)
                      have hc43 : wr.cell? ⟨gw, 0, none⟩ = some (.slice B0 K.length d0) := (hfr.cell (p := ⟨gw, 0, none⟩) hgw24 (hOK.out gw hgw)).trans HC0'.out
                      have hgw43 : gw < wr.heap.size := Nat.lt_of_lt_of_le hgw24 hfr.size
                      have hbw43 : Below W w0 wr := hb24w.trans (hfr.toBelow (fun k hk => HGE.out k (by omega)) (by have := hb24w.size; rw [HWW.out] at this; exact this))
                      have F0 : Hid (∀ wx, Below wr.heap.size wr wx → wx.cell? ⟨gw, 0, none⟩ = some (.slice B0 K.length d0)) := Lib.hid fun wx hx => (hx.cell (p := ⟨gw, 0, none⟩) hgw43).trans hc43
                      have RD0 : Hid (∀ wx, Below wr.heap.size wr wx → Slc wx wx.heap.size B0 (hc K)) := Lib.hid fun wx hx => (hs43.foot (Foot.ofBelow hx _)).slc
                      have hWr : W ≤ wr.heap.size := by have := hbw43.size; rw [HWW.out] at this; exact this
                      have HIT : Hid (∀ wx, Below wr.heap.size wr wx → Calls Try.prog 13 #[.pointer (some ⟨b, 0, none⟩)] wx (Makes wx K)) := Lib.hid fun wx hx => hits_any W b k vb K wx (HE43.out.below hx).kee (Nat.le_trans hWr hx.size) (by omega)
                      have HS43 := Lib.hid hs43
                      have HC43 := Lib.hid hc43
                      clear hs43 hc43 hE43 HKR hE24 HS0' HC0' hfr
                      go_upto_region 53 with fail
                      refine Rel.wp_region_rel (fun wx => Below wr.heap.size wr wx) (fun wa wb => Below wa.heap.size wa wb) (by kernel_rfl) (by kernel_rfl) (bdrew (Below.refl _ _)) (fun _ => Below.refl _ _) ?_
                      apply Rel.rel_one2 1 [] rfl (by kernel_rfl) (by kernel_rfl)
                      case hs =>
                        intro wx hx
                        try simp only [Act.put, List.setIfInBounds_toArray, List.set_cons_zero, List.set_cons_succ]
                        intro KK hK
                        go_simp
                        exact hK _ _ hx (Below.refl _ _) rfl
                      apply Rel.rel_one2 2 [] rfl (by kernel_rfl) (by kernel_rfl)
                      case hs =>
                        intro wx hx
                        try simp only [Act.put, List.setIfInBounds_toArray, List.set_cons_zero, List.set_cons_succ]
                        intro KK hK
                        go_simp
                        exact hK _ _ hx (Below.refl _ _) rfl
                      apply Rel.rel_one2 3 [(0, 226), (1, 227)] rfl (by kernel_rfl) (by kernel_rfl)
                      case hs =>
                        intro wx hx
                        rintro _ rfl _ rfl
                        have f0 := F0.out wx hx
                        try simp only [Act.put, List.setIfInBounds_toArray, List.set_cons_zero, List.set_cons_succ]
                        intro KK hK
                        go_simp
                        go_at_call 12
                        refine (env_equal (HE43.out.below hx) f1).mono ?_
                        rintro e wy ⟨rfl, hby⟩
                        exact hK _ _ (bchain hx hby) hby rfl
                      apply Rel.rel_one2 4 [(2, 228)] rfl (by kernel_rfl) (by kernel_rfl)
                      case hs =>
                        intro wx hx
                        rintro _ rfl
                        try simp only [Act.put, List.setIfInBounds_toArray, List.set_cons_zero, List.set_cons_succ]
                        intro KK hK
                        go_simp
                        exact hK _ _ hx (Below.refl _ _) rfl
                      apply Rel.rel_one2 5 [(3, 229)] rfl (by kernel_rfl) (by kernel_rfl)
                      case hs =>
                        intro wx hx
                        rintro _ rfl
                        try simp only [Act.put, List.setIfInBounds_toArray, List.set_cons_zero, List.set_cons_succ]
                        intro KK hK
                        go_simp
                        exact hK _ _ hx (Below.refl _ _) rfl
                      apply Rel.rel_one2 6 [(4, 230)] rfl (by kernel_rfl) (by kernel_rfl)
                      case hs =>
                        intro wx hx
                        rintro _ rfl
                        try simp only [Act.put, List.setIfInBounds_toArray, List.set_cons_zero, List.set_cons_succ]
                        intro KK hK
                        go_simp
                        exact hK _ _ hx (Below.refl _ _) rfl
                      apply Rel.rel_kind2 7 [(4, 230), (5, 231)] (SliceV (fun _ => True) K) rfl (by kernel_rfl) (by kernel_rfl) (sliceV_stable)
                      case hs =>
                        intro wx hx
                        rintro _ rfl _ rfl
                        have f0 := F0.out wx hx
                        try simp only [Act.put, List.setIfInBounds_toArray, List.set_cons_zero, List.set_cons_succ]
                        intro KK hK
                        go_simp
                        go_at_call 13
                        refine (HIT.out wx hx).mono ?_
                        rintro e wy ⟨A', c', rfl, own, hby⟩
                        exact hK _ _ (bchain hx hby) hby ⟨A', c', rfl, slcP_own own (fun _ _ _ => trivial)⟩
                      apply Rel.rel_one2 8 [(4, 230)] rfl (by kernel_rfl) (by kernel_rfl)
                      case hs =>
                        intro wx hx
                        rintro _ rfl
                        try simp only [Act.put, List.setIfInBounds_toArray, List.set_cons_zero, List.set_cons_succ]
                        intro KK hK
                        go_simp
                        exact hK _ _ hx (Below.refl _ _) rfl
                      apply Rel.rel_one2 9 [(4, 230), (7, 233)] rfl (by kernel_rfl) (by kernel_rfl)
                      case hs =>
                        intro wx hx
                        rintro _ rfl _ rfl
                        try simp only [Act.put, List.setIfInBounds_toArray, List.set_cons_zero, List.set_cons_succ]
                        intro KK hK
                        go_simp
                        exact hK _ _ hx (Below.refl _ _) rfl
                      apply Rel.rel_one2 10 [(4, 230), (8, 234)] rfl (by kernel_rfl) (by kernel_rfl)
                      case hs =>
                        intro wx hx
                        rintro _ rfl _ rfl
                        have f0 := F0.out wx hx
                        try simp only [Act.put, List.setIfInBounds_toArray, List.set_cons_zero, List.set_cons_succ]
                        intro KK hK
                        go_simp
                        exact hK _ _ hx (Below.refl _ _) rfl
                      apply Rel.rel_one2 11 [(4, 230), (6, 232), (9, 235)] rfl (by kernel_rfl) (by kernel_rfl)
                      case hs =>
                        intro wx hx
                        rintro _ rfl _ ⟨A232, c232, rfl, s232⟩ _ rfl
                        have f0 := F0.out wx hx
                        try simp only [Act.put, List.setIfInBounds_toArray, List.set_cons_zero, List.set_cons_succ]
                        intro KK hK
                        go_simp
                        go_at_call 12
                        refine (equal_eq K _ _ _ _ _ _ wx hKn s232.slc (RD0.out wx hx)).mono ?_
                        rintro e wy ⟨rfl, hby⟩
                        exact hK _ _ (bchain hx hby) hby rfl
                      apply Rel.rel_one2 12 [(4, 230), (10, 236)] rfl (by kernel_rfl) (by kernel_rfl)
                      case hs =>
                        intro wx hx
                        rintro _ rfl _ rfl
                        try simp only [Act.put, List.setIfInBounds_toArray, List.set_cons_zero, List.set_cons_succ]
                        intro KK hK
                        go_simp
                        exact hK _ _ hx (Below.refl _ _) rfl
                      apply Rel.rel_one2 13 [(4, 230), (11, 237)] rfl (by kernel_rfl) (by kernel_rfl)
                      case hs =>
                        intro wx hx
                        rintro _ rfl _ rfl
                        try simp only [Act.put, List.setIfInBounds_toArray, List.set_cons_zero, List.set_cons_succ]
                        intro KK hK
                        go_simp
                        exact hK _ _ hx (Below.refl _ _) rfl
                      refine Rel.rel_end [(0, 226), (1, 227), (2, 228), (3, 229), (4, 230), (5, 231), (6, 232), (7, 233), (8, 234), (9, 235), (10, 236), (11, 237), (12, 238)] (by kernel_rfl) (by kernel_rfl) ?_
                      intro wx hx
                      rintro _ rfl _ rfl _ rfl _ rfl _ rfl _ rfl _ ⟨A232, c232, rfl, s232⟩ _ rfl _ rfl _ rfl _ rfl _ rfl _ rfl
                      try simp only [Act.put, List.setIfInBounds_toArray, List.set_cons_zero, List.set_cons_succ]
                      refine Rel.valsD_ret ?_
                      obtain ⟨w53, rfl⟩ : ∃ w53 : World, w53 = wx := ⟨_, rfl⟩
                      have hE53 := HE43.out.below hx
                      have hs53 : SlcP w53 (fun g => w16.heap.size ≤ g) B0 (hc K) := HS43.out.foot (Foot.ofBelow hx _)
                      have hc53 := F0.out w53 hx
                      have hgw53 : gw < w53.heap.size := Nat.lt_of_lt_of_le hgw43 hx.size
                      have hbw53 : Below W w0 w53 := hbw43.trans (hx.mono hWr)
                      obtain ⟨g8, cap8, e8, hg8a, hg8b⟩ := hE53.inn.form (by omega)
                      simp only [Value.slice.injEq, true_and] at e8
                      obtain ⟨e8, hcap8⟩ := e8
                      clear hcap8
                      subst e8
                      have hg8 : g8 < W1 := HEL.out g8 (.inl rfl)
                      have hinn : Hid (w53.ownsRow W 29 2 (.slice (some ⟨g8, 0, none⟩) (L.length + 3) c8) (L.length + 3) (hc (L ++ marks))) := Lib.hid (by rw [hc_append]; exact hE53.inn)
                      have hXl : Hid ((L ++ marks).length = L.length + 3) := Lib.hid (by simp [marks])
                      have HE53 := Lib.hid hE53
                      have HS53 := Lib.hid hs53
                      have HC53 := Lib.hid hc53
                      clear hE53 hs53 hc53 F0 RD0 HIT HE43 HS43 HC43 HF43 s232 hx
                      go_wp2_with fail
                      go_loopw [241] (fun i wr => ∃ (j : Nat) (X : List Hit), j ≤ L.length ∧ i = .int .i64 j ∧ Hid (wr.ownsRow W 29 2 (.slice (some ⟨g8, 0, none⟩) (L.length + 3) c8) (L.length + 3) (hc X)) ∧ Hid (X.length = L.length + 3) ∧ Hid (X.take j = (pt L.length).take j) ∧ Foot w53 wr (fun g => g ≠ g8)) (fun i _ => L.length - (intOf i).toNat)
                      case atStart => exact ⟨0, _, Nat.zero_le _, rfl, hinn, hXl, Lib.hid (by simp), Foot.refl _ _⟩
                      case round =>
                        clear hinn hXl
                        obtain ⟨j, X, hj, rfl, hown, hXl, htk, hff⟩ := hrel
                        by_cases hlt : j < L.length
                        · obtain ⟨⟨y1, y2⟩, hy⟩ : ∃ y, X[j]? = some y := ⟨_, List.getElem?_eq_getElem (by rw [hXl.out]; omega)⟩
                          have c0 : wr.cell? ⟨g8, j * 2, none⟩ = some (.int .i64 y1) := (hown.out.cellAt (j * 2) (by omega)).trans (hc_at0 _ _ _ hy)
                          have c1 : wr.cell? ⟨g8, j * 2 + 1, none⟩ = some (.int .u64 y2) := (hown.out.cellAt (j * 2 + 1) (by omega)).trans (hc_at1 _ _ _ hy)
                          have z0 : wr.frozen? ⟨g8, j * 2, none⟩ = false := hown.out.frozenAt _
                          have z1 : wr.frozen? ⟨g8, j * 2 + 1, none⟩ = false := hown.out.frozenAt _
                          have htk2 := Lib.hid (take_step (by rw [hXl.out]; omega) (pt_at hlt) htk.out)
                          have u1 : IntKind.u64.wrap (j : Int) = (j : Int) := by rw [IntKind.wrap_u64]; omega
                          have u2 : IntKind.u64.wrap ((j : Int) * 3) = (j : Int) * 3 := by rw [IntKind.wrap_u64]; omega
                          clear hy
                          go_wp2_with fail
                          go_roundw
                          case rel => exact ⟨j + 1, X.set j ((j : Int), (j : Int) * 3), by omega, by go_num, Lib.hid (own_store hown.out _ _), Lib.hid (by rw [List.length_set]; exact hXl.out), htk2, foot_store hff (fun h => h rfl)⟩
                          case measure => simp [intOf]; omega
                        · obtain rfl : j = L.length := by omega
                          clear hlt hj
                          obtain ⟨w59, rfl⟩ : ∃ w59 : World, w59 = wr := ⟨_, rfl⟩
                          obtain ⟨Q, hQ⟩ : ∃ Q, Q = pt L.length := ⟨_, rfl⟩
                          have hQl : Q.length = L.length := by rw [hQ, pt_len]
                          have hslQ : Slc w59 w59.heap.size (some ⟨g8, 0, none⟩) (hc Q) := by
                            have h9 := slc_take (slc_own hown.out) L.length
                            rw [htk.out, ← hQ, List.take_of_length_le (by omega)] at h9
                            exact h9
                          have hkee : Keeps w59 W b k vb K := TwoWalk.keeps_foot HE53.out.kee hff (fun e => HE53.out.n8b (by rw [e]; rfl)) (fun g e e2 => HE53.out.n8v g (by rw [e2]; rfl) e)
                          have hs59 : SlcP w59 (fun g => w16.heap.size ≤ g) B0 (hc K) := HS53.out.foot (hff.imp fun g _ h => by omega)
                          have hc59 : w59.cell? ⟨gw, 0, none⟩ = some (.slice B0 K.length d0) := (hff.cell (p := ⟨gw, 0, none⟩) hgw53 (by show gw ≠ g8; omega)).trans HC53.out
                          have hgw59 : gw < w59.heap.size := Nat.lt_of_lt_of_le hgw53 hff.size
                          have hW53 : W ≤ w53.heap.size := by have := hbw53.size; rw [HWW.out] at this; exact this
                          have hbw59 : Below W w0 w59 := hbw53.trans (hff.toBelow (fun k hk => by omega) hW53)
                          have hW59 : W ≤ w59.heap.size := Nat.le_trans hW53 hff.size
                          have hba : Below w59.heap.size w59 (w59.alloc (.cells #[] 29)) := balloc (Below.refl _ _) _
                          have hrow0 : (w59.alloc (.cells #[] 29)).ownsRow w59.heap.size 29 2 (.slice (some ⟨w59.heap.size, 0, none⟩) 0 0) 0 (hc []) := World.ownsRow_lit (e := 29) (size := 2) (base := w59.heap.size) w59 #[] 0 (Nat.le_refl _) (by decide) rfl
                          have hsa := hslQ.below hba (Nat.le_refl _)
                          have hlq : (hc Q).length = L.length * 2 := by rw [hc_len, hQl]
                          have HSQ := Lib.hid hslQ
                          have HKE := Lib.hid hkee
                          have HS59 := Lib.hid hs59
                          have HC59 := Lib.hid hc59
                          have HQL := Lib.hid hQl
                          clear hslQ hkee hs59 hc59 hQl hQ htk hXl hown HE53 HS53 HC53 hbw53 hff hgw53
                          go_wp2_with (at_builtin; refine wpList_append_slc rfl _ _ rfl hitElem hrow0 rfl rfl hlq hsa (hc_one Q) (by omega) (by unfold maxLen; omega) hba.size ?_)
                          intro v28 w60 own28 hg60 _
                          (try rw [Nat.zero_add] at own28)
                          have own28' : w60.ownsRow w59.heap.size 29 2 v28 L.length (hc Q) := own28
                          have hb60 : Below w59.heap.size w59 w60 := below_own hba hrow0 hba.size hg60
                          obtain ⟨A28, c28, rfl⟩ := own_slice own28'
                          obtain ⟨T1, hT1⟩ : ∃ T1, T1 = tk k.toNat Q := ⟨_, rfl⟩
                          obtain ⟨T2, hT2⟩ : ∃ T2, T2 = tk k.toNat (behind (h1, h2) Q) := ⟨_, rfl⟩
                          have hT1n : T1.length ≤ 8796093022208 := by rw [hT1, tk_len]; have := HQL.out; omega
                          have hT2n : T2.length ≤ 8796093022208 := by have h3 := behind_le (h1, h2) Q; have := HQL.out; rw [hT2, tk_len]; omega
                          have slq : Hid (∀ wx, Below w60.heap.size w60 wx → Slc wx w60.heap.size (some ⟨g8, 0, none⟩) (hc Q) ∧ Slc wx w60.heap.size A28 (hc Q)) := Lib.hid fun wx hx =>
                            ⟨((HSQ.out.below hb60 (Nat.le_refl _)).mono hb60.size).below hx (Nat.le_refl _), (slc_own own28').below hx (Nat.le_refl _)⟩
                          have SEL1 : Hid (∀ wx, Below w60.heap.size w60 wx → Calls Try.prog 15 #[.slice (some ⟨g8, 0, none⟩) L.length c8, .int .i64 k] wx (Makes wx T1)) := Lib.hid fun wx hx => by
                            have := select_any Q (some ⟨g8, 0, none⟩) c8 w60.heap.size k wx hx.size (slq.out wx hx).1 (by rw [HQL.out]; omega)
                            rwa [HQL.out, ← hT1] at this
                          have SEL2 : Hid (∀ wx, Below w60.heap.size w60 wx → Calls Try.prog 15 #[.slice A28 L.length c28, .int .i64 k] wx (Makes wx T1)) := Lib.hid fun wx hx => by
                            have := select_any Q A28 c28 w60.heap.size k wx hx.size (slq.out wx hx).2 (by rw [HQL.out]; omega)
                            rwa [HQL.out, ← hT1] at this
                          have AFT1 : Hid (∀ wx, Below w60.heap.size w60 wx → Calls Try.prog 23 #[.slice (some ⟨g8, 0, none⟩) L.length c8, .agg #[.int .i64 h1, .int .u64 h2], .int .i64 k] wx (Makes wx T2)) := Lib.hid fun wx hx => by
                            have := after_any Q (some ⟨g8, 0, none⟩) c8 w60.heap.size h1 h2 k wx hx.size (slq.out wx hx).1 (by rw [HQL.out]; omega)
                            rwa [HQL.out, ← hT2] at this
                          have AFT2 : Hid (∀ wx, Below w60.heap.size w60 wx → Calls Try.prog 23 #[.slice A28 L.length c28, .agg #[.int .i64 h1, .int .u64 h2], .int .i64 k] wx (Makes wx T2)) := Lib.hid fun wx hx => by
                            have := after_any Q A28 c28 w60.heap.size h1 h2 k wx hx.size (slq.out wx hx).2 (by rw [HQL.out]; omega)
                            rwa [HQL.out, ← hT2] at this
                          have hbw60 : Below W w0 w60 := hbw59.trans (hb60.mono hW59)
                          have C1 : Hid (∀ wx, Below w60.heap.size w60 wx → wx.cell? ⟨w.heap.size, 0, none⟩ = some (.int .i64 h1) ∧ wx.cell? ⟨w.heap.size, 1, none⟩ = some (.int .u64 h2)) := Lib.hid fun wx hx => C0.out wx (hbw60.trans (hx.mono (Nat.le_trans hW59 hb60.size)))
                          have HT1 := Lib.hid hT1
                          clear own28 own28' hrow0 hsa hlq hg60 hba hT1 hT2
                          go_upto_region 61 with fail
                          refine Rel.wp_region_rel (fun wx => Below w60.heap.size w60 wx) (fun wa wb => Below wa.heap.size wa wb) (by kernel_rfl) (by kernel_rfl) (bdrew (Below.refl _ _)) (fun _ => Below.refl _ _) ?_
                          apply Rel.rel_one2 1 [] rfl (by kernel_rfl) (by kernel_rfl)
                          case hs =>
                            intro wx hx
                            try simp only [Act.put, List.setIfInBounds_toArray, List.set_cons_zero, List.set_cons_succ]
                            intro KK hK
                            go_simp
                            exact hK _ _ hx (Below.refl _ _) rfl
                          apply Rel.rel_one2 2 [] rfl (by kernel_rfl) (by kernel_rfl)
                          case hs =>
                            intro wx hx
                            try simp only [Act.put, List.setIfInBounds_toArray, List.set_cons_zero, List.set_cons_succ]
                            intro KK hK
                            go_simp
                            exact hK _ _ hx (Below.refl _ _) rfl
                          apply Rel.rel_kind2 3 [(0, 256), (1, 257)] (SliceV (fun _ => True) T1) rfl (by kernel_rfl) (by kernel_rfl) (sliceV_stable)
                          case hs =>
                            intro wx hx
                            rintro _ rfl _ rfl
                            have f0 := (C1.out wx hx).1
                            have f1' := (C1.out wx hx).2
                            try simp only [Act.put, List.setIfInBounds_toArray, List.set_cons_zero, List.set_cons_succ]
                            intro KK hK
                            go_simp
                            go_at_call 15
                            refine (SEL1.out wx hx).mono ?_
                            rintro e wy ⟨A', c', rfl, own, hby⟩
                            exact hK _ _ (bchain hx hby) hby ⟨A', c', rfl, slcP_own own (fun _ _ _ => trivial)⟩
                          apply Rel.rel_one2 4 [] rfl (by kernel_rfl) (by kernel_rfl)
                          case hs =>
                            intro wx hx
                            try simp only [Act.put, List.setIfInBounds_toArray, List.set_cons_zero, List.set_cons_succ]
                            intro KK hK
                            go_simp
                            exact hK _ _ hx (Below.refl _ _) rfl
                          apply Rel.rel_one2 5 [] rfl (by kernel_rfl) (by kernel_rfl)
                          case hs =>
                            intro wx hx
                            try simp only [Act.put, List.setIfInBounds_toArray, List.set_cons_zero, List.set_cons_succ]
                            intro KK hK
                            go_simp
                            exact hK _ _ hx (Below.refl _ _) rfl
                          apply Rel.rel_kind2 6 [(3, 259), (4, 260)] (SliceV (fun _ => True) T1) rfl (by kernel_rfl) (by kernel_rfl) (sliceV_stable)
                          case hs =>
                            intro wx hx
                            rintro _ rfl _ rfl
                            have f0 := (C1.out wx hx).1
                            have f1' := (C1.out wx hx).2
                            try simp only [Act.put, List.setIfInBounds_toArray, List.set_cons_zero, List.set_cons_succ]
                            intro KK hK
                            go_simp
                            go_at_call 15
                            refine (SEL2.out wx hx).mono ?_
                            rintro e wy ⟨A', c', rfl, own, hby⟩
                            exact hK _ _ (bchain hx hby) hby ⟨A', c', rfl, slcP_own own (fun _ _ _ => trivial)⟩
                          apply Rel.rel_one2 7 [(2, 258), (5, 261)] rfl (by kernel_rfl) (by kernel_rfl)
                          case hs =>
                            intro wx hx
                            rintro _ ⟨A258, c258, rfl, s258⟩ _ ⟨A261, c261, rfl, s261⟩
                            have f0 := (C1.out wx hx).1
                            have f1' := (C1.out wx hx).2
                            try simp only [Act.put, List.setIfInBounds_toArray, List.set_cons_zero, List.set_cons_succ]
                            intro KK hK
                            go_simp
                            go_at_call 12
                            refine (equal_eq T1 _ _ _ _ _ _ wx hT1n s258.slc s261.slc).mono ?_
                            rintro e wy ⟨rfl, hby⟩
                            exact hK _ _ (bchain hx hby) hby rfl
                          apply Rel.rel_one2 8 [(6, 262)] rfl (by kernel_rfl) (by kernel_rfl)
                          case hs =>
                            intro wx hx
                            rintro _ rfl
                            try simp only [Act.put, List.setIfInBounds_toArray, List.set_cons_zero, List.set_cons_succ]
                            intro KK hK
                            go_simp
                            exact hK _ _ hx (Below.refl _ _) rfl
                          apply Rel.rel_one2 9 [(7, 263)] rfl (by kernel_rfl) (by kernel_rfl)
                          case hs =>
                            intro wx hx
                            rintro _ rfl
                            try simp only [Act.put, List.setIfInBounds_toArray, List.set_cons_zero, List.set_cons_succ]
                            intro KK hK
                            go_simp
                            exact hK _ _ hx (Below.refl _ _) rfl
                          apply Rel.rel_one2 10 [(8, 264)] rfl (by kernel_rfl) (by kernel_rfl)
                          case hs =>
                            intro wx hx
                            rintro _ rfl
                            try simp only [Act.put, List.setIfInBounds_toArray, List.set_cons_zero, List.set_cons_succ]
                            intro KK hK
                            go_simp
                            exact hK _ _ hx (Below.refl _ _) rfl
                          apply Rel.rel_one2 11 [(8, 264)] rfl (by kernel_rfl) (by kernel_rfl)
                          case hs =>
                            intro wx hx
                            rintro _ rfl
                            have f0 := (C1.out wx hx).1
                            have f1' := (C1.out wx hx).2
                            try simp only [Act.put, List.setIfInBounds_toArray, List.set_cons_zero, List.set_cons_succ]
                            intro KK hK
                            go_simp
                            exact hK _ _ hx (Below.refl _ _) rfl
                          apply Rel.rel_one2 12 [(8, 264)] rfl (by kernel_rfl) (by kernel_rfl)
                          case hs =>
                            intro wx hx
                            rintro _ rfl
                            try simp only [Act.put, List.setIfInBounds_toArray, List.set_cons_zero, List.set_cons_succ]
                            intro KK hK
                            go_simp
                            exact hK _ _ hx (Below.refl _ _) rfl
                          apply Rel.rel_kind2 13 [(8, 264), (9, 265), (10, 266), (11, 267)] (SliceV (fun _ => True) T2) rfl (by kernel_rfl) (by kernel_rfl) (sliceV_stable)
                          case hs =>
                            intro wx hx
                            rintro _ rfl _ rfl _ rfl _ rfl
                            have f0 := (C1.out wx hx).1
                            have f1' := (C1.out wx hx).2
                            try simp only [Act.put, List.setIfInBounds_toArray, List.set_cons_zero, List.set_cons_succ]
                            intro KK hK
                            go_simp
                            go_at_call 23
                            refine (AFT1.out wx hx).mono ?_
                            rintro e wy ⟨A', c', rfl, own, hby⟩
                            exact hK _ _ (bchain hx hby) hby ⟨A', c', rfl, slcP_own own (fun _ _ _ => trivial)⟩
                          apply Rel.rel_one2 14 [(8, 264)] rfl (by kernel_rfl) (by kernel_rfl)
                          case hs =>
                            intro wx hx
                            rintro _ rfl
                            try simp only [Act.put, List.setIfInBounds_toArray, List.set_cons_zero, List.set_cons_succ]
                            intro KK hK
                            go_simp
                            exact hK _ _ hx (Below.refl _ _) rfl
                          apply Rel.rel_one2 15 [(8, 264)] rfl (by kernel_rfl) (by kernel_rfl)
                          case hs =>
                            intro wx hx
                            rintro _ rfl
                            have f0 := (C1.out wx hx).1
                            have f1' := (C1.out wx hx).2
                            try simp only [Act.put, List.setIfInBounds_toArray, List.set_cons_zero, List.set_cons_succ]
                            intro KK hK
                            go_simp
                            exact hK _ _ hx (Below.refl _ _) rfl
                          apply Rel.rel_one2 16 [(8, 264)] rfl (by kernel_rfl) (by kernel_rfl)
                          case hs =>
                            intro wx hx
                            rintro _ rfl
                            try simp only [Act.put, List.setIfInBounds_toArray, List.set_cons_zero, List.set_cons_succ]
                            intro KK hK
                            go_simp
                            exact hK _ _ hx (Below.refl _ _) rfl
                          apply Rel.rel_kind2 17 [(8, 264), (13, 269), (14, 270), (15, 271)] (SliceV (fun _ => True) T2) rfl (by kernel_rfl) (by kernel_rfl) (sliceV_stable)
                          case hs =>
                            intro wx hx
                            rintro _ rfl _ rfl _ rfl _ rfl
                            have f0 := (C1.out wx hx).1
                            have f1' := (C1.out wx hx).2
                            try simp only [Act.put, List.setIfInBounds_toArray, List.set_cons_zero, List.set_cons_succ]
                            intro KK hK
                            go_simp
                            go_at_call 23
                            refine (AFT2.out wx hx).mono ?_
                            rintro e wy ⟨A', c', rfl, own, hby⟩
                            exact hK _ _ (bchain hx hby) hby ⟨A', c', rfl, slcP_own own (fun _ _ _ => trivial)⟩
                          apply Rel.rel_one2 18 [(8, 264), (12, 268), (16, 272)] rfl (by kernel_rfl) (by kernel_rfl)
                          case hs =>
                            intro wx hx
                            rintro _ rfl _ ⟨A268, c268, rfl, s268⟩ _ ⟨A272, c272, rfl, s272⟩
                            have f0 := (C1.out wx hx).1
                            have f1' := (C1.out wx hx).2
                            try simp only [Act.put, List.setIfInBounds_toArray, List.set_cons_zero, List.set_cons_succ]
                            intro KK hK
                            go_simp
                            go_at_call 12
                            refine (equal_eq T2 _ _ _ _ _ _ wx hT2n s268.slc s272.slc).mono ?_
                            rintro e wy ⟨rfl, hby⟩
                            exact hK _ _ (bchain hx hby) hby rfl
                          apply Rel.rel_one2 19 [(8, 264), (17, 273)] rfl (by kernel_rfl) (by kernel_rfl)
                          case hs =>
                            intro wx hx
                            rintro _ rfl _ rfl
                            try simp only [Act.put, List.setIfInBounds_toArray, List.set_cons_zero, List.set_cons_succ]
                            intro KK hK
                            go_simp
                            exact hK _ _ hx (Below.refl _ _) rfl
                          apply Rel.rel_one2 20 [(8, 264), (18, 274)] rfl (by kernel_rfl) (by kernel_rfl)
                          case hs =>
                            intro wx hx
                            rintro _ rfl _ rfl
                            try simp only [Act.put, List.setIfInBounds_toArray, List.set_cons_zero, List.set_cons_succ]
                            intro KK hK
                            go_simp
                            exact hK _ _ hx (Below.refl _ _) rfl
                          refine Rel.rel_end [(0, 256), (1, 257), (2, 258), (3, 259), (4, 260), (5, 261), (6, 262), (7, 263), (8, 264), (9, 265), (10, 266), (11, 267), (12, 268), (13, 269), (14, 270), (15, 271), (16, 272), (17, 273), (18, 274), (19, 275)] (by kernel_rfl) (by kernel_rfl) ?_
                          intro wx hx
                          rintro _ rfl _ rfl _ ⟨A258, c258, rfl, s258⟩ _ rfl _ rfl _ ⟨A261, c261, rfl, s261⟩ _ rfl _ rfl _ rfl _ rfl _ rfl _ rfl _ ⟨A268, c268, rfl, s268⟩ _ rfl _ rfl _ rfl _ ⟨A272, c272, rfl, s272⟩ _ rfl _ rfl _ rfl
                          try simp only [Act.put, List.setIfInBounds_toArray, List.set_cons_zero, List.set_cons_succ]
                          refine Rel.valsD_ret ?_
                          obtain ⟨w61, rfl⟩ : ∃ w61 : World, w61 = wx := ⟨_, rfl⟩
                          have hb61 : Below w59.heap.size w59 w61 := hb60.trans (hx.mono hb60.size)
                          have hW61 : W ≤ w61.heap.size := Nat.le_trans hW59 hb61.size
                          have hbw61 : Below W w0 w61 := hbw59.trans (hb61.mono hW59)
                          have slq2 : Hid (∀ wx, Below w61.heap.size w61 wx → Slc wx w61.heap.size (some ⟨g8, 0, none⟩) (hc Q) ∧ Slc wx w61.heap.size A28 (hc Q)) := Lib.hid fun wx hx2 => by
                            obtain ⟨a1, a2⟩ := slq.out wx (hx.trans (hx2.mono hx.size))
                            exact ⟨a1.mono hx.size, a2.mono hx.size⟩
                          have SEL3 : Hid (∀ wx, Below w61.heap.size w61 wx → Calls Try.prog 15 #[.slice A28 L.length c28, .int .i64 k] wx (Makes wx T1)) := Lib.hid fun wx hx2 => SEL2.out wx (hx.trans (hx2.mono hx.size))
                          have e1 : allHits [((some ⟨g8, 0, none⟩, c8, Q) : Lst)] = Q := by simp [allHits]
                          have JN1 : Hid (∀ wx, Below w61.heap.size w61 wx → ∀ g, Blk wx g 26 #[.slice (some ⟨g8, 0, none⟩) L.length c8] → Calls Try.prog 16 #[.slice (some ⟨g, 0, none⟩) 1 1, .int .i64 k] wx (Makes wx T1)) := Lib.hid fun wx hx2 g hg => by
                            have := join_any [(some ⟨g8, 0, none⟩, c8, Q)] (some ⟨g, 0, none⟩) 1 wx.heap.size k wx (Nat.le_refl _) ⟨fun _ => ⟨g, 0, rfl, hg.lt, fun j u hu => by rw [Nat.zero_add, hg.cell, ← HQL.out]; simpa [lv] using hu⟩, fun y hy => by
                              have : y = (some ⟨g8, 0, none⟩, c8, Q) := by simpa using hy
                              subst this
                              exact ((slq2.out wx hx2).1).mono hx2.size⟩ (by simp) (by rw [e1, HQL.out]; omega)
                            rwa [e1, ← HT1.out] at this
                          have hgw61 : gw < w61.heap.size := Nat.lt_of_lt_of_le hgw59 hb61.size
                          have F0 : Hid (∀ wx, Below w61.heap.size w61 wx → wx.cell? ⟨gw, 0, none⟩ = some (.slice B0 K.length d0)) := Lib.hid fun wx hx2 => (hx2.cell (p := ⟨gw, 0, none⟩) hgw61).trans ((hb61.cell (p := ⟨gw, 0, none⟩) hgw59).trans HC59.out)
                          have RD0 : Hid (∀ wx, Below w61.heap.size w61 wx → Slc wx wx.heap.size B0 (hc K)) := Lib.hid fun wx hx2 => (HS59.out.foot ((Foot.ofBelow hb61 _).trans (Foot.ofBelow hx2 _))).slc
                          have HIT : Hid (∀ wx, Below w61.heap.size w61 wx → Calls Try.prog 13 #[.pointer (some ⟨b, 0, none⟩)] wx (Makes wx K)) := Lib.hid fun wx hx2 => hits_any W b k vb K wx (TwoWalk.keeps_foot HKE.out ((Foot.ofBelow hb61 (fun _ => True)).trans (Foot.ofBelow hx2 _)) trivial (fun _ _ => trivial)) (Nat.le_trans hW61 hx2.size) (by omega)
                          clear e1 SEL1 SEL2 AFT1 AFT2 C1 slq slq2 hx s258 s261 s268 s272
                          go_upto_region 63 with fail
                          refine Rel.wp_region_rel (fun wx => Below w61.heap.size w61 wx) (fun wa wb => Below wa.heap.size wa wb) (by kernel_rfl) (by kernel_rfl) (bdrew (Below.refl _ _)) (fun _ => Below.refl _ _) ?_
                          apply Rel.rel_one2 1 [] rfl (by kernel_rfl) (by kernel_rfl)
                          case hs =>
                            intro wx hx
                            try simp only [Act.put, List.setIfInBounds_toArray, List.set_cons_zero, List.set_cons_succ]
                            intro KK hK
                            go_simp
                            exact hK _ _ hx (Below.refl _ _) rfl
                          apply Rel.rel_kind2 2 [(0, 276)] (BlkU #[.slice (some ⟨g8, 0, none⟩) L.length c8]) rfl (by kernel_rfl) (by kernel_rfl) (blkU_stable)
                          case hs =>
                            intro wx hx
                            rintro _ rfl
                            try simp only [Act.put, List.setIfInBounds_toArray, List.set_cons_zero, List.set_cons_succ]
                            intro KK hK
                            go_simp
                            exact hK _ _ (balloc hx _) (balloc (Below.refl _ _) _) ⟨wx.heap.size, rfl, Blk.new _ _ _⟩
                          apply Rel.rel_one2 3 [] rfl (by kernel_rfl) (by kernel_rfl)
                          case hs =>
                            intro wx hx
                            try simp only [Act.put, List.setIfInBounds_toArray, List.set_cons_zero, List.set_cons_succ]
                            intro KK hK
                            go_simp
                            exact hK _ _ hx (Below.refl _ _) rfl
                          apply Rel.rel_kind2 4 [(1, 277), (2, 278)] (SliceV (fun _ => True) T1) rfl (by kernel_rfl) (by kernel_rfl) (sliceV_stable)
                          case hs =>
                            intro wx hx
                            rintro _ ⟨g277, rfl, k277⟩ _ rfl
                            have f0 := F0.out wx hx
                            try simp only [Act.put, List.setIfInBounds_toArray, List.set_cons_zero, List.set_cons_succ]
                            intro KK hK
                            go_simp
                            go_at_call 16
                            refine (JN1.out wx hx g277 k277).mono ?_
                            rintro e wy ⟨A', c', rfl, own, hby⟩
                            exact hK _ _ (bchain hx hby) hby ⟨A', c', rfl, slcP_own own (fun _ _ _ => trivial)⟩
                          apply Rel.rel_one2 5 [] rfl (by kernel_rfl) (by kernel_rfl)
                          case hs =>
                            intro wx hx
                            try simp only [Act.put, List.setIfInBounds_toArray, List.set_cons_zero, List.set_cons_succ]
                            intro KK hK
                            go_simp
                            exact hK _ _ hx (Below.refl _ _) rfl
                          apply Rel.rel_one2 6 [] rfl (by kernel_rfl) (by kernel_rfl)
                          case hs =>
                            intro wx hx
                            try simp only [Act.put, List.setIfInBounds_toArray, List.set_cons_zero, List.set_cons_succ]
                            intro KK hK
                            go_simp
                            exact hK _ _ hx (Below.refl _ _) rfl
                          apply Rel.rel_kind2 7 [(4, 280), (5, 281)] (SliceV (fun _ => True) T1) rfl (by kernel_rfl) (by kernel_rfl) (sliceV_stable)
                          case hs =>
                            intro wx hx
                            rintro _ rfl _ rfl
                            have f0 := F0.out wx hx
                            try simp only [Act.put, List.setIfInBounds_toArray, List.set_cons_zero, List.set_cons_succ]
                            intro KK hK
                            go_simp
                            go_at_call 15
                            refine (SEL3.out wx hx).mono ?_
                            rintro e wy ⟨A', c', rfl, own, hby⟩
                            exact hK _ _ (bchain hx hby) hby ⟨A', c', rfl, slcP_own own (fun _ _ _ => trivial)⟩
                          apply Rel.rel_one2 8 [(3, 279), (6, 282)] rfl (by kernel_rfl) (by kernel_rfl)
                          case hs =>
                            intro wx hx
                            rintro _ ⟨A279, c279, rfl, s279⟩ _ ⟨A282, c282, rfl, s282⟩
                            have f0 := F0.out wx hx
                            try simp only [Act.put, List.setIfInBounds_toArray, List.set_cons_zero, List.set_cons_succ]
                            intro KK hK
                            go_simp
                            go_at_call 12
                            refine (equal_eq T1 _ _ _ _ _ _ wx hT1n s279.slc s282.slc).mono ?_
                            rintro e wy ⟨rfl, hby⟩
                            exact hK _ _ (bchain hx hby) hby rfl
                          apply Rel.rel_one2 9 [(7, 283)] rfl (by kernel_rfl) (by kernel_rfl)
                          case hs =>
                            intro wx hx
                            rintro _ rfl
                            try simp only [Act.put, List.setIfInBounds_toArray, List.set_cons_zero, List.set_cons_succ]
                            intro KK hK
                            go_simp
                            exact hK _ _ hx (Below.refl _ _) rfl
                          apply Rel.rel_one2 10 [(8, 284)] rfl (by kernel_rfl) (by kernel_rfl)
                          case hs =>
                            intro wx hx
                            rintro _ rfl
                            try simp only [Act.put, List.setIfInBounds_toArray, List.set_cons_zero, List.set_cons_succ]
                            intro KK hK
                            go_simp
                            exact hK _ _ hx (Below.refl _ _) rfl
                          apply Rel.rel_kind2 11 [(8, 284), (9, 285)] (SliceV (fun _ => True) K) rfl (by kernel_rfl) (by kernel_rfl) (sliceV_stable)
                          case hs =>
                            intro wx hx
                            rintro _ rfl _ rfl
                            have f0 := F0.out wx hx
                            try simp only [Act.put, List.setIfInBounds_toArray, List.set_cons_zero, List.set_cons_succ]
                            intro KK hK
                            go_simp
                            go_at_call 13
                            refine (HIT.out wx hx).mono ?_
                            rintro e wy ⟨A', c', rfl, own, hby⟩
                            exact hK _ _ (bchain hx hby) hby ⟨A', c', rfl, slcP_own own (fun _ _ _ => trivial)⟩
                          apply Rel.rel_one2 12 [(8, 284)] rfl (by kernel_rfl) (by kernel_rfl)
                          case hs =>
                            intro wx hx
                            rintro _ rfl
                            try simp only [Act.put, List.setIfInBounds_toArray, List.set_cons_zero, List.set_cons_succ]
                            intro KK hK
                            go_simp
                            exact hK _ _ hx (Below.refl _ _) rfl
                          apply Rel.rel_one2 13 [(8, 284), (11, 287)] rfl (by kernel_rfl) (by kernel_rfl)
                          case hs =>
                            intro wx hx
                            rintro _ rfl _ rfl
                            try simp only [Act.put, List.setIfInBounds_toArray, List.set_cons_zero, List.set_cons_succ]
                            intro KK hK
                            go_simp
                            exact hK _ _ hx (Below.refl _ _) rfl
                          apply Rel.rel_one2 14 [(8, 284), (12, 288)] rfl (by kernel_rfl) (by kernel_rfl)
                          case hs =>
                            intro wx hx
                            rintro _ rfl _ rfl
                            have f0 := F0.out wx hx
                            try simp only [Act.put, List.setIfInBounds_toArray, List.set_cons_zero, List.set_cons_succ]
                            intro KK hK
                            go_simp
                            exact hK _ _ hx (Below.refl _ _) rfl
                          apply Rel.rel_one2 15 [(8, 284), (10, 286), (13, 289)] rfl (by kernel_rfl) (by kernel_rfl)
                          case hs =>
                            intro wx hx
                            rintro _ rfl _ ⟨A286, c286, rfl, s286⟩ _ rfl
                            have f0 := F0.out wx hx
                            try simp only [Act.put, List.setIfInBounds_toArray, List.set_cons_zero, List.set_cons_succ]
                            intro KK hK
                            go_simp
                            go_at_call 12
                            refine (equal_eq K _ _ _ _ _ _ wx hKn s286.slc (RD0.out wx hx)).mono ?_
                            rintro e wy ⟨rfl, hby⟩
                            exact hK _ _ (bchain hx hby) hby rfl
                          apply Rel.rel_one2 16 [(8, 284), (14, 290)] rfl (by kernel_rfl) (by kernel_rfl)
                          case hs =>
                            intro wx hx
                            rintro _ rfl _ rfl
                            try simp only [Act.put, List.setIfInBounds_toArray, List.set_cons_zero, List.set_cons_succ]
                            intro KK hK
                            go_simp
                            exact hK _ _ hx (Below.refl _ _) rfl
                          apply Rel.rel_one2 17 [(15, 291)] rfl (by kernel_rfl) (by kernel_rfl)
                          case hs =>
                            intro wx hx
                            rintro _ rfl
                            try simp only [Act.put, List.setIfInBounds_toArray, List.set_cons_zero, List.set_cons_succ]
                            intro KK hK
                            go_simp
                            exact hK _ _ hx (Below.refl _ _) rfl
                          refine Rel.rel_end [(0, 276), (1, 277), (2, 278), (3, 279), (4, 280), (5, 281), (6, 282), (7, 283), (8, 284), (9, 285), (10, 286), (11, 287), (12, 288), (13, 289), (14, 290), (15, 291), (16, 6)] (by kernel_rfl) (by kernel_rfl) ?_
                          intro wx hx
                          rintro _ rfl _ ⟨g277, rfl, k277⟩ _ rfl _ ⟨A279, c279, rfl, s279⟩ _ rfl _ rfl _ ⟨A282, c282, rfl, s282⟩ _ rfl _ rfl _ rfl _ ⟨A286, c286, rfl, s286⟩ _ rfl _ rfl _ rfl _ rfl _ rfl _ rfl
                          try simp only [Act.put, List.setIfInBounds_toArray, List.set_cons_zero, List.set_cons_succ]
                          refine Rel.valsD_ret ?_
                          go_wp2_with fail
                          go_ret
                          exact ⟨rfl, HB0.out.trans ((hbw61.trans (hx.mono hW61)).mono (Nat.le_of_lt hWlt))⟩
end Go.Proofs.Ytmddnilephneiaa.TopkMemoryWalk
