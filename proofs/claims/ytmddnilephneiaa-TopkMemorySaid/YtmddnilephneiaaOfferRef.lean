/-
  The walk of the reference's Offer.
-/
import Derived.Test.YtmddnilephneiaaRefSelect
import Derived.Test.YtmddnilephneiaaOfferPlain
namespace Go.Proofs.Ytmddnilephneiaa.OfferRef
open Go.RowKit Go.PlainAid HitPlain HeapPlain KeepPlain Base HitBase PushWalk OfferWalk KeepWalk TopkWalk Rows2 RefBetter SortedWalk RefSelect OfferPlain

/-- What the reference's Offer hands back. -/
def OfferGives (w : World) (P : Nat → Prop) (k : Nat) (S : List Hit) (h : Hit) (e : Ending) (w' : World) : Prop :=
  ∃ A c, e = .returned (.tuple #[.slice A ((insS h S).take k).length c, .bool (kept k S h)]) ∧ SlcP w' (fun g => P g ∨ w.heap.size ≤ g) A (hc ((insS h S).take k)) ∧ Below w.heap.size w w'

theorem SlcP.at_ {w : World} {P : Nat → Prop} {A : Option Addr} {L : List Hit} (h : SlcP w P A (hc L)) (hne : L ≠ []) :
    ∃ g o, A = some ⟨g, o, none⟩ ∧ g < w.heap.size ∧ P g ∧ ∀ j x, L[j]? = some x → w.cell? ⟨g, o + j * 2, none⟩ = some (.int .i64 x.1) ∧ w.cell? ⟨g, o + j * 2 + 1, none⟩ = some (.int .u64 x.2) := by
  obtain ⟨g, o, e, hg, hp, hcell⟩ := h (by cases L with | nil => exact absurd rfl hne | cons x r => simp [hc, hitC])
  exact ⟨g, o, e, hg, hp, fun j x hx => ⟨hcell _ _ (hc_at0 L j x hx), by have := hcell _ _ (hc_at1 L j x hx); rwa [← Nat.add_assoc] at this⟩⟩

theorem SlcP.take {w : World} {P : Nat → Prop} {A : Option Addr} {L : List Hit} (h : SlcP w P A (hc L)) (n : Nat) : SlcP w P A (hc (L.take n)) := by
  intro hne
  have hL : hc L = hc (L.take n) ++ hc (L.drop n) := by rw [← hc_append, List.take_append_drop]
  obtain ⟨g, o, e, hg, hp, hc'⟩ := h (by rw [hL]; intro e; exact hne (List.append_eq_nil_iff.1 e).1)
  refine ⟨g, o, e, hg, hp, fun j u hu => hc' j u ?_⟩
  rw [hL, List.getElem?_append_left (List.getElem?_eq_some_iff.1 hu).1]
  exact hu

set_option maxRecDepth 100000 in
set_option maxHeartbeats 8000000 in
theorem offer_ref (P : Nat → Prop) (S : List Hit) (A : Option Addr) (c : Nat) (h1 h2 k : Int) (w : World) (h : SlcP w P A (hc S)) (hs : Srt S) (hl : S.length ≤ k.toNat) (hn : (S.length + 1) * 16 ≤ 140737488355328) :
    Calls Try.prog 29 #[.slice A S.length c, .agg #[.int .i64 h1, .int .u64 h2], .int .i64 k] w (OfferGives w P k.toNat S (h1, h2)) := by
  have hb0 : Below w.heap.size w (w.alloc (.cells #[.int .i64 h1, .int .u64 h2] 29)) := (Below.refl _ _).alloc (Nat.le_refl _) _
  have b0 : (w.alloc (.cells #[.int .i64 h1, .int .u64 h2] 29)).cell? ⟨w.heap.size, 0, none⟩ = some (.int .i64 h1) := by rw [World.cell?_alloc_mark]; rfl
  have b1 : (w.alloc (.cells #[.int .i64 h1, .int .u64 h2] 29)).cell? ⟨w.heap.size, 1, none⟩ = some (.int .u64 h2) := by rw [World.cell?_alloc_mark]; rfl
  have hs0 : (w.alloc (.cells #[.int .i64 h1, .int .u64 h2] 29)).heap.size = w.heap.size + 1 := by simp
  generalize hw0 : w.alloc (.cells #[.int .i64 h1, .int .u64 h2] 29) = w0 at hb0 b0 b1 hs0
  have HW0 := Lib.hid hw0
  have HS0 := Lib.hid hs0
  have hlw : w.heap.size < w0.heap.size := by omega
  have hp0 : SlcP w0 P A (hc S) := h.foot (Foot.ofBelow hb0 _)
  have B0 := Bw.cell (B := w0.heap.size) b0 hlw
  have B1 := Bw.cell (B := w0.heap.size) b1 hlw
  clear hw0 hs0
  by_cases hk : k < 1
  · -- nothing is kept
    have hS : S = [] := List.eq_nil_of_length_eq_zero (by omega)
    subst hS
    have f1 : decide (k < 1) = true := by simpa using hk
    have HZ : Hid (k.toNat = 0) := Lib.hid (by omega)
    go_enter Try.func29, Try.ntmps29
    go_upto_region 1 with fail
    rw [HW0.out]
    refine wp_region_bw w0.heap.size (by kernel_rfl) (by kernel_rfl) ?_
    repeat (go_big_quiet_step ((fail)))
    refine wpQuiet_nil ?_
    intro _ hw'
    obtain ⟨⟨wq, hbq⟩, hw''⟩ := hw'
    subst hw''
    go_wp2_with fail
    go_ret2
    rw [HZ.out]
    refine ⟨A, c, ?_, fun hne => absurd rfl hne, hb0.trans (hbq.mono hb0.size)⟩
    rw [List.take_zero, kept_zero]
    rfl
  have f1 : decide (k < 1) = false := by simpa using hk
  have HK : Hid ((insS (h1, h2) S).take k.toNat = S ∧ kept k.toNat S (h1, h2) = false ∧ S.length = k.toNat ∧ (∃ r, S[S.length - 1]? = some r ∧ btr (h1, h2) r = false ∧ 0 < S.length) ∨
      kept k.toNat S (h1, h2) = true ∧ (S.length < k.toNat ∨ S.length = k.toNat ∧ ∃ r, S[S.length - 1]? = some r ∧ btr (h1, h2) r = true ∧ 0 < S.length)) := Lib.hid (by
    rcases Nat.lt_or_ge S.length k.toNat with hr | hr
    · exact .inr ⟨kept_room hr, .inl hr⟩
    · rcases List.eq_nil_or_concat S with rfl | ⟨S0, r, e⟩
      · simp at hr; omega
      · rw [List.concat_eq_append] at e
        subst e
        have hke : (S0 ++ [r]).length = k.toNat := by omega
        have hlast : (S0 ++ [r])[(S0 ++ [r]).length - 1]? = some r := by simp
        cases hb : btr (h1, h2) r
        · exact .inl ⟨take_no hs hke hb, by rw [kept_full hke, hb], hke, r, hlast, hb, by simp⟩
        · exact .inr ⟨by rw [kept_full hke, hb], .inr ⟨hke, r, hlast, hb, by simp⟩⟩)
  have kt1 : k ≤ (k.toNat : Int) := by omega
  have kt2 : (k.toNat : Int) ≤ k := by omega
  have hSn : S.length ≤ 8796093022208 := by omega
  rcases HK.out with ⟨hT, hkp, hle, r, hr, hb, hpos⟩ | ⟨hkp, hor⟩
  · -- it is not kept
    obtain ⟨m, hm⟩ : ∃ m : Nat, S.length = m + 1 := ⟨S.length - 1, by omega⟩
    have hne : S ≠ [] := by intro e; rw [e] at hpos; simp at hpos
    obtain ⟨g, o, rfl, hg, hPg, hcell⟩ := SlcP.at_ hp0 hne
    rw [hm, Nat.add_sub_cancel] at hr
    obtain ⟨q0, q1⟩ := hcell m r hr
    have Q0 := Bw.cell (B := w0.heap.size) q0 hg
    have Q1 := Bw.cell (B := w0.heap.size) q1 hg
    have f2 : decide (k ≤ (S.length : Int)) = true := by simp; omega
    have i1 : (0 : Int) ≤ (m : Int) := by omega
    have i2 : (m : Int) < (S.length : Int) := by omega
    have iw : IntKind.i64.wrap ((S.length : Int) - 1) = (m : Int) := by rw [IntWalk.i64_in _ (by omega)]; omega
    have HB := Lib.hid hb
    have HT := Lib.hid hT
    have HKP := Lib.hid hkp
    clear hb hT hkp hm hr hle q0 q1 hcell kt1 kt2
    go_enter Try.func29, Try.ntmps29
    go_upto_region 1 with fail
    rw [HW0.out]
    refine wp_region_bw w0.heap.size (by kernel_rfl) (by kernel_rfl) ?_
    repeat (go_big_quiet_step ((go_at_call 26; refine (calls_bw (v := .bool false) (Nat.le_refl _) ?_); refine (refBetter_any _ _ _ _ _).mono ?_; rw [HB.out]; intro _ _ h; exact h)))
    refine wpQuiet_nil ?_
    intro _ hw'
    obtain ⟨⟨wq, hbq⟩, hw''⟩ := hw'
    subst hw''
    go_wp2_with fail
    go_ret2
    refine ⟨some ⟨g, o, none⟩, c, ?_, ?_, hb0.trans (hbq.mono hb0.size)⟩
    · rw [HT.out, HKP.out]; rfl
    · rw [HT.out]
      exact (hp0.foot (Foot.ofBelow hbq _)).imp fun _ _ hp => .inl hp
  have HKP := Lib.hid hkp
  clear hkp
  cases hor
  case' inl hroom =>
    have f2 : decide (k ≤ (S.length : Int)) = false := by simp; omega
    go_enter Try.func29, Try.ntmps29
    go_upto_region 1 with fail
    rw [HW0.out]
    refine wp_region_bw w0.heap.size (by kernel_rfl) (by kernel_rfl) ?_
    repeat (go_big_quiet_step ((fail)))
    refine wpQuiet_nil ?_
    intro _ hw'
    obtain ⟨⟨wq, hbq⟩, hw''⟩ := hw'
    subst hw''
    clear f2 hroom
  case' inr hfull =>
    obtain ⟨hle, r, hr, hb, hpos⟩ := hfull
    obtain ⟨m, hm⟩ : ∃ m : Nat, S.length = m + 1 := ⟨S.length - 1, by omega⟩
    have hne : S ≠ [] := by intro e; rw [e] at hpos; simp at hpos
    obtain ⟨g, o, rfl, hg, hPg, hcell⟩ := SlcP.at_ hp0 hne
    rw [hm, Nat.add_sub_cancel] at hr
    obtain ⟨q0, q1⟩ := hcell m r hr
    have Q0 := Bw.cell (B := w0.heap.size) q0 hg
    have Q1 := Bw.cell (B := w0.heap.size) q1 hg
    have f2 : decide (k ≤ (S.length : Int)) = true := by simp; omega
    have i1 : (0 : Int) ≤ (m : Int) := by omega
    have i2 : (m : Int) < (S.length : Int) := by omega
    have iw : IntKind.i64.wrap ((S.length : Int) - 1) = (m : Int) := by rw [IntWalk.i64_in _ (by omega)]; omega
    have HB := Lib.hid hb
    clear hb hm hr hle q0 q1 hcell
    go_enter Try.func29, Try.ntmps29
    go_upto_region 1 with fail
    rw [HW0.out]
    refine wp_region_bw w0.heap.size (by kernel_rfl) (by kernel_rfl) ?_
    repeat (go_big_quiet_step ((go_at_call 26; refine (calls_bw (v := .bool true) (Nat.le_refl _) ?_); refine (refBetter_any _ _ _ _ _).mono ?_; rw [HB.out]; intro _ _ h; exact h)))
    refine wpQuiet_nil ?_
    intro _ hw'
    obtain ⟨⟨wq, hbq⟩, hw''⟩ := hw'
    subst hw''
    clear f2 i1 i2 iw HB Q0 Q1 hpos hne hPg hg
    generalize (some (⟨g, o, none⟩ : Addr)) = A at h hp0 ⊢
  all_goals
    clear B0 B1
    rename_i wq
    have hbq1 : Below (w.heap.size + 1) w0 wq := HS0.out ▸ hbq
    clear hbq
    go_wp2_with fail
    go_loopw [8, 9, 10] (fun va pb i wr => ∃ (j : Nat) (put : Bool) (O : List Hit), j ≤ S.length ∧ i = .int .i64 j ∧ pb = .bool put ∧ Hid (OfferPlain.Way S (h1, h2) j put O) ∧ O.length ≤ j + 1 ∧ wr.ownsRow (w.heap.size + 1) 29 2 va O.length (hc O) ∧ Below (w.heap.size + 1) w0 wr) (fun _ _ i _ => S.length - (intOf i).toNat)
    case atStart => exact ⟨0, false, [], Nat.zero_le _, rfl, rfl, Lib.hid (way_zero _ _), by simp, World.ownsRow_nil _ _ _ _, hbq1⟩
    case round =>
      obtain ⟨j, put, O, hj, rfl, rfl, hway, hOl, hown, hbr⟩ := hrel
      clear hbq1
      have hsr := hbr.size
      rw [HS0.out] at hsr
      have hbw : Below w.heap.size w wr := hb0.trans (hbr.mono (by omega))
      have CC : Hid (∀ wx, Below (w.heap.size + 1) w0 wx → wx.cell? ⟨w.heap.size, 0, none⟩ = some (.int .i64 h1) ∧ wx.cell? ⟨w.heap.size, 1, none⟩ = some (.int .u64 h2)) :=
        Lib.hid fun wx hx => ⟨(hx.cell (p := ⟨w.heap.size, 0, none⟩) (by show w.heap.size < _; omega)).trans b0, (hx.cell (p := ⟨w.heap.size, 1, none⟩) (by show w.heap.size < _; omega)).trans b1⟩
      by_cases hlt : j < S.length
      · obtain ⟨⟨x1, x2⟩, hx⟩ : ∃ x, S[j]? = some x := ⟨_, List.getElem?_eq_getElem hlt⟩
        have hne : S ≠ [] := by intro e; rw [e] at hlt; simp at hlt
        obtain ⟨g2, o2, hA, hg2, hP2, a2⟩ := SlcP.at_ hp0 hne
        cases hA
        have hg2' : g2 < w.heap.size + 1 := by rw [HS0.out] at hg2; exact hg2
        have XX : Hid (∀ wx, Below (w.heap.size + 1) w0 wx → wx.cell? ⟨g2, o2 + j * 2, none⟩ = some (.int .i64 x1) ∧ wx.cell? ⟨g2, o2 + j * 2 + 1, none⟩ = some (.int .u64 x2)) :=
          Lib.hid fun wx hx' => ⟨(hx'.cell (p := ⟨g2, o2 + j * 2, none⟩) hg2').trans (a2 j _ hx).1, (hx'.cell (p := ⟨g2, o2 + j * 2 + 1, none⟩) hg2').trans (a2 j _ hx).2⟩
        have HX := Lib.hid hx
        clear a2 hx
        obtain ⟨c0, c1⟩ := CC.out wr hbr
        obtain ⟨q0, q1⟩ := XX.out wr hbr
        have i1 : (0 : Int) ≤ (j : Int) := by omega
        have i2 : (j : Int) < (S.length : Int) := by omega
        have C0 := Bw.cell (B := wr.heap.size) c0 (Nat.lt_of_lt_of_le (by show w.heap.size < w.heap.size + 1; omega) hsr)
        have C1 := Bw.cell (B := wr.heap.size) c1 (Nat.lt_of_lt_of_le (by show w.heap.size < w.heap.size + 1; omega) hsr)
        have Q0 := Bw.cell (B := wr.heap.size) q0 (show g2 < wr.heap.size by omega)
        have Q1 := Bw.cell (B := wr.heap.size) q1 (show g2 < wr.heap.size by omega)
        clear c0 c1 q0 q1
        cases put
        · have hwl : O.length ≤ j := by have := way_len hway.out hj; simp at this; omega
          cases hb : btr (h1, h2) (x1, x2)
          · have HB := Lib.hid hb
            have hway2 := Lib.hid (way_not hway.out HX.out hb)
            clear hb
            go_upto_region 8 with fail
            refine wp_region_bw wr.heap.size (by kernel_rfl) (by kernel_rfl) ?_
            repeat (go_big_quiet_step ((go_at_call 26; refine (calls_bw (v := .bool false) (Nat.le_refl _) ?_); refine (refBetter_any _ _ _ _ _).mono ?_; rw [HB.out]; intro _ _ h; exact h)))
            refine wpQuiet_nil ?_
            intro _ hw'
            obtain ⟨⟨wq, hbq⟩, hw''⟩ := hw'
            subst hw''
            rename_i wb
            have hob := own_below hown hbq
            have hbb : Below (w.heap.size + 1) w0 wb := hbr.trans (hbq.mono hsr)
            obtain ⟨d0, d1⟩ := XX.out wb hbb
            have hsb := Nat.le_trans hsr hbq.size
            clear C0 C1 Q0 Q1 hown hbq
            go_wp2_with (at_builtin; refine wpList_append1 rfl _ _ rfl hitElem hob rfl rfl rfl rfl (by omega) (by unfold maxLen; omega) hsb ?_)
            intro v6 w6 hown6 hg6 hb6
            have hb7 := hb6 w0 hbb
            go_wp2_with fail
            go_roundw
            case rel => exact ⟨j + 1, false, O ++ [(x1, x2)], by omega, by go_num, rfl, hway2, by simp; omega, by rw [List.length_append, hc_append]; exact hown6, hb7⟩
            case measure => simp [intOf]; omega
          · have HB := Lib.hid hb
            have hway2 := Lib.hid (way_now hway.out HX.out hb)
            clear hb
            go_upto_region 8 with fail
            refine wp_region_bw wr.heap.size (by kernel_rfl) (by kernel_rfl) ?_
            repeat (go_big_quiet_step ((go_at_call 26; refine (calls_bw (v := .bool true) (Nat.le_refl _) ?_); refine (refBetter_any _ _ _ _ _).mono ?_; rw [HB.out]; intro _ _ h; exact h)))
            refine wpQuiet_nil ?_
            intro _ hw'
            obtain ⟨⟨wq, hbq⟩, hw''⟩ := hw'
            subst hw''
            rename_i wb
            have hob := own_below hown hbq
            have hbb : Below (w.heap.size + 1) w0 wb := hbr.trans (hbq.mono hsr)
            obtain ⟨d0, d1⟩ := CC.out wb hbb
            have hsb := Nat.le_trans hsr hbq.size
            clear C0 C1 Q0 Q1 hown hbq
            go_wp2_with (at_builtin; refine wpList_append1 rfl _ _ rfl hitElem hob rfl rfl rfl rfl (by omega) (by unfold maxLen; omega) hsb ?_)
            intro v6 w6 hown6 hg6 hb6
            have hb7 := hb6 w0 hbb
            have hs7 := hb7.size
            rw [HS0.out] at hs7
            obtain ⟨e0, e1⟩ := XX.out w6 hb7
            clear d0 d1 hob
            go_wp2_with (at_builtin; refine wpList_append1 rfl _ _ rfl hitElem hown6 rfl rfl rfl rfl (by omega) (by unfold maxLen; omega) hs7 ?_)
            intro v8 w8 hown8 hg8 hb8
            have hb9 := hb8 w0 hb7
            go_wp2_with fail
            go_roundw
            case rel => exact ⟨j + 1, true, (O ++ [(h1, h2)]) ++ [(x1, x2)], by omega, by go_num, rfl, hway2, by have := way_len hway2.out (by omega); simp at this ⊢; omega, by rw [List.append_assoc, List.length_append, hc_append]; exact hown8, hb9⟩
            case measure => simp [intOf]; omega
        · have hway2 := Lib.hid (way_put hway.out HX.out)
          go_upto_region 8 with fail
          refine wp_region_bw wr.heap.size (by kernel_rfl) (by kernel_rfl) ?_
          repeat (go_big_quiet_step ((fail)))
          refine wpQuiet_nil ?_
          intro _ hw'
          obtain ⟨⟨wq, hbq⟩, hw''⟩ := hw'
          subst hw''
          rename_i wb
          have hob := own_below hown hbq
          have hbb : Below (w.heap.size + 1) w0 wb := hbr.trans (hbq.mono hsr)
          obtain ⟨d0, d1⟩ := XX.out wb hbb
          have hsb := Nat.le_trans hsr hbq.size
          clear C0 C1 Q0 Q1 hown hbq
          go_wp2_with (at_builtin; refine wpList_append1 rfl _ _ rfl hitElem hob rfl rfl rfl rfl (by omega) (by unfold maxLen; omega) hsb ?_)
          intro v6 w6 hown6 hg6 hb6
          have hb7 := hb6 w0 hbb
          go_wp2_with fail
          go_roundw
          case rel => exact ⟨j + 1, true, O ++ [(x1, x2)], by omega, by go_num, rfl, hway2, by have := way_len hway2.out (by omega); simp at this ⊢; omega, by rw [List.length_append, hc_append]; exact hown6, hb7⟩
          case measure => simp [intOf]; omega
      · obtain rfl : j = S.length := by omega
        have HL : Hid ((insS (h1, h2) S).length = S.length + 1) := Lib.hid (ins_len _ _)
        obtain ⟨T, hT⟩ : ∃ T, T = insS (h1, h2) S := ⟨_, rfl⟩
        rw [← hT] at HL
        have HTI := Lib.hid hT
        clear hlt
        cases put
        case' false =>
          have hO : O ++ [(h1, h2)] = T := by rw [hT]; exact way_end_not hway.out
          have HO := Lib.hid hO
          obtain ⟨d0, d1⟩ := CC.out wr hbr
          have hwl : O.length ≤ S.length := by have := way_len hway.out (Nat.le_refl _); simp at this; omega
          clear hO hT
          go_wp2_with (at_builtin; refine wpList_append1 rfl _ _ rfl hitElem hown rfl rfl rfl rfl (by omega) (by unfold maxLen; omega) hsr ?_)
          intro v6 w6 hown6 hg6 hb6
          have hb7 := hb6 w0 hbr
          have hown7 : w6.ownsRow (w.heap.size + 1) 29 2 v6 T.length (hc T) := by rw [← HO.out, List.length_append, hc_append]; exact hown6
          clear d0 d1 hown6 hown
        case' true =>
          have hO : T = O := by rw [hT]; exact (way_end_put hway.out).symm
          clear hT
          subst hO
          have hb7 := hbr
          have hown7 := hown
          clear hown
        all_goals
          obtain ⟨A7, c7, rfl⟩ := own_slice hown7
          have hc7 := own_cap hown7
          rw [HL.out] at hc7
          have H7 := Lib.hid hown7
          clear hown7 hway
          by_cases hgt : k < (T.length : Int)
          · have k1 : (0 : Int) ≤ k := by omega
            have k2 : k ≤ (c7 : Int) := by rw [HL.out] at hgt; omega
            have hl2 : (T.take k.toNat).length = k.toNat := by rw [List.length_take, HL.out]; rw [HL.out] at hgt; omega
            have HL2 := Lib.hid hl2
            clear hl2
            go_wp2_with fail
            go_ret2
            unfold OfferGives
            rw [← HTI.out, HKP.out]
            refine ⟨A7, c7, by rw [HL2.out]; rfl, ?_, hb0.trans (hb7.mono (by omega))⟩
            have hsl := slcP_own H7.out (P := fun g => P g ∨ w.heap.size ≤ g) fun g h1 _ => .inr (by omega)
            exact SlcP.take hsl k.toNat
          · have hl2 : T.take k.toNat = T := List.take_of_length_le (by omega)
            have HL2 := Lib.hid hl2
            clear hl2
            go_wp2_with fail
            go_ret2
            unfold OfferGives
            rw [← HTI.out, HKP.out, HL2.out]
            exact ⟨A7, c7, rfl, slcP_own H7.out fun g h1 _ => .inr (by omega), hb0.trans (hb7.mono (by omega))⟩
end Go.Proofs.Ytmddnilephneiaa.OfferRef
