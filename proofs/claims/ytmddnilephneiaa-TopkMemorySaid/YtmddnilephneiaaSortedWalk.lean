/-
  The walk of the reference's Sorted.
-/
import Derived.Test.YtmddnilephneiaaRows2
import Derived.Test.YtmddnilephneiaaMergePlain
import Derived.Test.YtmddnilephneiaaRefBetter
namespace Go.Proofs.Ytmddnilephneiaa.SortedWalk
open Go.RowKit Go.PlainAid HitPlain HeapPlain KeepPlain Base HitBase PushWalk OfferWalk KeepWalk TopkWalk Rows2 MergePlain RefBetter

theorem slc_drop {w : World} {B g o : Nat} {L : List Hit} (h : Slc w B (some ⟨g, o, none⟩) (hc L)) (n : Nat) : Slc w B (some ⟨g, o + n * 2, none⟩) (hc (L.drop n)) := by
  intro hne
  have hL : hc L = hc (L.take n) ++ hc (L.drop n) := by rw [← hc_append, List.take_append_drop]
  have hn : n < L.length := by
    rcases Nat.lt_or_ge n L.length with h' | h'
    · exact h'
    · rw [List.drop_eq_nil_of_le h'] at hne; exact absurd rfl hne
  obtain ⟨g', o', e, hg, hc'⟩ := h (by rw [hL]; intro e; exact hne (List.append_eq_nil_iff.1 e).2)
  injection e with e
  injection e with e1 e2
  subst e1 e2
  refine ⟨g, _, rfl, hg, fun j u hu => ?_⟩
  rw [Nat.add_assoc]
  refine hc' _ u ?_
  rw [hL, List.getElem?_append_right (by rw [hc_len, List.length_take]; omega), hc_len, List.length_take]
  rw [show n * 2 + j - min n L.length * 2 = j by omega]
  exact hu
theorem slc_take {w : World} {B : Nat} {A : Option Addr} {L : List Hit} (h : Slc w B A (hc L)) (n : Nat) : Slc w B A (hc (L.take n)) := by
  intro hne
  have hL : hc L = hc (L.take n) ++ hc (L.drop n) := by rw [← hc_append, List.take_append_drop]
  obtain ⟨g, o, e, hg, hc'⟩ := h (by rw [hL]; intro e; exact hne (List.append_eq_nil_iff.1 e).1)
  refine ⟨g, o, e, hg, fun j u hu => hc' j u ?_⟩
  rw [hL, List.getElem?_append_left (List.getElem?_eq_some_iff.1 hu).1]
  exact hu

theorem own_cap {w : World} {B size n c : Nat} {e : TypeId} {A : Option Addr} {xs : List Value} (h : w.ownsRow B e size (.slice A n c) n xs) : n ≤ c := by
  rcases h.2 with ⟨h', h0⟩ | ⟨g, cap, cur, h', _, _, hnc, _⟩
  · simp only [Value.slice.injEq] at h'
    omega
  · simp only [Value.slice.injEq] at h'
    omega

set_option maxRecDepth 100000 in
set_option maxHeartbeats 4000000 in
theorem sorted_short (L : List Hit) (A : Option Addr) (c B : Nat) (w : World) (hB : B ≤ w.heap.size) (h : Slc w B A (hc L)) (h2 : L.length < 2) :
    Calls Try.prog 35 #[.slice A L.length c] w (Makes w (srt L)) := by
  have hrow0 : (w.alloc (.cells #[] 29)).ownsRow w.heap.size 29 2 (.slice (some ⟨w.heap.size, 0, none⟩) 0 0) 0 (hc []) := World.ownsRow_lit (e := 29) (size := 2) (base := w.heap.size) w #[] 0 (Nat.le_refl _) (by decide) rfl
  have hb1 : Below w.heap.size w (w.alloc (.cells #[] 29)) := (Below.refl _ _).alloc (Nat.le_refl _) _
  have hsl := h.below hb1 hB
  have e2 : (L.length : Int) < 2 := by omega
  have hS := Lib.hid (srt_short h2)
  clear h
  go_enter Try.func35, Try.ntmps35
  go_wp2_with (at_builtin; refine wpList_append_slc rfl _ _ rfl hitElem hrow0 rfl rfl (hc_len L) hsl (hc_one L) (by omega) (by unfold maxLen; omega) hb1.size ?_)
  intro v' w' hown hg hat
  have hb2 : Below w.heap.size w w' := below_own hb1 hrow0 hb1.size hg
  (try rw [Nat.zero_add] at hown)
  obtain ⟨A', c', rfl⟩ := own_slice hown
  go_wp2_with fail
  go_ret
  rw [hS.out]
  exact ⟨A', c', rfl, hown, hb2⟩
set_option maxRecDepth 100000 in
set_option maxHeartbeats 4000000 in
theorem sorted_ref : ∀ (n : Nat) (L : List Hit) (A : Option Addr) (c B : Nat) (w : World), L.length ≤ n → B ≤ w.heap.size → Slc w B A (hc L) → L.length ≤ c → L.length * 16 ≤ 140737488355328 →
    Calls Try.prog 35 #[.slice A L.length c] w (Makes w (srt L)) := by
  intro n
  induction n with
  | zero => exact fun L A c B w hLn hB h _ _ => sorted_short L A c B w hB h (by omega)
  | succ n ih => ?_
  intro L A c B w hLn hB h hcap hn
  by_cases h2 : L.length < 2
  · exact sorted_short L A c B w hB h h2
  · have e2 : ¬ (L.length : Int) < 2 := by omega
    obtain ⟨g, o, rfl, hg, _⟩ := slc_at h (by intro e; rw [e] at h2; simp at h2)
    have hl1 : (L.take (L.length / 2)).length = L.length / 2 := by rw [List.length_take]; omega
    have hl2 : (L.drop (L.length / 2)).length = L.length - L.length / 2 := by rw [List.length_drop]
    have I1 := ih (L.take (L.length / 2)) (some ⟨g, o, none⟩) c B w (by omega) hB (slc_take h _) (by omega) (by omega)
    rw [hl1] at I1
    have J1 := Lib.hid I1
    have hcq : ¬ c = L.length / 2 := by omega
    obtain ⟨X, hX⟩ : ∃ X, X = srt (L.take (L.length / 2)) := ⟨_, rfl⟩
    obtain ⟨Y, hY⟩ : ∃ Y, Y = srt (L.drop (L.length / 2)) := ⟨_, rfl⟩
    have hM : mg X Y = srt L := by rw [hX, hY]; exact mg_halves L _
    have hXl : X.length = L.length / 2 := by rw [hX, srt_len, hl1]
    have hYl : Y.length = L.length - L.length / 2 := by rw [hY, srt_len, hl2]
    rw [← hX] at J1
    have HX := Lib.hid hX
    have HY := Lib.hid hY
    have HM := Lib.hid hM
    have HXL := Lib.hid hXl
    have HYL := Lib.hid hYl
    have HL1 := Lib.hid hl1
    have HL2 := Lib.hid hl2
    clear hX hY hM hXl hYl I1 hl1 hl2
    go_enter Try.func35, Try.ntmps35
    go_wp2_with fail
    go_at_call 35
    refine J1.out.mono ?_
    rintro e w1 ⟨A1, c1, rfl, hown1, hb1⟩
    have I2 := ih (L.drop (L.length / 2)) (some ⟨g, o + L.length / 2 * 2, none⟩) (c - L.length / 2) B w1 (by rw [HL2.out]; omega) (Nat.le_trans hB hb1.size) (slc_drop (h.below hb1 hB) _) (by rw [HL2.out]; omega) (by rw [HL2.out]; omega)
    rw [HL2.out, ← HY.out] at I2
    have J2 := Lib.hid I2
    clear I2
    go_wp2_with fail
    go_at_call 35
    refine J2.out.mono ?_
    rintro e w2 ⟨A2, c2, rfl, hown2, hb2⟩
    have hb12 := bchain hb1 hb2
    have hpx : SlcP w2 (fun _ => True) A1 (hc X) := (slcP_own hown1 (P := fun _ => True) (fun _ _ _ => trivial)).foot (Foot.ofBelow hb2 _)
    have hpy : SlcP w2 (fun _ => True) A2 (hc Y) := slcP_own hown2 (P := fun _ => True) (fun _ _ _ => trivial)
    have hxl : X.length ≤ 8796093022208 := by rw [HXL.out]; omega
    have hyl : Y.length ≤ 8796093022208 := by rw [HYL.out]; omega
    have hxy : X.length + Y.length ≤ 8796093022208 := by rw [HXL.out, HYL.out]; omega
    have z2 := hb12.size
    clear hown1 hown2 hb1 hb2 h
    go_wp2_with fail
    go_loopw [5, 6, 7] (fun va si sj wr => ∃ (i j : Nat) (O : List Hit), i ≤ X.length ∧ j ≤ Y.length ∧ si = .int .i64 i ∧ sj = .int .i64 j ∧ O.length = i + j ∧ Hid (O ++ mg (X.drop i) (Y.drop j) = mg X Y) ∧ wr.ownsRow w2.heap.size 29 2 va O.length (hc O) ∧ Below w2.heap.size w2 wr) (fun _ si sj _ => X.length + Y.length - ((intOf si).toNat + (intOf sj).toNat))
    case atStart => exact ⟨0, 0, [], Nat.zero_le _, Nat.zero_le _, rfl, rfl, rfl, Lib.hid rfl, World.ownsRow_nil _ _ _ _, Below.refl _ _⟩
    case round =>
      obtain ⟨i, j, O, hi, hj, rfl, rfl, hO, hmg, hown, hbr⟩ := hrel
      have hsr := hbr.size
      have hx5 := hpx.slc.below hbr (Nat.le_refl _)
      have hy5 := hpy.slc.below hbr (Nat.le_refl _)
      have hol : O.length ≤ 8796093022208 := by omega
      by_cases hend : i = X.length ∧ j = Y.length
      · obtain ⟨rfl, rfl⟩ := hend
        have hOe : O = srt L := by
          have := hmg.out
          rw [List.drop_length, List.drop_length, mg_nil_l, List.append_nil] at this
          rw [this, HM.out]
        have f1 : ¬ (X.length : Int) < (X.length : Int) := by omega
        obtain ⟨A9, c9, rfl⟩ := own_slice hown
        go_wp2_with fail
        go_ret
        rw [← hOe]
        exact ⟨A9, c9, rfl, own_base hown z2, hb12.trans (hbr.mono z2)⟩
      · have hor : i < X.length ∨ j < Y.length := by omega
        go_upto_region 7 with fail
        go_cut [35] from 26 to 75 (fun s35 wx => s35 = .bool true ∧ wx = wr)
        case first =>
          rcases (by omega : (i : Int) < (X.length : Int) ∨ (¬ (i : Int) < (X.length : Int) ∧ (j : Int) < (Y.length : Int))) with f1 | ⟨f1, f2⟩
          all_goals
            go_wp2_with fail
            go_meet
            exact ⟨rfl, rfl⟩
        case rest =>
          obtain ⟨rfl, hwc⟩ := hcut
          obtain rfl := hwc.symm
          go_upto_region 8 with fail
          go_cut [57] from 26 to 75 (fun s57 wx => ∃ bb : Bool, s57 = .bool bb ∧ (if bb then ∃ x, X[i]? = some x ∧ ∀ y, Y[j]? = some y → btr y x = false else ∃ y, Y[j]? = some y ∧ ∀ x, X[i]? = some x → btr y x = true) ∧ Below wr.heap.size wr wx)
          case first =>
            by_cases hjY : Y.length ≤ j
            · have d1 : decide ((Y.length : Int) ≤ (j : Int)) = true := by simpa using hjY
              have d2 : decide (Y.length ≤ j) = true := by simpa using hjY
              go_quiet (fail)
              go_wp2_with fail
              go_meet
              refine ⟨true, rfl, ?_, bdrewN (Below.refl _ _) _⟩
              rw [if_pos rfl]
              exact ⟨_, List.getElem?_eq_getElem (by omega), fun y hy => by rw [List.getElem?_eq_none hjY] at hy; cases hy⟩
            · have d1 : decide ((Y.length : Int) ≤ (j : Int)) = false := by simp; omega
              have d2 : decide (Y.length ≤ j) = false := by simp; omega
              obtain ⟨⟨y1, y2⟩, hy⟩ : ∃ y, Y[j]? = some y := ⟨_, List.getElem?_eq_getElem (by omega)⟩
              have HYJ := Lib.hid hy
              by_cases hiX : i < X.length
              · have d3 : decide ((i : Int) < (X.length : Int)) = true := by simpa using hiX
                have d4 : decide (i < X.length) = true := by simpa using hiX
                obtain ⟨⟨x1, x2⟩, hx⟩ : ∃ x, X[i]? = some x := ⟨_, List.getElem?_eq_getElem hiX⟩
                have HXI := Lib.hid hx
                obtain ⟨ga, oa, rfl, hga, a2⟩ := slc_at hx5 (by intro e; rw [e] at hiX; simp at hiX)
                obtain ⟨gb, ob, rfl, hgb, b2⟩ := slc_at hy5 (by intro e; rw [e] at hy; simp at hy)
                have p0 : wr.cell? ⟨ga, oa + i * 2, none⟩ = some (.int .i64 x1) := (a2 _ _ hx).1
                have p1 : wr.cell? ⟨ga, oa + i * 2 + 1, none⟩ = some (.int .u64 x2) := (a2 _ _ hx).2
                have r0 : wr.cell? ⟨gb, ob + j * 2, none⟩ = some (.int .i64 y1) := (b2 _ _ hy).1
                have r1 : wr.cell? ⟨gb, ob + j * 2 + 1, none⟩ = some (.int .u64 y2) := (b2 _ _ hy).2
                have P0 := Bw.cell p0 (Nat.lt_of_lt_of_le hga hsr)
                have P1 := Bw.cell p1 (Nat.lt_of_lt_of_le hga hsr)
                have R0 := Bw.cell r0 (Nat.lt_of_lt_of_le hgb hsr)
                have R1 := Bw.cell r1 (Nat.lt_of_lt_of_le hgb hsr)
                clear a2 b2 hx hy
                have i1 : (0 : Int) ≤ (i : Int) := by omega
                have i2 : (i : Int) < (X.length : Int) := by omega
                have j1 : (0 : Int) ≤ (j : Int) := by omega
                have j2 : (j : Int) < (Y.length : Int) := by omega
                have j3 : j < Y.length := by omega
                cases hb : btr (y1, y2) (x1, x2)
                · have HB := Lib.hid hb
                  clear hb
                  refine wp_region_bw wr.heap.size (by kernel_rfl) (by kernel_rfl) ?_
                  repeat (go_big_quiet_step ((go_at_call 26; refine (calls_bw (v := .bool false) (Nat.le_refl _) ?_); refine (refBetter_any _ _ _ _ _).mono ?_; rw [HB.out]; intro _ _ h; exact h)))
                  refine wpQuiet_nil ?_
                  intro _ hw'
                  obtain ⟨⟨wq, hbq⟩, hw''⟩ := hw'
                  subst hw''
                  go_wp2_with fail
                  go_meet
                  refine ⟨true, rfl, ?_, hbq⟩
                  rw [if_pos rfl]
                  exact ⟨_, HXI.out, fun y hy => by rw [HYJ.out] at hy; injection hy with hy; subst hy; exact HB.out⟩
                · have HB := Lib.hid hb
                  clear hb
                  refine wp_region_bw wr.heap.size (by kernel_rfl) (by kernel_rfl) ?_
                  repeat (go_big_quiet_step ((go_at_call 26; refine (calls_bw (v := .bool true) (Nat.le_refl _) ?_); refine (refBetter_any _ _ _ _ _).mono ?_; rw [HB.out]; intro _ _ h; exact h)))
                  refine wpQuiet_nil ?_
                  intro _ hw'
                  obtain ⟨⟨wq, hbq⟩, hw''⟩ := hw'
                  subst hw''
                  go_wp2_with fail
                  go_meet
                  refine ⟨false, rfl, ?_, hbq⟩
                  rw [if_neg (by simp)]
                  exact ⟨_, HYJ.out, fun x hx => by rw [HXI.out] at hx; injection hx with hx; subst hx; exact HB.out⟩
              · have d3 : decide ((i : Int) < (X.length : Int)) = false := by simpa using hiX
                have d4 : decide (i < X.length) = false := by simpa using hiX
                clear hy
                go_quiet (fail)
                go_wp2_with fail
                go_meet
                refine ⟨false, rfl, ?_, bdrewN (Below.refl _ _) _⟩
                rw [if_neg (by simp)]
                exact ⟨_, HYJ.out, fun x hx => by rw [List.getElem?_eq_none (by omega)] at hx; cases hx⟩
          case rest =>
            obtain ⟨bb, rfl, hbb, hbx⟩ := hcut
            have hbx2 := hbr.trans (hbx.mono hsr)
            cases bb
            · rw [if_neg (by simp)] at hbb
              obtain ⟨⟨x1, x2⟩, hx, hno⟩ := hbb
              have hlt := (List.getElem?_eq_some_iff.1 hx).1
              obtain ⟨ga, oa, rfl, hga, a2⟩ := slc_at (hpy.slc.below hbx2 (Nat.le_refl _)) (by intro e; rw [e] at hlt; simp at hlt)
              obtain ⟨q0, q1⟩ := a2 _ _ hx
              have hb5' : Below wc.heap.size wc (wc.alloc (.cells #[.int .i64 x1, .int .u64 x2] 29)) := (Below.refl _ _).alloc (Nat.le_refl _) _
              have hb5 : Below w2.heap.size w2 (wc.alloc (.cells #[.int .i64 x1, .int .u64 x2] 29)) := hbx2.trans (hb5'.mono hbx2.size)
              have hown5 := own_below (own_below hown hbx) hb5'
              have hn5 := slc_new wc #[.int .i64 x1, .int .u64 x2] 29
              have hz5 := hb5.size
              have HX1 := Lib.hid hx
              have HN1 := Lib.hid hno
              clear a2 hx hno
              go_wp2_with (at_builtin; refine wpList_append_slc (m := 1) rfl _ _ rfl hitElem hown5 rfl rfl rfl hn5 (by intro u hu; simp at hu; rcases hu with rfl | rfl <;> rfl) (by omega) (by unfold maxLen; omega) hz5 ?_)
              intro v6 w6 hown6 hg6 _
              have hb6 : Below w2.heap.size w2 w6 := below_own hb5 hown5 hz5 hg6
              go_wp2_with fail
              go_roundw
              case rel => exact ⟨i, j + 1, O ++ [(x1, x2)], hi, by omega, rfl, by go_num, by rw [List.length_append, hO]; rfl, Lib.hid (step_r HX1.out HN1.out hmg.out), by rw [List.length_append, hc_append, hO]; exact hown6, hb6⟩
              case measure => simp [intOf]; omega
            · rw [if_pos rfl] at hbb
              obtain ⟨⟨x1, x2⟩, hx, hno⟩ := hbb
              have hlt := (List.getElem?_eq_some_iff.1 hx).1
              obtain ⟨ga, oa, rfl, hga, a2⟩ := slc_at (hpx.slc.below hbx2 (Nat.le_refl _)) (by intro e; rw [e] at hlt; simp at hlt)
              obtain ⟨q0, q1⟩ := a2 _ _ hx
              have hb5' : Below wc.heap.size wc (wc.alloc (.cells #[.int .i64 x1, .int .u64 x2] 29)) := (Below.refl _ _).alloc (Nat.le_refl _) _
              have hb5 : Below w2.heap.size w2 (wc.alloc (.cells #[.int .i64 x1, .int .u64 x2] 29)) := hbx2.trans (hb5'.mono hbx2.size)
              have hown5 := own_below (own_below hown hbx) hb5'
              have hn5 := slc_new wc #[.int .i64 x1, .int .u64 x2] 29
              have hz5 := hb5.size
              have HX1 := Lib.hid hx
              have HN1 := Lib.hid hno
              clear a2 hx hno
              go_wp2_with (at_builtin; refine wpList_append_slc (m := 1) rfl _ _ rfl hitElem hown5 rfl rfl rfl hn5 (by intro u hu; simp at hu; rcases hu with rfl | rfl <;> rfl) (by omega) (by unfold maxLen; omega) hz5 ?_)
              intro v6 w6 hown6 hg6 _
              have hb6 : Below w2.heap.size w2 w6 := below_own hb5 hown5 hz5 hg6
              go_wp2_with fail
              go_roundw
              case rel => exact ⟨i + 1, j, O ++ [(x1, x2)], by omega, hj, by go_num, rfl, by rw [List.length_append, hO]; simp; omega, Lib.hid (step_l HX1.out HN1.out hmg.out), by rw [List.length_append, hc_append, hO]; exact hown6, hb6⟩
              case measure => simp [intOf]; omega
end Go.Proofs.Ytmddnilephneiaa.SortedWalk
