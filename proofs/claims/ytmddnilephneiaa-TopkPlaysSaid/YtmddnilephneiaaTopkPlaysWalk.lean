/-
  The walk of TopkPlays.
-/
import Derived.Test.YtmddnilephneiaaStepWalk
namespace Go.Proofs.Ytmddnilephneiaa.TopkPlaysWalk
open Go.RowKit Go.PlainAid HitPlain HeapPlain KeepPlain Base HitBase PushWalk OfferWalk KeepWalk TopkWalk Rows2 RefBetter SortedWalk RefSelect OfferPlain OfferRef TwoWalk Fixed StepWalk OpenOps

theorem step_any (B b p : Nat) (k : Int) (v : Value) (S : List Hit) (P : Nat → Prop) (A : Option Addr) (c : Nat) (kd wh i s : Int) (w : World) (hS : Seat w B b p k v S P A c) (hB : B ≤ w.heap.size) (hP : ∀ g, w.heap.size ≤ g → P g) (hn : (S.length + 1) * 16 ≤ 140737488355328) :
    Calls Try.prog 11 #[.pointer (some ⟨b, 0, none⟩), .pointer (some ⟨p, 0, none⟩), .int .i64 k, .agg #[.int .i64 kd, .int .i64 wh, .int .i64 i, .int .u64 s]] w fun e w' => e = .returned (.bool true) ∧ StepWalk.Stepped w B b p k v S P w' := by
  by_cases h : kd = 1
  · subst h
    exact step_offer B b p k v S P A c wh i s w hS hB hP hn
  · exact (step_rest B b p k v S P A c kd wh i s w hS hB hn h).mono fun _ _ ⟨he, hb⟩ => ⟨he, hS.same hb⟩

/-- Two seats that share no block. -/
structure Duo (w : World) (B a pa b pb : Nat) (k m : Int) (v u : Value) (S T : List Hit) (A A2 : Option Addr) (c c2 : Nat) : Prop where
  s1 : Seat w B a pa k v S (fun g => g ≠ b ∧ g ≠ pb ∧ u.ownBlock ≠ some g) A c
  s2 : Seat w B b pb m u T (fun g => g ≠ a ∧ g ≠ pa ∧ v.ownBlock ≠ some g) A2 c2
  ap : Apart a b v u
  apb : a ≠ pb
  pab : pa ≠ b
  pp : pa ≠ pb
  vpb : v.ownBlock ≠ some pb
  upa : u.ownBlock ≠ some pa

section
variable {w w' : World} {B a pa b pb : Nat} {k m : Int} {v u : Value} {S T : List Hit} {A A2 : Option Addr} {c c2 : Nat}
theorem Duo.symm (h : Duo w B a pa b pb k m v u S T A A2 c c2) : Duo w B b pb a pa m k u v T S A2 A c2 c :=
  ⟨h.s2, h.s1, h.ap.symm, Ne.symm h.pab, Ne.symm h.apb, Ne.symm h.pp, h.upa, h.vpb⟩
theorem seat_imp {P Q : Nat → Prop} (h : Seat w B b pb k v S P A c) (hi : ∀ g, g < w.heap.size → P g → Q g) : Seat w B b pb k v S Q A c :=
  ⟨h.keep, h.blk, h.list.imp fun g hg hp => ⟨hi g hg hp.1, hp.2⟩, h.bp, h.vp⟩
theorem Duo.below (h : Duo w B a pa b pb k m v u S T A A2 c c2) (hb : Below w.heap.size w w') : Duo w' B a pa b pb k m v u S T A A2 c c2 :=
  { h with s1 := h.s1.below hb, s2 := h.s2.below hb }
theorem Duo.step (h : Duo w B a pa b pb k m v u S T A A2 c c2) (hs : StepWalk.Stepped w B a pa k v S (fun g => g ≠ b ∧ g ≠ pb ∧ u.ownBlock ≠ some g) w') :
    ∃ v' S' A' c', Duo w' B a pa b pb k m v' u S' T A' A2 c' c2 ∧ S'.length ≤ S.length + 1 := by
  obtain ⟨v', S', A', c', seat, hl, hf, hv⟩ := hs
  have hvn : ∀ g, g < w.heap.size → v.ownBlock ≠ some g → v'.ownBlock ≠ some g := fun g hg hn e => by
    rcases hv with q | q
    · exact hn (q ▸ e)
    · have := q g e; omega
  obtain ⟨l1, l2, l3⟩ := keeps_lt h.s2.keep
  have hpb := h.s2.blk.lt
  refine ⟨v', S', A', c', ⟨seat, ?_, ⟨h.ap.ab, hvn b l1 h.ap.vb, h.ap.ua, fun g e e2 => hvn g (l3 g e2).2 (fun e3 => h.ap.vu g e3 e2) e⟩, h.apb, h.pab, h.pp, hvn pb hpb h.vpb, h.upa⟩, hl⟩
  refine seat_imp ((seat_imp h.s2 (Q := fun g => g ≠ a ∧ g ≠ pa ∧ v.ownBlock ≠ some g ∧ v'.ownBlock ≠ some g) fun g hg hp => ⟨hp.1, hp.2.1, hp.2.2, hvn g hg hp.2.2⟩).foot (hf.imp ?_)) fun g _ hp => ⟨hp.1, hp.2.1, hp.2.2.2⟩
  rintro g _ (hp | rfl | rfl | e)
  · exact ⟨hp.1, hp.2.1, hp.2.2.1⟩
  · exact ⟨Ne.symm h.ap.ab, Ne.symm h.pab, h.ap.vb⟩
  · exact ⟨Ne.symm h.apb, Ne.symm h.pp, h.vpb⟩
  · exact ⟨fun e2 => h.ap.ua (e2 ▸ e), fun e2 => h.upa (e2 ▸ e), fun e3 => h.ap.vu g e3 e⟩
theorem stepped_low {P : Nat → Prop} {W : Nat} (hs : StepWalk.Stepped w B b pb k v S P w') (hS : Seat w B b pb k v S P A c) (hW : W ≤ B) (hp : W ≤ pb) (hsz : W ≤ w.heap.size) : Below W w w' := by
  obtain ⟨v', S', A', c', seat, hl, hf, hv⟩ := hs
  obtain ⟨l1, l2, l3⟩ := keeps_lt hS.keep
  exact hf.toBelow (fun g hg => ⟨by omega, by omega, fun e => by have := (l3 g e).1; omega⟩) hsz
end

theorem keeps_base {w : World} {B B' b : Nat} {k : Int} {v : Value} {S : List Hit} (h : Keeps w B b k v S) (hB : B' ≤ B) : Keeps w B' b k v S := by
  obtain ⟨L, hL, p1, p2, p3⟩ := h
  exact ⟨L, ⟨hL.blk, own_base hL.own hB, hL.ne, Nat.le_trans hB hL.base, hL.hp⟩, p1, p2, p3⟩

theorem oc_cells {w : World} {B : Nat} {A : Option Addr} {L : List OpenOps.Op} (h : Slc w B A (oc L)) (hne : L ≠ []) :
    ∃ g o, A = some ⟨g, o, none⟩ ∧ g < B ∧ ∀ j x, L[j]? = some x → w.cell? ⟨g, o + j * 4, none⟩ = some (.int .i64 x.1) ∧ w.cell? ⟨g, o + j * 4 + 1, none⟩ = some (.int .i64 x.2.1) ∧ w.cell? ⟨g, o + j * 4 + 2, none⟩ = some (.int .i64 x.2.2.1) ∧ w.cell? ⟨g, o + j * 4 + 3, none⟩ = some (.int .u64 x.2.2.2) := by
  obtain ⟨g, o, e, hg, hcell⟩ := h (by cases L with | nil => exact absurd rfl hne | cons x r => simp [oc, opC])
  refine ⟨g, o, e, hg, fun j x hx => ⟨?_, ?_, ?_, ?_⟩⟩
  · have := hcell (j * 4 + 0) _ ((oc_at L j 0 x hx (by omega)).trans rfl); exact this
  · have := hcell (j * 4 + 1) _ ((oc_at L j 1 x hx (by omega)).trans rfl); rwa [← Nat.add_assoc] at this
  · have := hcell (j * 4 + 2) _ ((oc_at L j 2 x hx (by omega)).trans rfl); rwa [← Nat.add_assoc] at this
  · have := hcell (j * 4 + 3) _ ((oc_at L j 3 x hx (by omega)).trans rfl); rwa [← Nat.add_assoc] at this

set_option maxRecDepth 100000 in
set_option maxHeartbeats 8000000 in
theorem walk (k m : Int) (L : List OpenOps.Op) (A : Option Addr) (c B : Nat) (w : World) (hB : B ≤ w.heap.size) (h : Slc w B A (oc L)) (hn : (L.length + 1) * 32 ≤ 140737488355328) :
    Calls Try.prog 3 #[.int .i64 k, .int .i64 m, .slice A L.length c] w fun e w' => e = .returned (.bool true) ∧ Below w.heap.size w w' := by
  go_enter Try.func3, Try.ntmps3
  go_wp2_with fail
  go_at_call 9
  refine (fixed_any _).mono ?_
  rintro e wf ⟨rfl, hbf⟩
  go_wp2_with fail
  go_at_call 10
  refine (new_any _ _).mono ?_
  rintro e w1 ⟨rfl, hk1, hb1, hlt1⟩
  go_wp2_with fail
  go_at_call 10
  refine (new_any _ _).mono ?_
  rintro e w2 ⟨rfl, hk2, hb2, hlt2⟩
  have hw1 := hbf.size
  have hw2 := hb2.size
  obtain ⟨w4, hw4⟩ : ∃ w4, w4 = (w2.alloc (.cells #[.slice none 0 0] 26)).alloc (.cells #[.slice none 0 0] 26) := ⟨_, rfl⟩
  have hb4 : Below w2.heap.size w2 w4 := by rw [hw4]; exact balloc (balloc (Below.refl _ _) _) _
  have hbl1 : Blk w4 w2.heap.size 26 #[.slice none 0 0] := by rw [hw4]; exact (Blk.new _ _ _).alloc _
  have hbl2 : Blk w4 (w2.heap.size + 1) 26 #[.slice none 0 0] := by
    have := Blk.new (w2.alloc (.cells #[.slice none 0 0] 26)) 26 #[.slice none 0 0]
    rw [hw4]; simpa using this
  have hbw4 : Below w.heap.size w w4 := bchain (bchain (bchain hbf hb1) hb2) hb4
  have e1 : (Value.slice none 0 0).ownBlock = none := rfl
  have K1 : Keeps w4 w.heap.size wf.heap.size k (.slice none 0 0) [] := keeps_base (keeps_foot hk1 (Foot.ofBelow (bchain hb2 hb4) (fun _ => True)) trivial (fun _ _ => trivial)) hw1
  have K2 : Keeps w4 w.heap.size w1.heap.size m (.slice none 0 0) [] := keeps_base (keeps_foot hk2 (Foot.ofBelow hb4 (fun _ => True)) trivial (fun _ _ => trivial)) (by omega)
  have D0 : Duo w4 w.heap.size wf.heap.size w2.heap.size w1.heap.size (w2.heap.size + 1) k m (.slice none 0 0) (.slice none 0 0) [] [] none none 0 0 :=
    ⟨⟨K1, hbl1, fun hne => absurd rfl hne, by omega, by rw [e1]; simp⟩, ⟨K2, hbl2, fun hne => absurd rfl hne, by omega, by rw [e1]; simp⟩, ⟨by omega, by rw [e1]; simp, by rw [e1]; simp, fun g e => by rw [e1] at e; cases e⟩, by omega, by omega, by omega, by rw [e1]; simp, by rw [e1]; simp⟩
  have HW4 := Lib.hid hw4
  have hzz : w.heap.size ≤ w2.heap.size := by omega
  have hLn : L.length ≤ 4398046511104 := by omega
  clear hw4 hbl1 hbl2 e1 K1 K2 hk1 hk2
  go_wp2_with fail
  rw [← HW4.out]
  go_loopw [28] (fun i wr => ∃ (j : Nat) (v u : Value) (S T : List Hit) (A1 A2 : Option Addr) (c1 c2 : Nat), j ≤ L.length ∧ i = .int .i64 j ∧ Duo wr w.heap.size wf.heap.size w2.heap.size w1.heap.size (w2.heap.size + 1) k m v u S T A1 A2 c1 c2 ∧ S.length ≤ j ∧ T.length ≤ j ∧ Below w.heap.size w wr) (fun i _ => L.length - (intOf i).toNat)
  case atStart => exact ⟨0, _, _, _, _, _, _, _, _, Nat.zero_le _, rfl, D0, by simp, by simp, hbw4⟩
  case round =>
    obtain ⟨j, v, u, S, T, A1, A2, c1, c2, hj, rfl, hD, hSl, hTl, hbr⟩ := hrel
    clear D0 hbw4 hb4 hb1 hb2 hlt1 hlt2 hbf
    have hsr := hbr.size
    by_cases hlt : j < L.length
    · obtain ⟨⟨kd, wh, i, s⟩, hx⟩ : ∃ x, L[j]? = some x := ⟨_, List.getElem?_eq_getElem hlt⟩
      have hne : L ≠ [] := by intro e; rw [e] at hlt; simp at hlt
      obtain ⟨g, o, rfl, hg, hcell⟩ := oc_cells (h.below hbr hB) hne
      obtain ⟨q0, q1, q2, q3⟩ := hcell j _ hx
      dsimp only at q0 q1 q2 q3
      clear hcell hx hne
      obtain ⟨wx, hwx⟩ : ∃ wx, wx = wr.alloc (.cells #[.int .i64 kd, .int .i64 wh, .int .i64 i, .int .u64 s] 31) := ⟨_, rfl⟩
      have hbx : Below wr.heap.size wr wx := by rw [hwx]; exact balloc (Below.refl _ _) _
      have hDx := hD.below hbx
      have hsx := hbx.size
      obtain ⟨l1, l2, l3⟩ := keeps_lt hDx.s1.keep
      obtain ⟨n1, n2, n3⟩ := keeps_lt hDx.s2.keep
      have p1 := hDx.s1.blk.lt
      have p2 := hDx.s2.blk.lt
      have C1 := step_any w.heap.size wf.heap.size w2.heap.size k v S _ A1 c1 kd wh i s wx hDx.s1 (by omega) (fun g hg => ⟨by omega, by omega, fun e => by have := (n3 g e).2; omega⟩) (by omega)
      have C2 := step_any w.heap.size w1.heap.size (w2.heap.size + 1) m u T _ A2 c2 kd wh i s wx hDx.s2 (by omega) (fun g hg => ⟨by omega, by omega, fun e => by have := (l3 g e).2; omega⟩) (by omega)
      have H1 := Lib.hid C1
      have H2 := Lib.hid C2
      have HWX := Lib.hid hwx
      have HBX := Lib.hid hbx
      have HDX := Lib.hid hDx
      have hbwx : Below w.heap.size w wx := hbr.trans (hbx.mono hsr)
      clear C1 C2 hD hDx hbx l1 l2 l3 n1 n2 n3 p1 p2
      clear hwx
      go_wp2_with fail
      · rw [← HWX.out]
        go_at_call 11
        refine H1.out.mono ?_
        rintro e wz ⟨rfl, hst⟩
        have hlow := stepped_low hst HDX.out.s1 (Nat.le_refl _) hzz hbwx.size
        obtain ⟨v', S', A', c', hD', hl'⟩ := HDX.out.step hst
        clear hst q0 q1 q2 q3
        go_wp2_with fail
        go_roundw
        case rel => exact ⟨j + 1, v', u, S', T, A', A2, c', c2, by omega, by go_num, hD', by omega, by omega, hbwx.trans hlow⟩
        case measure => simp [intOf]; omega
      · rw [← HWX.out]
        go_at_call 11
        refine H2.out.mono ?_
        rintro e wz ⟨rfl, hst⟩
        have hlow := stepped_low hst HDX.out.s2 (Nat.le_refl _) (by omega) hbwx.size
        obtain ⟨u', T', A', c', hD', hl'⟩ := HDX.out.symm.step hst
        clear hst q0 q1 q2 q3
        go_wp2_with fail
        go_roundw
        case rel => exact ⟨j + 1, v, u', S, T', A1, A', c1, c', by omega, by go_num, hD'.symm, by omega, by omega, hbwx.trans hlow⟩
        case measure => simp [intOf]; omega
    · obtain rfl : j = L.length := by omega
      have hSn : S.length ≤ 8796093022208 := by omega
      have hTn : T.length ≤ 8796093022208 := by omega
      have C0 : Hid (∀ wx, Below wr.heap.size wr wx → wx.cell? ⟨w2.heap.size, 0, none⟩ = some (.slice A1 S.length c1)) := Lib.hid fun wx hx => ((hD.below hx).s1.blk).cell 0
      have C1 : Hid (∀ wx, Below wr.heap.size wr wx → wx.cell? ⟨w2.heap.size + 1, 0, none⟩ = some (.slice A2 T.length c2)) := Lib.hid fun wx hx => ((hD.below hx).s2.blk).cell 0
      have L1 : Hid (∀ wx, Below wr.heap.size wr wx → Slc wx wx.heap.size A1 (hc S)) := Lib.hid fun wx hx => (hD.below hx).s1.list.slc
      have L2 : Hid (∀ wx, Below wr.heap.size wr wx → Slc wx wx.heap.size A2 (hc T)) := Lib.hid fun wx hx => (hD.below hx).s2.list.slc
      have H1 : Hid (∀ wx, Below wr.heap.size wr wx → Calls Try.prog 13 #[.pointer (some ⟨wf.heap.size, 0, none⟩)] wx fun e w' => ∃ A c, e = .returned (.slice A S.length c) ∧ w'.ownsRow wx.heap.size 29 2 (.slice A S.length c) S.length (hc S) ∧ Below wx.heap.size wx w') :=
        Lib.hid fun wx hx => hits_any w.heap.size wf.heap.size k v S wx (hD.below hx).s1.keep (Nat.le_trans hsr hx.size) (by omega)
      have H2 : Hid (∀ wx, Below wr.heap.size wr wx → Calls Try.prog 13 #[.pointer (some ⟨w1.heap.size, 0, none⟩)] wx fun e w' => ∃ A c, e = .returned (.slice A T.length c) ∧ w'.ownsRow wx.heap.size 29 2 (.slice A T.length c) T.length (hc T) ∧ Below wx.heap.size wx w') :=
        Lib.hid fun wx hx => hits_any w.heap.size w1.heap.size m u T wx (hD.below hx).s2.keep (Nat.le_trans hsr hx.size) (by omega)
      have N1 : Hid (∀ wx, Below wr.heap.size wr wx → Calls Try.prog 14 #[.pointer (some ⟨wf.heap.size, 0, none⟩)] wx fun e w' => e = .returned (.int .i64 S.length) ∧ w' = wx) := Lib.hid fun wx hx => len_keep _ _ k v S wx (hD.below hx).s1.keep
      have N2 : Hid (∀ wx, Below wr.heap.size wr wx → Calls Try.prog 14 #[.pointer (some ⟨w1.heap.size, 0, none⟩)] wx fun e w' => e = .returned (.int .i64 T.length) ∧ w' = wx) := Lib.hid fun wx hx => len_keep _ _ m u T wx (hD.below hx).s2.keep
      clear hD
      go_upto_region 17 with fail
      refine Rel.wp_region_rel (fun wx => Below wr.heap.size wr wx) (fun wa wb => Below wa.heap.size wa wb) (by kernel_rfl) (by kernel_rfl) (bdrew (Below.refl _ _)) (fun _ => Below.refl _ _) ?_
      apply Rel.rel_one [] (by kernel_rfl) (by kernel_rfl)
      case hs =>
        intro wx hx
        try simp only [Act.put, List.setIfInBounds_toArray, List.set_cons_zero, List.set_cons_succ]
        intro K hK
        go_simp
        exact hK _ _ hx (Below.refl _ _) rfl
      apply Rel.rel_kind [(0, 48)] (SliceV (fun _ => True) S) (by kernel_rfl) (by kernel_rfl) (sliceV_stable)
      case hs =>
        intro wx hx
        rintro _ rfl
        have c0 := C0.out wx hx
        have c1 := C1.out wx hx
        try simp only [Act.put, List.setIfInBounds_toArray, List.set_cons_zero, List.set_cons_succ]
        intro K hK
        go_simp
        go_at_call 13
        refine (H1.out wx hx).mono ?_
        rintro e wy ⟨A', c', rfl, hown, hby⟩
        exact hK _ _ (bchain hx hby) hby ⟨A', c', rfl, slcP_own hown (fun _ _ _ => trivial)⟩
      apply Rel.rel_one [] (by kernel_rfl) (by kernel_rfl)
      case hs =>
        intro wx hx
        have c0 := C0.out wx hx
        have c1 := C1.out wx hx
        try simp only [Act.put, List.setIfInBounds_toArray, List.set_cons_zero, List.set_cons_succ]
        intro K hK
        go_simp
        exact hK _ _ hx (Below.refl _ _) rfl
      apply Rel.rel_one [(1, 49), (2, 50)] (by kernel_rfl) (by kernel_rfl)
      case hs =>
        intro wx hx
        rintro _ ⟨A49, c49, rfl, s49⟩ _ rfl
        have c0 := C0.out wx hx
        have c1 := C1.out wx hx
        try simp only [Act.put, List.setIfInBounds_toArray, List.set_cons_zero, List.set_cons_succ]
        intro K hK
        go_simp
        go_at_call 12
        refine (equal_eq S _ _ _ _ _ _ wx hSn s49.slc (L1.out wx hx)).mono ?_
        rintro e wy ⟨rfl, hby⟩
        exact hK _ _ (bchain hx hby) hby rfl
      apply Rel.rel_one [(3, 51)] (by kernel_rfl) (by kernel_rfl)
      case hs =>
        intro wx hx
        rintro _ rfl
        try simp only [Act.put, List.setIfInBounds_toArray, List.set_cons_zero, List.set_cons_succ]
        intro K hK
        go_simp
        exact hK _ _ hx (Below.refl _ _) rfl
      apply Rel.rel_one [(4, 52)] (by kernel_rfl) (by kernel_rfl)
      case hs =>
        intro wx hx
        rintro _ rfl
        try simp only [Act.put, List.setIfInBounds_toArray, List.set_cons_zero, List.set_cons_succ]
        intro K hK
        go_simp
        exact hK _ _ hx (Below.refl _ _) rfl
      apply Rel.rel_kind [(4, 52), (5, 53)] (SliceV (fun _ => True) T) (by kernel_rfl) (by kernel_rfl) (sliceV_stable)
      case hs =>
        intro wx hx
        rintro _ rfl _ rfl
        have c0 := C0.out wx hx
        have c1 := C1.out wx hx
        try simp only [Act.put, List.setIfInBounds_toArray, List.set_cons_zero, List.set_cons_succ]
        intro K hK
        go_simp
        go_at_call 13
        refine (H2.out wx hx).mono ?_
        rintro e wy ⟨A', c', rfl, hown, hby⟩
        exact hK _ _ (bchain hx hby) hby ⟨A', c', rfl, slcP_own hown (fun _ _ _ => trivial)⟩
      apply Rel.rel_one [(4, 52)] (by kernel_rfl) (by kernel_rfl)
      case hs =>
        intro wx hx
        rintro _ rfl
        have c0 := C0.out wx hx
        have c1 := C1.out wx hx
        try simp only [Act.put, List.setIfInBounds_toArray, List.set_cons_zero, List.set_cons_succ]
        intro K hK
        go_simp
        exact hK _ _ hx (Below.refl _ _) rfl
      apply Rel.rel_one [(4, 52), (6, 54), (7, 55)] (by kernel_rfl) (by kernel_rfl)
      case hs =>
        intro wx hx
        rintro _ rfl _ ⟨A54, c54, rfl, s54⟩ _ rfl
        have c0 := C0.out wx hx
        have c1 := C1.out wx hx
        try simp only [Act.put, List.setIfInBounds_toArray, List.set_cons_zero, List.set_cons_succ]
        intro K hK
        go_simp
        go_at_call 12
        refine (equal_eq T _ _ _ _ _ _ wx hTn s54.slc (L2.out wx hx)).mono ?_
        rintro e wy ⟨rfl, hby⟩
        exact hK _ _ (bchain hx hby) hby rfl
      apply Rel.rel_one [(4, 52), (8, 56)] (by kernel_rfl) (by kernel_rfl)
      case hs =>
        intro wx hx
        rintro _ rfl _ rfl
        try simp only [Act.put, List.setIfInBounds_toArray, List.set_cons_zero, List.set_cons_succ]
        intro K hK
        go_simp
        exact hK _ _ hx (Below.refl _ _) rfl
      apply Rel.rel_one [(9, 57)] (by kernel_rfl) (by kernel_rfl)
      case hs =>
        intro wx hx
        rintro _ rfl
        try simp only [Act.put, List.setIfInBounds_toArray, List.set_cons_zero, List.set_cons_succ]
        intro K hK
        go_simp
        exact hK _ _ hx (Below.refl _ _) rfl
      apply Rel.rel_one [(10, 58)] (by kernel_rfl) (by kernel_rfl)
      case hs =>
        intro wx hx
        rintro _ rfl
        try simp only [Act.put, List.setIfInBounds_toArray, List.set_cons_zero, List.set_cons_succ]
        intro K hK
        go_simp
        exact hK _ _ hx (Below.refl _ _) rfl
      apply Rel.rel_one [(10, 58), (11, 59)] (by kernel_rfl) (by kernel_rfl)
      case hs =>
        intro wx hx
        rintro _ rfl _ rfl
        have c0 := C0.out wx hx
        have c1 := C1.out wx hx
        try simp only [Act.put, List.setIfInBounds_toArray, List.set_cons_zero, List.set_cons_succ]
        intro K hK
        go_simp
        go_at_call 14
        refine (N1.out wx hx).mono ?_
        rintro e wy ⟨rfl, rfl⟩
        exact hK _ _ hx (Below.refl _ _) rfl
      apply Rel.rel_one [(10, 58)] (by kernel_rfl) (by kernel_rfl)
      case hs =>
        intro wx hx
        rintro _ rfl
        have c0 := C0.out wx hx
        have c1 := C1.out wx hx
        try simp only [Act.put, List.setIfInBounds_toArray, List.set_cons_zero, List.set_cons_succ]
        intro K hK
        go_simp
        exact hK _ _ hx (Below.refl _ _) rfl
      apply Rel.rel_one [(10, 58), (13, 61)] (by kernel_rfl) (by kernel_rfl)
      case hs =>
        intro wx hx
        rintro _ rfl _ rfl
        have c0 := C0.out wx hx
        have c1 := C1.out wx hx
        try simp only [Act.put, List.setIfInBounds_toArray, List.set_cons_zero, List.set_cons_succ]
        intro K hK
        go_simp
        exact hK _ _ hx (Below.refl _ _) rfl
      apply Rel.rel_one [(10, 58), (12, 60), (14, 62)] (by kernel_rfl) (by kernel_rfl)
      case hs =>
        intro wx hx
        rintro _ rfl _ rfl _ rfl
        try simp only [Act.put, List.setIfInBounds_toArray, List.set_cons_zero, List.set_cons_succ]
        intro K hK
        go_simp
        exact hK _ _ hx (Below.refl _ _) rfl
      apply Rel.rel_one [(10, 58), (15, 63)] (by kernel_rfl) (by kernel_rfl)
      case hs =>
        intro wx hx
        rintro _ rfl _ rfl
        try simp only [Act.put, List.setIfInBounds_toArray, List.set_cons_zero, List.set_cons_succ]
        intro K hK
        go_simp
        exact hK _ _ hx (Below.refl _ _) rfl
      apply Rel.rel_one [(16, 64)] (by kernel_rfl) (by kernel_rfl)
      case hs =>
        intro wx hx
        rintro _ rfl
        try simp only [Act.put, List.setIfInBounds_toArray, List.set_cons_zero, List.set_cons_succ]
        intro K hK
        go_simp
        exact hK _ _ hx (Below.refl _ _) rfl
      apply Rel.rel_one [(17, 65)] (by kernel_rfl) (by kernel_rfl)
      case hs =>
        intro wx hx
        rintro _ rfl
        try simp only [Act.put, List.setIfInBounds_toArray, List.set_cons_zero, List.set_cons_succ]
        intro K hK
        go_simp
        exact hK _ _ hx (Below.refl _ _) rfl
      apply Rel.rel_one [(17, 65), (18, 66)] (by kernel_rfl) (by kernel_rfl)
      case hs =>
        intro wx hx
        rintro _ rfl _ rfl
        have c0 := C0.out wx hx
        have c1 := C1.out wx hx
        try simp only [Act.put, List.setIfInBounds_toArray, List.set_cons_zero, List.set_cons_succ]
        intro K hK
        go_simp
        go_at_call 14
        refine (N2.out wx hx).mono ?_
        rintro e wy ⟨rfl, rfl⟩
        exact hK _ _ hx (Below.refl _ _) rfl
      apply Rel.rel_one [(17, 65)] (by kernel_rfl) (by kernel_rfl)
      case hs =>
        intro wx hx
        rintro _ rfl
        have c0 := C0.out wx hx
        have c1 := C1.out wx hx
        try simp only [Act.put, List.setIfInBounds_toArray, List.set_cons_zero, List.set_cons_succ]
        intro K hK
        go_simp
        exact hK _ _ hx (Below.refl _ _) rfl
      apply Rel.rel_one [(17, 65), (20, 68)] (by kernel_rfl) (by kernel_rfl)
      case hs =>
        intro wx hx
        rintro _ rfl _ rfl
        have c0 := C0.out wx hx
        have c1 := C1.out wx hx
        try simp only [Act.put, List.setIfInBounds_toArray, List.set_cons_zero, List.set_cons_succ]
        intro K hK
        go_simp
        exact hK _ _ hx (Below.refl _ _) rfl
      apply Rel.rel_one [(17, 65), (19, 67), (21, 69)] (by kernel_rfl) (by kernel_rfl)
      case hs =>
        intro wx hx
        rintro _ rfl _ rfl _ rfl
        try simp only [Act.put, List.setIfInBounds_toArray, List.set_cons_zero, List.set_cons_succ]
        intro K hK
        go_simp
        exact hK _ _ hx (Below.refl _ _) rfl
      apply Rel.rel_one [(17, 65), (22, 70)] (by kernel_rfl) (by kernel_rfl)
      case hs =>
        intro wx hx
        rintro _ rfl _ rfl
        try simp only [Act.put, List.setIfInBounds_toArray, List.set_cons_zero, List.set_cons_succ]
        intro K hK
        go_simp
        exact hK _ _ hx (Below.refl _ _) rfl
      apply Rel.rel_one [(23, 71)] (by kernel_rfl) (by kernel_rfl)
      case hs =>
        intro wx hx
        rintro _ rfl
        try simp only [Act.put, List.setIfInBounds_toArray, List.set_cons_zero, List.set_cons_succ]
        intro K hK
        go_simp
        exact hK _ _ hx (Below.refl _ _) rfl
      refine Rel.rel_end [(0, 48), (1, 49), (2, 50), (3, 51), (4, 52), (5, 53), (6, 54), (7, 55), (8, 56), (9, 57), (10, 58), (11, 59), (12, 60), (13, 61), (14, 62), (15, 63), (16, 64), (17, 65), (18, 66), (19, 67), (20, 68), (21, 69), (22, 70), (23, 71), (24, 6)] (by kernel_rfl) (by kernel_rfl) ?_
      intro wx hx
      rintro _ rfl _ ⟨A49, c49, rfl, s49⟩ _ rfl _ rfl _ rfl _ rfl _ ⟨A54, c54, rfl, s54⟩ _ rfl _ rfl _ rfl _ rfl _ rfl _ rfl _ rfl _ rfl _ rfl _ rfl _ rfl _ rfl _ rfl _ rfl _ rfl _ rfl _ rfl _ rfl
      try simp only [Act.put, List.setIfInBounds_toArray, List.set_cons_zero, List.set_cons_succ]
      refine Rel.valsD_ret ?_
      go_wp2_with fail
      go_ret
      exact ⟨rfl, hbr.trans (hx.mono hsr)⟩
end Go.Proofs.Ytmddnilephneiaa.TopkPlaysWalk
