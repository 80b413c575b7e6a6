/-
  The walk of a step: one call over a keeper and what is kept by the document.
-/
import Derived.Test.YtmddnilephneiaaOfferRef
import Derived.Test.YtmddnilephneiaaTwoWalk
import Derived.Test.YtmddnilephneiaaOutWalk
import Derived.Test.YtmddnilephneiaaOpenOps
import Derived.Test.YtmddnilephneiaaRel
namespace Go.Proofs.Ytmddnilephneiaa.StepWalk
open Go.RowKit Go.PlainAid HitPlain HeapPlain KeepPlain Base HitBase PushWalk OfferWalk KeepWalk TopkWalk Rows2 RefBetter SortedWalk RefSelect OfferPlain OfferRef TwoWalk

/-- A slice of these hits, in a block that meets P. -/
def SliceV (P : Nat → Prop) (L : List Hit) : Rel.Fact := fun v wx => ∃ A c, v = .slice A L.length c ∧ SlcP wx P A (hc L)
theorem sliceV_stable {P : Nat → Prop} {L : List Hit} : ∀ (v : Value) (wa wb : World), Below wa.heap.size wa wb → SliceV P L v wa → SliceV P L v wb :=
  fun _ _ _ hab ⟨A, c, e, h⟩ => ⟨A, c, e, h.foot (Foot.ofBelow hab _)⟩
def OfferV (P : Nat → Prop) (L : List Hit) (u : Bool) : Rel.Fact := fun v wx => ∃ A c, v = .tuple #[.slice A L.length c, .bool u] ∧ SlcP wx P A (hc L)
theorem offerV_stable {P : Nat → Prop} {L : List Hit} {u : Bool} : ∀ (v : Value) (wa wb : World), Below wa.heap.size wa wb → OfferV P L u v wa → OfferV P L u v wb :=
  fun _ _ _ hab ⟨A, c, e, hh⟩ => ⟨A, c, e, hh.foot (Foot.ofBelow hab _)⟩

/-- A keeper and, at place p, what is kept by the document. -/
structure Seat (w : World) (B b p : Nat) (k : Int) (v : Value) (S : List Hit) (P : Nat → Prop) (A : Option Addr) (c : Nat) : Prop where
  keep : Keeps w B b k v S
  blk : Blk w p 26 #[.slice A S.length c]
  list : SlcP w (fun g => P g ∧ g ≠ b ∧ g ≠ p ∧ v.ownBlock ≠ some g) A (hc S)
  bp : b ≠ p
  vp : v.ownBlock ≠ some p

/-- What a step leaves. -/
def Stepped (w : World) (B b p : Nat) (k : Int) (v : Value) (S : List Hit) (P : Nat → Prop) (w' : World) : Prop :=
  ∃ v' S' A' c', Seat w' B b p k v' S' P A' c' ∧ S'.length ≤ S.length + 1 ∧ Foot w w' (fun g => g ≠ b ∧ g ≠ p ∧ v.ownBlock ≠ some g) ∧ (v'.ownBlock = v.ownBlock ∨ ∀ g, v'.ownBlock = some g → w.heap.size ≤ g)

section
variable {w w' : World} {B b p : Nat} {k : Int} {v : Value} {S : List Hit} {P : Nat → Prop} {A : Option Addr} {c : Nat}
theorem Seat.foot (h : Seat w B b p k v S P A c) (hf : Foot w w' (fun g => P g ∨ g = b ∨ g = p ∨ v.ownBlock = some g)) : Seat w' B b p k v S P A c :=
  ⟨keeps_foot h.keep hf (.inr (.inl rfl)) (fun _ e => .inr (.inr (.inr e))), hf.blk h.blk (.inr (.inr (.inl rfl))), h.list.foot (hf.imp fun _ _ hp => .inl hp.1), h.bp, h.vp⟩
theorem Seat.below (h : Seat w B b p k v S P A c) (hb : Below w.heap.size w w') : Seat w' B b p k v S P A c := h.foot (Foot.ofBelow hb _)
theorem Seat.same (h : Seat w B b p k v S P A c) (hb : Below w.heap.size w w') : Stepped w B b p k v S P w' :=
  ⟨v, S, A, c, h.below hb, by omega, Foot.ofBelow hb _, .inl rfl⟩
theorem Seat.len (h : Seat w B b p k v S P A c) : S.length ≤ k.toNat := by obtain ⟨L, _, _, _, h4⟩ := h.keep; exact h4
theorem Seat.srt (h : Seat w B b p k v S P A c) : Srt S := by obtain ⟨L, _, _, h3, _⟩ := h.keep; exact h3
end

set_option maxRecDepth 100000 in
set_option maxHeartbeats 8000000 in
theorem step_offer (B b p : Nat) (k : Int) (v : Value) (S : List Hit) (P : Nat → Prop) (A : Option Addr) (c : Nat) (wh i s : Int) (w : World) (hS : Seat w B b p k v S P A c) (hB : B ≤ w.heap.size) (hP : ∀ g, w.heap.size ≤ g → P g) (hn : (S.length + 1) * 16 ≤ 140737488355328) :
    Calls Try.prog 11 #[.pointer (some ⟨b, 0, none⟩), .pointer (some ⟨p, 0, none⟩), .int .i64 k, .agg #[.int .i64 1, .int .i64 wh, .int .i64 i, .int .u64 s]] w fun e w' => e = .returned (.bool true) ∧ Stepped w B b p k v S P w' := by
  obtain ⟨w0, hw0⟩ : ∃ w0, w0 = w.alloc (.cells #[.int .i64 1, .int .i64 wh, .int .i64 i, .int .u64 s] 31) := ⟨_, rfl⟩
  have hb0 : Below w.heap.size w w0 := by rw [hw0]; exact (Below.refl _ _).alloc (Nat.le_refl _) _
  have hz0 : w0.heap.size = w.heap.size + 1 := by rw [hw0]; simp
  have B0 : w0.cell? ⟨w.heap.size, 0, none⟩ = some (.int .i64 1) := by rw [hw0, World.cell?_alloc_mark]; rfl
  have B2 : w0.cell? ⟨w.heap.size, 2, none⟩ = some (.int .i64 i) := by rw [hw0, World.cell?_alloc_mark]; rfl
  have B3 : w0.cell? ⟨w.heap.size, 3, none⟩ = some (.int .u64 s) := by rw [hw0, World.cell?_alloc_mark]; rfl
  have hS0 := hS.below hb0
  have HW0 := Lib.hid hw0
  have hlt : w.heap.size < w0.heap.size := by omega
  have C1 : Hid (∀ wx, Below w0.heap.size w0 wx → wx.cell? ⟨w.heap.size, 2, none⟩ = some (.int .i64 i)) := Lib.hid fun wx hx => (hx.cell (p := ⟨w.heap.size, 2, none⟩) hlt).trans B2
  have C2 : Hid (∀ wx, Below w0.heap.size w0 wx → wx.cell? ⟨w.heap.size, 3, none⟩ = some (.int .u64 s)) := Lib.hid fun wx hx => (hx.cell (p := ⟨w.heap.size, 3, none⟩) hlt).trans B3
  have C0 : Hid (∀ wx, Below w0.heap.size w0 wx → wx.cell? ⟨p, 0, none⟩ = some (.slice A S.length c)) := Lib.hid fun wx hx => ((hS0.below hx).blk).cell 0
  obtain ⟨Pn, hPd⟩ : ∃ Pn : Nat → Prop, Pn = fun g => P g ∧ g ≠ b ∧ g ≠ p ∧ v.ownBlock ≠ some g := ⟨_, rfl⟩
  have hPn : ∀ g, w0.heap.size ≤ g → Pn g := fun g hg => by
    obtain ⟨l1, l2, l3⟩ := keeps_lt hS0.keep
    have l4 := hS0.blk.lt
    rw [hPd]
    exact ⟨hP g (by omega), by omega, by omega, fun e => by have := (l3 g e).2; omega⟩
  have hOR : ∀ wx, Below w0.heap.size w0 wx → Calls Try.prog 29 #[.slice A S.length c, .agg #[.int .i64 i, .int .u64 s], .int .i64 k] wx (OfferGives wx Pn k.toNat S (i, s)) :=
    fun wx hx => offer_ref Pn S A c i s k wx (by rw [hPd]; exact (hS0.below hx).list) hS.srt hS.len hn
  have hTl : ((insS (i, s) S).take k.toNat).length ≤ S.length + 1 := by rw [List.length_take, ins_len]; omega
  obtain ⟨T, hT⟩ : ∃ T, T = (insS (i, s) S).take k.toNat := ⟨_, rfl⟩
  obtain ⟨kb, hkb⟩ : ∃ kb, kb = kept k.toNat S (i, s) := ⟨_, rfl⟩
  unfold OfferGives at hOR
  rw [← hT, ← hkb] at hOR
  rw [← hT] at hTl
  have OR := Lib.hid hOR
  have HPD := Lib.hid hPd
  have HT := Lib.hid hT
  have HKB := Lib.hid hkb
  clear hw0 hz0 B2 B3 hPd hOR hT hkb
  go_enter Try.func11, Try.ntmps11
  go_upto_region 3 with fail
  rw [← HW0.out]
  refine Rel.wp_region_rel (fun wx => Below w0.heap.size w0 wx) (fun wa wb => Below wa.heap.size wa wb) (by kernel_rfl) (by kernel_rfl) (bdrew (Below.refl _ _)) (fun _ => Below.refl _ _) ?_
  apply Rel.rel_one [] (by kernel_rfl) (by kernel_rfl)
  case hs =>
    intro wx hx
    try simp only [Act.put, List.setIfInBounds_toArray, List.set_cons_zero, List.set_cons_succ]
    intro K hK
    go_simp
    exact hK _ _ hx (Below.refl _ _) rfl
  apply Rel.rel_one [(0, 18)] (by kernel_rfl) (by kernel_rfl)
  case hs =>
    intro wx hx
    rintro _ rfl
    try simp only [Act.put, List.setIfInBounds_toArray, List.set_cons_zero, List.set_cons_succ]
    intro K hK
    go_simp
    exact hK _ _ hx (Below.refl _ _) rfl
  apply Rel.rel_one [(1, 19)] (by kernel_rfl) (by kernel_rfl)
  case hs =>
    intro wx hx
    rintro _ rfl
    have c0 := C0.out wx hx
    have c1 := C1.out wx hx
    have c2 := C2.out wx hx
    try simp only [Act.put, List.setIfInBounds_toArray, List.set_cons_zero, List.set_cons_succ]
    intro K hK
    go_simp
    exact hK _ _ hx (Below.refl _ _) rfl
  apply Rel.rel_one [] (by kernel_rfl) (by kernel_rfl)
  case hs =>
    intro wx hx
    try simp only [Act.put, List.setIfInBounds_toArray, List.set_cons_zero, List.set_cons_succ]
    intro K hK
    go_simp
    exact hK _ _ hx (Below.refl _ _) rfl
  apply Rel.rel_one [(3, 21)] (by kernel_rfl) (by kernel_rfl)
  case hs =>
    intro wx hx
    rintro _ rfl
    have c0 := C0.out wx hx
    have c1 := C1.out wx hx
    have c2 := C2.out wx hx
    try simp only [Act.put, List.setIfInBounds_toArray, List.set_cons_zero, List.set_cons_succ]
    intro K hK
    go_simp
    exact hK _ _ hx (Below.refl _ _) rfl
  apply Rel.rel_one [] (by kernel_rfl) (by kernel_rfl)
  case hs =>
    intro wx hx
    try simp only [Act.put, List.setIfInBounds_toArray, List.set_cons_zero, List.set_cons_succ]
    intro K hK
    go_simp
    exact hK _ _ hx (Below.refl _ _) rfl
  apply Rel.rel_kind [(2, 20), (4, 22), (5, 23)] (OfferV Pn T kb) (by kernel_rfl) (by kernel_rfl) (offerV_stable)
  case hs =>
    intro wx hx
    rintro _ rfl _ rfl _ rfl
    have c0 := C0.out wx hx
    have c1 := C1.out wx hx
    have c2 := C2.out wx hx
    try simp only [Act.put, List.setIfInBounds_toArray, List.set_cons_zero, List.set_cons_succ]
    intro K hK
    go_simp
    go_at_call 29
    refine (OR.out wx hx).mono ?_
    rintro e wy ⟨A', c', rfl, hsy, hby⟩
    exact hK _ _ (bchain hx hby) hby ⟨A', c', rfl, hsy.imp (fun g _ hp => hp.elim id (fun hge => hPn g (Nat.le_trans hx.size hge)))⟩
  apply Rel.rel_kind [(6, 24)] (OfferV Pn T kb) (by kernel_rfl) (by kernel_rfl) (offerV_stable)
  case hs =>
    intro wx hx
    rintro _ ⟨A24, c24, rfl, s24⟩
    try simp only [Act.put, List.setIfInBounds_toArray, List.set_cons_zero, List.set_cons_succ]
    intro K hK
    go_simp
    exact hK _ _ hx (Below.refl _ _) ⟨A24, c24, rfl, s24⟩
  apply Rel.rel_kind [(7, 17)] (SliceV Pn T) (by kernel_rfl) (by kernel_rfl) (sliceV_stable)
  case hs =>
    intro wx hx
    rintro _ ⟨A17, c17, rfl, s17⟩
    try simp only [Act.put, List.setIfInBounds_toArray, List.set_cons_zero, List.set_cons_succ]
    intro K hK
    go_simp
    exact hK _ _ hx (Below.refl _ _) ⟨A17, c17, rfl, s17⟩
  apply Rel.rel_one [(7, 17)] (by kernel_rfl) (by kernel_rfl)
  case hs =>
    intro wx hx
    rintro _ ⟨A17, c17, rfl, s17⟩
    try simp only [Act.put, List.setIfInBounds_toArray, List.set_cons_zero, List.set_cons_succ]
    intro K hK
    go_simp
    exact hK _ _ hx (Below.refl _ _) rfl
  apply Rel.rel_kind [(8, 25)] (SliceV Pn T) (by kernel_rfl) (by kernel_rfl) (sliceV_stable)
  case hs =>
    intro wx hx
    rintro _ ⟨A25, c25, rfl, s25⟩
    try simp only [Act.put, List.setIfInBounds_toArray, List.set_cons_zero, List.set_cons_succ]
    intro K hK
    go_simp
    exact hK _ _ hx (Below.refl _ _) ⟨A25, c25, rfl, s25⟩
  apply Rel.rel_one [(9, 26)] (by kernel_rfl) (by kernel_rfl)
  case hs =>
    intro wx hx
    rintro _ rfl
    try simp only [Act.put, List.setIfInBounds_toArray, List.set_cons_zero, List.set_cons_succ]
    intro K hK
    go_simp
    exact hK _ _ hx (Below.refl _ _) rfl
  refine Rel.rel_end [(0, 18), (1, 19), (2, 20), (3, 21), (4, 22), (5, 23), (6, 24), (7, 17), (8, 25), (9, 26), (10, 9), (11, 10)] (by kernel_rfl) (by kernel_rfl) ?_
  intro wx hx
  rintro _ rfl _ rfl _ rfl _ rfl _ rfl _ rfl _ ⟨A24, c24, rfl, s24⟩ _ ⟨A17, c17, rfl, s17⟩ _ ⟨A25, c25, rfl, s25⟩ _ rfl _ ⟨A9, c9, rfl, s9⟩ _ rfl
  try simp only [Act.put, List.setIfInBounds_toArray, List.set_cons_zero, List.set_cons_succ]
  refine Rel.valsD_ret ?_
  clear s24 s17 s25
  have hSx := hS0.below hx
  have fz := hSx.blk.frozen 0
  have cp : wx.cell? ⟨p, 0, none⟩ = some (.slice A S.length c) := hSx.blk.cell 0
  have lb := (keeps_lt hS.keep).1
  have lp := hS.blk.lt
  have hpb : p ≠ b := Ne.symm hS.bp
  have hFp : Foot wx (wx.setCell ⟨p, 0, none⟩ (.slice A9 T.length c9)) (fun g => g ≠ p) := (Foot.refl _ _).set_ (fun _ h => h rfl) _
  have d1 : (wx.setCell ⟨p, 0, none⟩ (.slice A9 T.length c9)).cell? ⟨w.heap.size, 2, none⟩ = some (.int .i64 i) := (hFp.cell (p := ⟨w.heap.size, 2, none⟩) (Nat.lt_of_lt_of_le hlt hx.size) (by show w.heap.size ≠ p; omega)).trans (C1.out wx hx)
  have d2 : (wx.setCell ⟨p, 0, none⟩ (.slice A9 T.length c9)).cell? ⟨w.heap.size, 3, none⟩ = some (.int .u64 s) := (hFp.cell (p := ⟨w.heap.size, 3, none⟩) (Nat.lt_of_lt_of_le hlt hx.size) (by show w.heap.size ≠ p; omega)).trans (C2.out wx hx)
  have OO := offer_any B b k v S i s (wx.setCell ⟨p, 0, none⟩ (.slice A9 T.length c9)) (keeps_foot hSx.keep hFp hS.bp (fun g e e' => hS.vp (e' ▸ e))) (by have := hx.size; simp; omega) hn
  rw [← HT.out, ← HKB.out] at OO
  have HOO := Lib.hid OO
  have Hx := Lib.hid hx
  have HFp := Lib.hid hFp
  clear OO hSx C0 C1 C2 OR HT HKB hn
  go_wp2_with fail
  go_at_call 18
  refine HOO.out.mono ?_
  rintro e wz ⟨rfl, hoff⟩
  have HOF := Lib.hid hoff
  clear hoff HOO cp fz d1 d2
  go_wp2_with fail
  go_ret
  refine ⟨?_, ?_⟩
  · cases kb <;> rfl
  obtain ⟨v', q1, q2, q3⟩ := HOF.out
  have hSx := hS0.below Hx.out
  have hz5 : (wx.setCell ⟨p, 0, none⟩ (.slice A9 T.length c9)).heap.size = wx.heap.size := by simp
  have hxs := Hx.out.size
  have s9' : SlcP wx (fun g => P g ∧ g ≠ b ∧ g ≠ p ∧ v.ownBlock ≠ some g) A9 (hc T) := by rw [HPD.out] at s9; exact s9
  have hvn : ∀ g, g < wx.heap.size → v.ownBlock ≠ some g → v'.ownBlock ≠ some g := fun g hg hn e => by
    rcases q3 with q | q
    · exact hn (q ▸ e)
    · have := q g e; omega
  refine ⟨v', T, A9, c9, ⟨q1, ?_, ?_, hS.bp, hvn p hSx.blk.lt hS.vp⟩, hTl, ?_, ?_⟩
  · exact q2.blk (hSx.blk.set_ 0 _) ⟨hpb, hS.vp⟩
  · have t1 := (s9'.foot (hFp.imp fun g _ hp => hp.2.2.1))
    refine ((t1.imp (Q := fun g => P g ∧ g ≠ b ∧ g ≠ p ∧ v.ownBlock ≠ some g ∧ v'.ownBlock ≠ some g) fun g hg hp => ⟨hp.1, hp.2.1, hp.2.2.1, hp.2.2.2, hvn g (by omega) hp.2.2.2⟩).foot (q2.imp fun g _ hp => ⟨hp.2.1, hp.2.2.2.1⟩)).imp fun g _ hp => ⟨hp.1, hp.2.1, hp.2.2.1, hp.2.2.2.2⟩
  · have f1 : Foot w wx (fun g => g ≠ b ∧ g ≠ p ∧ v.ownBlock ≠ some g) := Foot.ofBelow (bchain hb0 Hx.out) _
    exact (f1.trans (hFp.imp fun g _ hp => hp.2.1)).trans (q2.imp fun g _ hp => ⟨hp.1, hp.2.2⟩)
  · rcases q3 with q | q
    · exact .inl q
    · exact .inr fun g e => by have := q g e; have := hb0.size; omega

set_option maxRecDepth 100000 in
set_option maxHeartbeats 8000000 in
theorem step_rest (B b p : Nat) (k : Int) (v : Value) (S : List Hit) (P : Nat → Prop) (A : Option Addr) (c : Nat) (kd wh i s : Int) (w : World) (hS : Seat w B b p k v S P A c) (hB : B ≤ w.heap.size) (hn : (S.length + 1) * 16 ≤ 140737488355328) (hk : kd ≠ 1) :
    Calls Try.prog 11 #[.pointer (some ⟨b, 0, none⟩), .pointer (some ⟨p, 0, none⟩), .int .i64 k, .agg #[.int .i64 kd, .int .i64 wh, .int .i64 i, .int .u64 s]] w fun e w' => e = .returned (.bool true) ∧ Below w.heap.size w w' := by
  obtain ⟨w0, hw0⟩ : ∃ w0, w0 = w.alloc (.cells #[.int .i64 kd, .int .i64 wh, .int .i64 i, .int .u64 s] 31) := ⟨_, rfl⟩
  have hb0 : Below w.heap.size w w0 := by rw [hw0]; exact (Below.refl _ _).alloc (Nat.le_refl _) _
  have hz0 : w0.heap.size = w.heap.size + 1 := by rw [hw0]; simp
  have B0 : w0.cell? ⟨w.heap.size, 0, none⟩ = some (.int .i64 kd) := by rw [hw0, World.cell?_alloc_mark]; rfl
  have hS0 := hS.below hb0
  have HW0 := Lib.hid hw0
  have hlt : w.heap.size < w0.heap.size := by omega
  have C0 : Hid (∀ wx, Below w0.heap.size w0 wx → wx.cell? ⟨p, 0, none⟩ = some (.slice A S.length c)) := Lib.hid fun wx hx => ((hS0.below hx).blk).cell 0
  have hSn : S.length ≤ 8796093022208 := by omega
  clear hw0 hz0
  have k1 : (kd == 1) = false := by simpa using hk
  by_cases h2 : kd = 2
  · subst h2
    have D0 := Bw.cell (B := w0.heap.size) (C0.out w0 (Below.refl _ _)) (by have := hS.blk.lt; show p < _; omega)
    have CL : ∀ b' : Bw w0.heap.size w0, Calls Try.prog 14 #[.pointer (some ⟨b, 0, none⟩)] b'.at_ fun e w'' => e = .returned (.int .i64 S.length) ∧ ∃ b'' : Bw w0.heap.size w0, w'' = b''.at_ :=
      fun b' => calls_bw_same (len_keep B b k v S _ (keeps_foot hS0.keep (Foot.ofBelow b'.below (fun _ => True)) trivial (fun _ _ => trivial)))
    go_enter Try.func11, Try.ntmps11
    go_upto_region 7 with fail
    rw [← HW0.out]
    refine wp_region_bw w0.heap.size (by kernel_rfl) (by kernel_rfl) ?_
    repeat (go_big_quiet_step ((go_at_call 14; with_reducible exact CL _)))
    refine wpQuiet_nil ?_
    intro _ hw'
    obtain ⟨⟨wq, hbq⟩, hw''⟩ := hw'
    subst hw''
    go_wp2_with fail
    go_ret
    exact ⟨rfl, bchain hb0 hbq⟩
  have k2 : (kd == 2) = false := by simpa using h2
  by_cases h3 : kd = 3
  · subst h3
    have WW := worst_any B b k v S w0 hS0.keep
    rcases List.eq_nil_or_concat S with hSe | ⟨S0, r, hSe⟩
    · have hw : worst S = ((0, 0), false) := by rw [hSe]; rfl
      rw [hw] at WW
      have HWW := Lib.hid WW
      subst hSe
      clear WW hw hn
      go_enter Try.func11, Try.ntmps11
      go_wp2_with fail
      rw [← HW0.out]
      go_at_call 21
      refine HWW.out.mono ?_
      rintro e w1 ⟨rfl, hb1⟩
      have hb2 := balloc hb1 (.cells #[.int .i64 0, .int .u64 0] 29)
      have c0 : (w1.alloc (.cells #[.int .i64 0, .int .u64 0] 29)).cell? ⟨p, 0, none⟩ = some (.slice A 0 c) := C0.out _ hb2
      go_wp2_with fail
      go_ret
      exact ⟨rfl, bchain hb0 hb2⟩
    · rw [List.concat_eq_append] at hSe
      have hw : worst S = (r, true) := by rw [hSe]; simp [worst]
      rw [hw] at WW
      have HWW := Lib.hid WW
      have hr : S[S.length - 1]? = some r := by rw [hSe]; simp
      have hpos : 0 < S.length := by rw [hSe]; simp
      clear WW hw hSe
      obtain ⟨m, hm⟩ : ∃ m : Nat, S.length = m + 1 := ⟨S.length - 1, by omega⟩
      have hne : S ≠ [] := by intro e; rw [e] at hpos; simp at hpos
      obtain ⟨g, o, rfl, hg, hPg, hcell⟩ := SlcP.at_ hS0.list hne
      rw [hm, Nat.add_sub_cancel] at hr
      obtain ⟨q0, q1⟩ := hcell m r hr
      have i1 : (0 : Int) ≤ (m : Int) := by omega
      have i2 : (m : Int) < (S.length : Int) := by omega
      have iw : IntKind.i64.wrap ((S.length : Int) - 1) = (m : Int) := by rw [IntWalk.i64_in _ (by omega)]; omega
      have i3 : ((S.length : Int) == 0) = false := beq_eq_false_iff_ne.2 (by omega)
      clear hm hr hcell hn
      go_enter Try.func11, Try.ntmps11
      go_wp2_with fail
      rw [← HW0.out]
      go_at_call 21
      refine HWW.out.mono ?_
      rintro e w1 ⟨rfl, hb1⟩
      obtain ⟨r1, r2⟩ := r
      obtain ⟨w2, hw2⟩ : ∃ w2, w2 = w1.alloc (.cells #[.int .i64 r1, .int .u64 r2] 29) := ⟨_, rfl⟩
      have hb2 : Below w0.heap.size w0 w2 := by rw [hw2]; exact balloc hb1 _
      have hz2 : w1.heap.size < w2.heap.size := by rw [hw2]; simp
      have e0 : w2.cell? ⟨w1.heap.size, 0, none⟩ = some (.int .i64 r1) := by rw [hw2, World.cell?_alloc_mark]; rfl
      have e1 : w2.cell? ⟨w1.heap.size, 1, none⟩ = some (.int .u64 r2) := by rw [hw2, World.cell?_alloc_mark]; rfl
      have c0 : (w1.alloc (.cells #[.int .i64 r1, .int .u64 r2] 29)).cell? ⟨p, 0, none⟩ = some (.slice (some ⟨g, o, none⟩) S.length c) := C0.out _ (balloc hb1 _)
      have lp := hS0.blk.lt
      have D0 := Bw.cell (B := w2.heap.size) (C0.out w2 hb2) (by have := hb2.size; show p < _; omega)
      have Q0 := Bw.cell (B := w2.heap.size) ((hb2.cell (p := ⟨g, o + m * 2, none⟩) hg).trans q0) (by have := hb2.size; show g < _; omega)
      have Q1 := Bw.cell (B := w2.heap.size) ((hb2.cell (p := ⟨g, o + m * 2 + 1, none⟩) hg).trans q1) (by have := hb2.size; show g < _; omega)
      have E0 := Bw.cell (B := w2.heap.size) e0 hz2
      have E1 := Bw.cell (B := w2.heap.size) e1 hz2
      have HW2 := Lib.hid hw2
      clear hw2 hz2 e0 e1 q0 q1
      go_upto_region 12 with fail
      rw [← HW2.out]
      refine wp_region_bw w2.heap.size (by kernel_rfl) (by kernel_rfl) ?_
      repeat (go_big_quiet_step ((fail)))
      refine wpQuiet_nil ?_
      intro _ hw'
      obtain ⟨⟨wq, hbq⟩, hw''⟩ := hw'
      subst hw''
      go_wp2_with fail
      go_ret
      exact ⟨rfl, bchain hb0 (hb2.trans (hbq.mono hb2.size))⟩
  have k3 : (kd == 3) = false := by simpa using h3
  by_cases h4 : kd = 4
  · subst h4
    have HH : Hid (∀ wx, Below w0.heap.size w0 wx → Calls Try.prog 13 #[.pointer (some ⟨b, 0, none⟩)] wx fun e w' => ∃ A c, e = .returned (.slice A S.length c) ∧ w'.ownsRow wx.heap.size 29 2 (.slice A S.length c) S.length (hc S) ∧ Below wx.heap.size wx w') :=
      Lib.hid fun wx hx => hits_any B b k v S wx (hS0.below hx).keep (Nat.le_trans hB (Nat.le_trans hb0.size hx.size)) (by omega)
    have LL : Hid (∀ wx, Below w0.heap.size w0 wx → Slc wx wx.heap.size A (hc S)) := Lib.hid fun wx hx => (hS0.below hx).list.slc
    go_enter Try.func11, Try.ntmps11
    go_upto_region 14 with fail
    rw [← HW0.out]
    refine Rel.wp_region_rel (fun wx => Below w0.heap.size w0 wx) (fun wa wb => Below wa.heap.size wa wb) (by kernel_rfl) (by kernel_rfl) (bdrew (Below.refl _ _)) (fun _ => Below.refl _ _) ?_
    apply Rel.rel_one [] (by kernel_rfl) (by kernel_rfl)
    case hs =>
      intro wx hx
      try simp only [Act.put, List.setIfInBounds_toArray, List.set_cons_zero, List.set_cons_succ]
      intro K hK
      go_simp
      exact hK _ _ hx (Below.refl _ _) rfl
    apply Rel.rel_kind [(0, 81)] (SliceV (fun _ => True) S) (by kernel_rfl) (by kernel_rfl) (sliceV_stable)
    case hs =>
      intro wx hx
      rintro _ rfl
      have c0 := C0.out wx hx
      try simp only [Act.put, List.setIfInBounds_toArray, List.set_cons_zero, List.set_cons_succ]
      intro K hK
      go_simp
      go_at_call 13
      refine (HH.out wx hx).mono ?_
      rintro e wy ⟨A', c', rfl, hown, hby⟩
      exact hK _ _ (bchain hx hby) hby ⟨A', c', rfl, slcP_own hown (fun _ _ _ => trivial)⟩
    apply Rel.rel_one [] (by kernel_rfl) (by kernel_rfl)
    case hs =>
      intro wx hx
      try simp only [Act.put, List.setIfInBounds_toArray, List.set_cons_zero, List.set_cons_succ]
      intro K hK
      go_simp
      exact hK _ _ hx (Below.refl _ _) rfl
    apply Rel.rel_one [(2, 83)] (by kernel_rfl) (by kernel_rfl)
    case hs =>
      intro wx hx
      rintro _ rfl
      try simp only [Act.put, List.setIfInBounds_toArray, List.set_cons_zero, List.set_cons_succ]
      intro K hK
      go_simp
      exact hK _ _ hx (Below.refl _ _) rfl
    apply Rel.rel_one [(3, 84)] (by kernel_rfl) (by kernel_rfl)
    case hs =>
      intro wx hx
      rintro _ rfl
      have c0 := C0.out wx hx
      try simp only [Act.put, List.setIfInBounds_toArray, List.set_cons_zero, List.set_cons_succ]
      intro K hK
      go_simp
      exact hK _ _ hx (Below.refl _ _) rfl
    apply Rel.rel_one [(1, 82), (4, 85)] (by kernel_rfl) (by kernel_rfl)
    case hs =>
      intro wx hx
      rintro _ ⟨A82, c82, rfl, s82⟩ _ rfl
      have c0 := C0.out wx hx
      try simp only [Act.put, List.setIfInBounds_toArray, List.set_cons_zero, List.set_cons_succ]
      intro K hK
      go_simp
      go_at_call 12
      refine (equal_eq S _ _ _ _ _ _ wx hSn s82.slc (LL.out wx hx)).mono ?_
      rintro e wy ⟨rfl, hby⟩
      exact hK _ _ (bchain hx hby) hby rfl
    apply Rel.rel_one [(5, 86)] (by kernel_rfl) (by kernel_rfl)
    case hs =>
      intro wx hx
      rintro _ rfl
      try simp only [Act.put, List.setIfInBounds_toArray, List.set_cons_zero, List.set_cons_succ]
      intro K hK
      go_simp
      exact hK _ _ hx (Below.refl _ _) rfl
    refine Rel.rel_end [(0, 81), (1, 82), (2, 83), (3, 84), (4, 85), (5, 86), (6, 8)] (by kernel_rfl) (by kernel_rfl) ?_
    intro wx hx
    rintro _ rfl _ ⟨A82, c82, rfl, s82⟩ _ rfl _ rfl _ rfl _ rfl _ rfl
    try simp only [Act.put, List.setIfInBounds_toArray, List.set_cons_zero, List.set_cons_succ]
    refine Rel.valsD_ret ?_
    go_wp2_with fail
    go_ret
    exact ⟨rfl, bchain hb0 hx⟩
  have k4 : (kd == 4) = false := by simpa using h4
  go_enter Try.func11, Try.ntmps11
  go_wp2_with fail
  rw [← HW0.out]
  go_ret
  exact ⟨rfl, hb0⟩
end Go.Proofs.Ytmddnilephneiaa.StepWalk
