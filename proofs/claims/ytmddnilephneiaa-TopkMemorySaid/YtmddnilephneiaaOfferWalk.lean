/-
  The walks of a keeper: turn, len, Offer, Len, Worst.
-/
import Derived.Test.YtmddnilephneiaaSinkWalk
import Derived.Test.YtmddnilephneiaaKeepPlain
namespace Go.Proofs.Ytmddnilephneiaa.OfferWalk
open Go.RowKit Go.PlainAid HitPlain HeapPlain KeepPlain Base HitBase PushWalk SinkWalk

set_option maxRecDepth 100000 in
set_option maxHeartbeats 2000000 in
theorem turn_any (B b : Nat) (k : Int) (v : Value) (L : List Hit) (i s : Int) (w : World) (hK : Kp w B b k v L) (h0 : 0 < L.length) (hn : L.length ≤ 8796093022208) :
    Calls Try.prog 34 #[.pointer (some ⟨b, 1, none⟩), .agg #[.int .i64 i, .int .u64 s]] w fun e w' => e = .returned (.tuple #[]) ∧ Pushed w B b k v (L.set 0 (i, s)) w' := by
  obtain ⟨g, cap, rfl, _, _⟩ := hK.own.form h0
  have hblt := hK.blk.lt
  have hR : Row w w B b k (.slice (some ⟨g, 0, none⟩) L.length cap) L.length g cap L :=
    ⟨hK.blk, hK.own, rfl, fun e => hK.ne (by rw [e]; rfl), Foot.refl _ _, .inl rfl⟩
  have hR1 : Row w (w.alloc (.cells #[.int .i64 i, .int .u64 s] 29)) B b k (.slice (some ⟨g, 0, none⟩) L.length cap) L.length g cap L := hR.below ((Below.refl _ _).alloc (Nat.le_refl _) _)
  obtain ⟨w1, hw1⟩ : ∃ w1, w1 = w.alloc (.cells #[.int .i64 i, .int .u64 s] 29) := ⟨_, rfl⟩
  have c0 : w1.cell? ⟨w.heap.size, 0, none⟩ = some (.int .i64 i) := by rw [hw1, World.cell?_alloc_mark]; rfl
  have c0' : w1.cell? ⟨w.heap.size, 1, none⟩ = some (.int .u64 s) := by rw [hw1, World.cell?_alloc_mark]; rfl
  rw [← hw1] at hR1
  have e1 := hR1.c1
  have f0 : w1.frozen? ⟨g, 0, none⟩ = false := hR1.z 0
  have f1 : w1.frozen? ⟨g, 1, none⟩ = false := hR1.z 1
  obtain ⟨⟨x1, x2⟩, hx⟩ : ∃ x, L[0]? = some x := ⟨_, List.getElem?_eq_getElem h0⟩
  have x0 : w1.cell? ⟨g, 0, none⟩ = some (.int .i64 x1) := hR1.h0 hx
  have x1' : w1.cell? ⟨g, 1, none⟩ = some (.int .u64 x2) := hR1.h1 hx
  have HW1 := Lib.hid hw1
  clear hx hw1
  go_enter Try.func34, Try.ntmps34
  go_wp2_with fail
  rw [← HW1.out]
  go_region
  have hR2 := (hR1.set_ 0 (i, s)).drew
  go_wp2_with (go_at_call 41; refine (sink_any w B b g L.length cap k _ _ _ hn hR2 hK.base (Dn.start hK.hp (i, s))).mono ?_; rintro e w2 ⟨rfl, M, hM, hhp, hperm⟩)
  go_end0
  exact ⟨rfl, hM.fin hK.base hhp hperm⟩

theorem len_any (b n c : Nat) (A : Option Addr) (w : World) (h : w.cell? ⟨b, 1, none⟩ = some (.slice A n c)) :
    Calls Try.prog 32 #[.pointer (some ⟨b, 1, none⟩)] w fun e w' => e = .returned (.int .i64 n) ∧ w' = w := by
  go_enter Try.func32, Try.ntmps32
  go_wp2_with fail
  go_ret
  exact ⟨rfl, rfl⟩

theorem _root_.Go.Proofs.Ytmddnilephneiaa.PushWalk.Kp.below {w w' : World} {B b : Nat} {k : Int} {v : Value} {L : List Hit} (h : Kp w B b k v L) (hb : Below w.heap.size w w') : Kp w' B b k v L :=
  ⟨h.blk.below hb h.blk.lt, own_below h.own hb, h.ne, h.base, h.hp⟩

theorem _root_.Go.Proofs.Ytmddnilephneiaa.PushWalk.Kp.drew {w : World} {B b : Nat} {k : Int} {v : Value} {L : List Hit} (h : Kp w B b k v L) : Kp w.drew B b k v L := ⟨h.blk, h.own, h.ne, h.base, h.hp⟩

/-- A keeper that keeps S, the best first. -/
def Keeps (w : World) (B b : Nat) (k : Int) (v : Value) (S : List Hit) : Prop := ∃ L, Kp w B b k v L ∧ L.Perm S ∧ Srt S ∧ S.length ≤ k.toNat

/-- What Offer leaves. -/
def Offered (w : World) (B b : Nat) (k : Int) (v : Value) (S : List Hit) (w' : World) : Prop :=
  ∃ v', Keeps w' B b k v' S ∧ Foot w w' (fun g => g ≠ b ∧ v.ownBlock ≠ some g) ∧ (v'.ownBlock = v.ownBlock ∨ ∀ g, v'.ownBlock = some g → w.heap.size ≤ g)

theorem Pushed.offered {w w0 w' : World} {B b : Nat} {k : Int} {v : Value} {L S : List Hit} (h : Pushed w B b k v L w') (hb : Below w0.heap.size w0 w) (hp : L.Perm S) (hs : Srt S) (hl : S.length ≤ k.toNat) : Offered w0 B b k v S w' := by
  obtain ⟨v', M, hM, hperm, hf, ha⟩ := h
  refine ⟨v', ⟨M, hM, hperm.trans hp, hs, hl⟩, (Foot.ofBelow hb _).trans hf, ?_⟩
  rcases ha with h1 | h1
  · exact .inl h1
  · exact .inr (fun g e => Nat.le_trans hb.size (h1 g e))

set_option maxRecDepth 100000 in
set_option maxHeartbeats 4000000 in
theorem offer_any (B b : Nat) (k : Int) (v : Value) (S : List Hit) (i s : Int) (w : World) (hK : Keeps w B b k v S) (hB : B ≤ w.heap.size) (hn : (S.length + 1) * 16 ≤ 140737488355328) :
    Calls Try.prog 18 #[.pointer (some ⟨b, 0, none⟩), .agg #[.int .i64 i, .int .u64 s]] w fun e w' =>
      e = .returned (.bool (kept k.toNat S (i, s))) ∧ Offered w B b k v ((insS (i, s) S).take k.toNat) w' := by
  obtain ⟨L, hL, hperm, hs, hlen⟩ := hK
  have hll := hperm.length_eq
  obtain ⟨w1, hw1⟩ : ∃ w1, w1 = w.alloc (.cells #[.int .i64 i, .int .u64 s] 29) := ⟨_, rfl⟩
  have hb1 : Below w.heap.size w w1 := by rw [hw1]; exact (Below.refl _ _).alloc (Nat.le_refl _) _
  have c0 : w1.cell? ⟨w.heap.size, 0, none⟩ = some (.int .i64 i) := by rw [hw1, World.cell?_alloc_mark]; rfl
  have c0' : w1.cell? ⟨w.heap.size, 1, none⟩ = some (.int .u64 s) := by rw [hw1, World.cell?_alloc_mark]; rfl
  have hL1 : Kp w1 B b k v L := ⟨hL.blk.below hb1 hL.blk.lt, own_below hL.own hb1, hL.ne, hL.base, hL.hp⟩
  have hs1 := hb1.size
  obtain ⟨A, c, rfl⟩ := own_slice hL.own
  have e0 : w1.cell? ⟨b, 0, none⟩ = some (.int .i64 k) := hL1.blk.cell 0
  have e1 : w1.cell? ⟨b, 1, none⟩ = some (.slice A L.length c) := hL1.blk.cell 1
  have HWS : Hid (w.heap.size < w1.heap.size) := Lib.hid (by rw [hw1]; simp)
  have HW1 := Lib.hid hw1
  have HLL := Lib.hid hll
  clear hw1 hll
  by_cases hk : (L.length : Int) < k
  · have HK : Hid (kept k.toNat S (i, s) = true) := Lib.hid (kept_room (by have := HLL.out; omega))
    have HT : Hid ((insS (i, s) S).take k.toNat = insS (i, s) S) := Lib.hid (take_room (by have := HLL.out; omega))
    go_enter Try.func18, Try.ntmps18
    go_wp2_with fail
    rw [← HW1.out]
    go_quiet ((go_at_call 32; exact Calls.quiet_of_same (len_any _ _ _ _ _ (by assumption))))
    go_wp2_with fail
    generalize hw2 : w1.drewN nq = w2
    have hbA : Below w.heap.size w w2 := hw2 ▸ bdrewN hb1 _
    have hLA : Kp w2 B b k _ L := hL.below hbA
    have g0 : w2.cell? ⟨w.heap.size, 0, none⟩ = some (.int .i64 i) := hw2 ▸ c0
    have g1 : w2.cell? ⟨w.heap.size, 1, none⟩ = some (.int .u64 s) := hw2 ▸ c0'
    go_still_tail 4, (by kernel_rfl)
    go_wp2_with (go_at_call 33; refine (push_any B b k (.slice A L.length c) L i s _ hLA.drew (Nat.le_trans hB hbA.size) (by rw [HLL.out]; exact hn)).mono ?_; rintro e w3 ⟨rfl, hp2⟩)
    go_ret
    refine ⟨ret_bool HK.out.symm, ?_⟩
    rw [HT.out]
    exact Pushed.offered hp2 (bdrew hbA) (((List.perm_append_comm (l₁ := L) (l₂ := [(i, s)])).trans (hperm.cons (i, s))).trans (ins_perm (i, s) S).symm) (ins_srt hs) (by rw [ins_len]; have := HLL.out; omega)
  · by_cases hk1 : k < 1
    · have HK : Hid (kept k.toNat S (i, s) = false) := Lib.hid (by rw [show k.toNat = 0 by omega]; exact kept_zero)
      have HT : Hid ((insS (i, s) S).take k.toNat = S) := Lib.hid (by rw [show k.toNat = 0 by omega]; exact take_zero' (by omega))
      have d1 : decide (k < 1) = true := by simpa using hk1
      go_enter Try.func18, Try.ntmps18
      go_wp2_with fail
      rw [← HW1.out]
      go_quiet ((go_at_call 32; exact Calls.quiet_of_same (len_any _ _ _ _ _ (by assumption))))
      go_wp2_with fail
      go_quiet (fail)
      go_wp2_with fail
      go_ret
      refine ⟨ret_bool HK.out.symm, ?_⟩
      rw [HT.out]
      exact ⟨_, ⟨L, ⟨hL1.blk, hL1.own, hL1.ne, hL1.base, hL1.hp⟩, hperm, hs, hlen⟩, Foot.ofBelow (bdrewN (bdrewN hb1 _) _) _, .inl rfl⟩
    · have h0 : 0 < L.length := by omega
      obtain ⟨⟨r1, r2⟩, hr⟩ : ∃ r, L[0]? = some r := ⟨_, List.getElem?_eq_getElem h0⟩
      obtain ⟨S0, hS0, hset⟩ := keep_head hL.hp hperm hs hr
      obtain ⟨g, cap, hA, _, _⟩ := hL.own.form h0
      simp only [Value.slice.injEq, true_and] at hA
      obtain ⟨rfl, _⟩ := hA
      have x0 : w1.cell? ⟨g, 0, none⟩ = some (.int .i64 r1) := by
        rw [hL1.own.cellAt 0 (by omega)]
        exact hc_at0 L 0 _ hr
      have x1 : w1.cell? ⟨g, 1, none⟩ = some (.int .u64 r2) := by
        rw [hL1.own.cellAt 1 (by omega)]
        exact hc_at1 L 0 _ hr
      have hfull : (S0 ++ [(r1, r2)]).length = k.toNat := by rw [← hS0]; have := HLL.out; omega
      have hfa : Srt (S0 ++ [(r1, r2)]) := hS0 ▸ hs
      have d1 : decide (k < 1) = false := by simpa using hk1
      cases hb : btr (i, s) (r1, r2)
      · have HB := Lib.hid hb
        have HK : Hid (kept k.toNat S (i, s) = false) := Lib.hid (by rw [hS0, kept_full hfull, hb])
        have HT : Hid ((insS (i, s) S).take k.toNat = S) := Lib.hid (by rw [hS0]; exact take_no hfa hfull hb)
        clear hb hr hS0 hfull hfa
        go_enter Try.func18, Try.ntmps18
        go_wp2_with fail
        rw [← HW1.out]
        go_quiet ((go_at_call 32; exact Calls.quiet_of_same (len_any _ _ _ _ _ (by assumption))))
        go_wp2_with fail
        generalize hw2 : w1.drewN nq = w2
        have hbA : Below w.heap.size w w2 := hw2 ▸ bdrewN hb1 _
        have hLA : Kp w2 B b k _ L := hL.below hbA
        have g0 : w2.cell? ⟨w.heap.size, 0, none⟩ = some (.int .i64 i) := hw2 ▸ c0
        have g1 : w2.cell? ⟨w.heap.size, 1, none⟩ = some (.int .u64 s) := hw2 ▸ c0'
        have y0 : w2.cell? ⟨g, 0, none⟩ = some (.int .i64 r1) := hw2 ▸ x0
        have y1 : w2.cell? ⟨g, 1, none⟩ = some (.int .u64 r2) := hw2 ▸ x1
        have y2 : w2.cell? ⟨b, 0, none⟩ = some (.int .i64 k) := hw2 ▸ e0
        have y3 : w2.cell? ⟨b, 1, none⟩ = some (.slice (some ⟨g, 0, none⟩) L.length c) := hw2 ▸ e1
        go_still_tail 14, (by kernel_rfl)
        go_wp2_with (go_at_call 25; refine (better_any _ _ _ _ _).mono ?_; rw [HB.out]; rintro e w3 ⟨rfl, hb2⟩)
        go_ret
        refine ⟨ret_bool HK.out.symm, ?_⟩
        rw [HT.out]
        have hb3 := bchain (bdrew hbA) hb2
        have hL2 : Kp w3 B b k _ L := hL.below hb3
        exact ⟨_, ⟨L, hL2, hperm, hs, hlen⟩, Foot.ofBelow hb3 _, .inl rfl⟩
      · have HB := Lib.hid hb
        have HK : Hid (kept k.toNat S (i, s) = true) := Lib.hid (by rw [hS0, kept_full hfull, hb])
        have HT : Hid ((insS (i, s) S).take k.toNat = insS (i, s) S0) := Lib.hid (by rw [hS0]; exact take_yes hfull hb)
        have HS : Hid (Srt (insS (i, s) S0) ∧ (insS (i, s) S0).length ≤ k.toNat) := Lib.hid ⟨by rw [← HT.out]; exact take_srt hs _ _, by rw [← HT.out, List.length_take]; omega⟩
        clear hb hr hS0 hfull hfa
        go_enter Try.func18, Try.ntmps18
        go_wp2_with fail
        rw [← HW1.out]
        go_quiet ((go_at_call 32; exact Calls.quiet_of_same (len_any _ _ _ _ _ (by assumption))))
        go_wp2_with fail
        generalize hw2 : w1.drewN nq = w2
        have hbA : Below w.heap.size w w2 := hw2 ▸ bdrewN hb1 _
        have hLA : Kp w2 B b k _ L := hL.below hbA
        have g0 : w2.cell? ⟨w.heap.size, 0, none⟩ = some (.int .i64 i) := hw2 ▸ c0
        have g1 : w2.cell? ⟨w.heap.size, 1, none⟩ = some (.int .u64 s) := hw2 ▸ c0'
        have y0 : w2.cell? ⟨g, 0, none⟩ = some (.int .i64 r1) := hw2 ▸ x0
        have y1 : w2.cell? ⟨g, 1, none⟩ = some (.int .u64 r2) := hw2 ▸ x1
        have y2 : w2.cell? ⟨b, 0, none⟩ = some (.int .i64 k) := hw2 ▸ e0
        have y3 : w2.cell? ⟨b, 1, none⟩ = some (.slice (some ⟨g, 0, none⟩) L.length c) := hw2 ▸ e1
        go_still_tail 14, (by kernel_rfl)
        go_wp2_with (go_at_call 25; refine (better_any _ _ _ _ _).mono ?_; rw [HB.out]; rintro e w3 ⟨rfl, hb2⟩)
        have hb3 := bchain (bdrew hbA) hb2
        have hL2 : Kp w3 B b k _ L := hL.below hb3
        have HWA : w.heap.size < w2.heap.size := by have := HWS.out; have := congrArg (fun z : World => z.heap.size) hw2; simp at this; omega
        have k0 : w3.cell? ⟨w.heap.size, 0, none⟩ = some (.int .i64 i) := (hb2.cell (p := ⟨w.heap.size, 0, none⟩) HWA).trans g0
        have k1 : w3.cell? ⟨w.heap.size, 1, none⟩ = some (.int .u64 s) := (hb2.cell (p := ⟨w.heap.size, 1, none⟩) HWA).trans g1
        go_still_tail 4, (by kernel_rfl)
        go_wp2_with (go_at_call 34; refine (turn_any B b k _ L i s _ hL2.drew h0 (by have := HLL.out; omega)).mono ?_; rintro e w4 ⟨rfl, hp4⟩)
        go_ret
        refine ⟨ret_bool HK.out.symm, ?_⟩
        rw [HT.out]
        exact Pushed.offered hp4 (bdrew hb3) ((hset (i, s)).trans (ins_perm (i, s) S0).symm) HS.out.1 HS.out.2
end Go.Proofs.Ytmddnilephneiaa.OfferWalk
