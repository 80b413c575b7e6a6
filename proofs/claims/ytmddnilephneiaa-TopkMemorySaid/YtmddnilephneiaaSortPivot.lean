/-
  The walks of sort.order2_func, median_func, medianAdjacent_func, choosePivot_func where 'less' may make memory.
-/
import Derived.Test.YtmddnilephneiaaSortBase
namespace Go.Proofs.Ytmddnilephneiaa.SortPivot
open Go.Shelf Go.RowKit Go.Lib Go.Sort Go.PlainAid HitPlain Base HitBase SortBase

theorem ret2 {a b c d : Int} (h : a = c) (k : b = d) : Ending.returned (.tuple #[.int .i64 a, .int .i64 b]) = .returned (.tuple #[.int .i64 c, .int .i64 d]) := by rw [h, k]
theorem ret1 {a c : Int} (h : a = c) : Ending.returned (.int .i64 a) = .returned (.int .i64 c) := by rw [h]

section
variable {w0 : World} {blk off n g sf : Nat} {lb sb : Array Value} {lt : Hit → Hit → Bool}

/-- A counter in block cb. -/
structure Ct (w0 : World) (blk cb : Nat) (W : World) (s : Nat) : Prop where
  own : Blk W cb 3 #[.int .i64 s]
  ne : cb ≠ blk
  new : w0.heap.size ≤ cb
theorem Ct.below {cb s : Nat} {W W' : World} (h : Ct w0 blk cb W s) (hb : Below W.heap.size W W') : Ct w0 blk cb W' s := ⟨h.own.below hb h.own.lt, h.ne, h.new⟩
theorem Ct.set_ {cb s : Nat} {W : World} (h : Ct w0 blk cb W s) (t : Nat) : Ct w0 blk cb (W.setCell ⟨cb, 0, none⟩ (.int .i64 t)) t := ⟨h.own.set_ 0 _, h.ne, h.new⟩
theorem Rw.setFar {W : World} {d : Array Hit} {cb : Nat} (h : Rw w0 blk off n W d) (hc : cb ≠ blk) (hn : w0.heap.size ≤ cb) (v : Value) : Rw w0 blk off n (W.setCell ⟨cb, 0, none⟩ v) d :=
  ⟨holdsK_block h.holds (Below.heap_setCell W ⟨cb, 0, none⟩ v blk (Ne.symm hc)), h.size, h.lt, h.foot.set_ (p := ⟨cb, 0, none⟩) (fun hl => absurd hl (Nat.not_lt.2 hn)) _, h.shape.same (Below.heap_setCell W ⟨cb, 0, none⟩ v blk (Ne.symm hc))⟩

/-- What order2 and its callers leave. -/
def Counts (w0 : World) (blk off n cb : Nat) (W : World) (d : Array Hit) (s : Nat) (w' : World) : Prop :=
  Rw w0 blk off n w' d ∧ Ct w0 blk cb w' s ∧ Foot W w' (fun g => g ≠ cb)

theorem order2_t {d : Array Hit} {a b s : Nat} (h : lt d[b]! d[a]! = true) : order2 lt d a b s = (b, a, s + 1) := by unfold order2; rw [if_pos h]
theorem order2_f {d : Array Hit} {a b s : Nat} (h : lt d[b]! d[a]! = false) : order2 lt d a b s = (a, b, s) := by unfold order2; rw [if_neg (by rw [h]; decide)]

set_option maxHeartbeats 2000000 in
theorem order2_any (L : Ls w0 blk off n g lb sf sb lt) (W : World) (d : Array Hit) (hR : Rw w0 blk off n W d) (a b cb s : Nat) (ha : a < n) (hb : b < n) (hs : s ≤ 1000) (hC : Ct w0 blk cb W s) :
    Calls Try.prog 66 #[.agg #[.func (.func g) #[] lb, .func (.func sf) #[] sb], .int .i64 a, .int .i64 b, .pointer (some ⟨cb, 0, none⟩)] W fun e w' =>
      e = .returned (.tuple #[.int .i64 (order2 lt d a b s).1, .int .i64 (order2 lt d a b s).2.1]) ∧ Counts w0 blk off n cb W d (order2 lt d a b s).2.2 w' := by
  have hbig := L.big
  have eg := L.enter
  have hb0 : Below W.heap.size W (W.alloc (.cells #[.func (.func g) #[] lb, .func (.func sf) #[] sb] 74)) := (Below.refl _ _).alloc (Nat.le_refl _) _
  have hr0 := hR.below hb0
  have hc0 := hC.below hb0
  cases hlv : lt d[b]! d[a]!
  · have HO := Lib.hid (order2_f (s := s) hlv)
    have hl := L.at_ hr0 (i := b) (j := a) (x := (b : Int)) (y := (a : Int)) hb ha rfl rfl hlv
    clear hlv
    go_enter Try.func66, Try.ntmps66
    go_wp2_with (go_at_fn g; refine hl.mono ?_; rintro e w1 ⟨rfl, hb1⟩)
    go_ret2
    rw [HO.out]
    exact ⟨rfl, hr0.below hb1, hc0.below hb1, Foot.ofBelow (bchain hb0 hb1) _⟩
  · have HO := Lib.hid (order2_t (s := s) hlv)
    have hl := L.at_ hr0 (i := b) (j := a) (x := (b : Int)) (y := (a : Int)) hb ha rfl rfl hlv
    clear hlv
    go_enter Try.func66, Try.ntmps66
    go_wp2_with (go_at_fn g; refine hl.mono ?_; rintro e w1 ⟨rfl, hb1⟩; have q1 : w1.cell? ⟨cb, 0, none⟩ = some (.int .i64 s) := (hc0.below hb1).own.cell 0; have q2 := (hc0.below hb1).own.frozen 0)
    go_ret2
    rw [HO.out]
    have hc1 := hc0.below hb1
    exact ⟨rfl, Rw.setFar (hr0.below hb1) hc1.ne hc1.new _, by have := hc1.set_ (s + 1); simpa using this, (Foot.ofBelow (bchain hb0 hb1) _).set_ (p := ⟨cb, 0, none⟩) (fun _ h => h rfl) _⟩

theorem Counts.trans {W W' W'' : World} {d : Array Hit} {cb t : Nat} (h : Foot W W' (fun g => g ≠ cb)) (k : Counts w0 blk off n cb W' d t W'') : Counts w0 blk off n cb W d t W'' := ⟨k.1, k.2.1, h.trans k.2.2⟩

set_option maxRecDepth 100000 in
set_option maxHeartbeats 4000000 in
theorem median_any (L : Ls w0 blk off n g lb sf sb lt) (W : World) (d : Array Hit) (hR : Rw w0 blk off n W d) (a b c cb s : Nat) (ha : a < n) (hb : b < n) (hc : c < n) (hs : s ≤ 900) (hC : Ct w0 blk cb W s) :
    Calls Try.prog 65 #[.agg #[.func (.func g) #[] lb, .func (.func sf) #[] sb], .int .i64 a, .int .i64 b, .int .i64 c, .pointer (some ⟨cb, 0, none⟩)] W fun e w' =>
      e = .returned (.int .i64 (median lt d a b c s).1) ∧ Counts w0 blk off n cb W d (median lt d a b c s).2 w' := by
  have hb0 : Below W.heap.size W (W.alloc (.cells #[.func (.func g) #[] lb, .func (.func sf) #[] sb] 74)) := (Below.refl _ _).alloc (Nat.le_refl _) _
  have hr0 := hR.below hb0
  have hc0 := hC.below hb0
  have hx0 := Bx.new W g lb sf sb
  have hne : W.heap.size ≠ cb := by have := hC.own.lt; omega
  obtain ⟨x1, y1, s1, h1⟩ : ∃ x1 y1 s1, order2 lt d a b s = (x1, y1, s1) := ⟨_, _, _, rfl⟩
  obtain ⟨x2, y2, s2, h2⟩ : ∃ x2 y2 s2, order2 lt d y1 c s1 = (x2, y2, s2) := ⟨_, _, _, rfl⟩
  obtain ⟨x3, y3, s3, h3⟩ : ∃ x3 y3 s3, order2 lt d x1 x2 s2 = (x3, y3, s3) := ⟨_, _, _, rfl⟩
  have m1 := order2_mem lt d a b s
  have m2 := order2_mem lt d y1 c s1
  have n1 := order2_count lt d a b s
  have n2 := order2_count lt d y1 c s1
  rw [h1] at m1 n1
  rw [h2] at m2 n2
  simp only at m1 m2 n1 n2
  have HM : Hid (median lt d a b c s = (y3, s3)) := Lib.hid (by unfold median; simp only [h1, h2, h3])
  have k1 := order2_any L _ d hr0 a b cb s ha hb (by omega) hc0
  rw [h1] at k1
  have k2 := fun W' (hr : Rw w0 blk off n W' d) (hq : Ct w0 blk cb W' s1) => order2_any L W' d hr y1 c cb s1 (by omega) hc (by omega) hq
  rw [h2] at k2
  have k3 := fun W' (hr : Rw w0 blk off n W' d) (hq : Ct w0 blk cb W' s2) => order2_any L W' d hr x1 x2 cb s2 (by omega) (by omega) (by omega) hq
  rw [h3] at k3
  have K1 := Lib.hid k1
  have K2 := Lib.hid k2
  have K3 := Lib.hid k3
  clear k1 k2 k3 h1 h2 h3 m1 m2 n1 n2
  go_enter Try.func65, Try.ntmps65
  go_wp2_with fail
  go_at_call 66
  refine K1.out.mono ?_
  rintro e w1 ⟨rfl, hr1, hc1, hf1⟩
  have hx1 := hx0.foot hf1 hne
  have p0 := hx1.c0
  have p1 := hx1.c1
  go_wp2_with fail
  go_at_call 66
  refine (K2.out _ hr1 hc1).mono ?_
  rintro e w2 ⟨rfl, hr2, hc2, hf2⟩
  have hx2 := hx1.foot hf2 hne
  have p2 := hx2.c0
  have p3 := hx2.c1
  go_wp2_with fail
  go_at_call 66
  refine (K3.out _ hr2 hc2).mono ?_
  rintro e w3 ⟨rfl, hr3, hc3, hf3⟩
  go_wp2_with fail
  go_ret
  rw [HM.out]
  exact ⟨rfl, hr3, hc3, (((Foot.ofBelow hb0 _).trans hf1).trans hf2).trans hf3⟩

set_option maxHeartbeats 2000000 in
theorem adjacent_any (L : Ls w0 blk off n g lb sf sb lt) (W : World) (d : Array Hit) (hR : Rw w0 blk off n W d) (a cb s : Nat) (ha : 1 ≤ a) (hb : a + 1 < n) (hs : s ≤ 900) (hC : Ct w0 blk cb W s) :
    Calls Try.prog 64 #[.agg #[.func (.func g) #[] lb, .func (.func sf) #[] sb], .int .i64 a, .pointer (some ⟨cb, 0, none⟩)] W fun e w' =>
      e = .returned (.int .i64 (medianAdjacent lt d a s).1) ∧ Counts w0 blk off n cb W d (medianAdjacent lt d a s).2 w' := by
  have hb0 : Below W.heap.size W (W.alloc (.cells #[.func (.func g) #[] lb, .func (.func sf) #[] sb] 74)) := (Below.refl _ _).alloc (Nat.le_refl _) _
  have hbig := L.big
  have k1 := median_any L _ d (hR.below hb0) (a - 1) a (a + 1) cb s (by omega) (by omega) hb hs (hC.below hb0)
  rw [show ((a - 1 : Nat) : Int) = (a : Int) - 1 by omega, show ((a + 1 : Nat) : Int) = (a : Int) + 1 by omega] at k1
  have K1 := Lib.hid k1
  clear k1
  go_enter Try.func64, Try.ntmps64
  go_wp2_with fail
  go_at_call 65
  refine K1.out.mono ?_
  rintro e w1 ⟨rfl, hl⟩
  go_wp2_with fail
  go_ret
  exact ⟨rfl, Counts.trans (Foot.ofBelow hb0 _) hl⟩

/-- The hint that a count of swaps gives. -/
theorem hint0 : hintCode (hintOf 0) = 1 := rfl
theorem hint12 : hintCode (hintOf 12) = 2 := rfl
theorem hintx {s : Nat} (h1 : s ≠ 0) (h2 : s ≠ 12) : hintCode (hintOf s) = 0 := by unfold hintOf; rw [if_neg h1, if_neg h2]; rfl
theorem hintWays (s : Nat) : (s = 0 ∧ hintCode (hintOf s) = 1) ∨ (s = 12 ∧ hintCode (hintOf s) = 2) ∨ (((s : Int) == 0) = false ∧ ((s : Int) == 12) = false ∧ hintCode (hintOf s) = 0) := by
  by_cases h1 : s = 0
  · subst h1; exact .inl ⟨rfl, rfl⟩
  · by_cases h2 : s = 12
    · subst h2; exact .inr (.inl ⟨rfl, rfl⟩)
    · exact .inr (.inr ⟨beq_eq_false_iff_ne.2 (by omega), beq_eq_false_iff_ne.2 (by omega), hintx h1 h2⟩)

set_option maxRecDepth 100000 in
set_option maxHeartbeats 8000000 in
theorem pivot_any (L : Ls w0 blk off n g lb sf sb lt) (W : World) (d : Array Hit) (hR : Rw w0 blk off n W d) (a b : Nat) (hab : a < b) (hb : b ≤ n) :
    Calls Try.prog 56 #[.agg #[.func (.func g) #[] lb, .func (.func sf) #[] sb], .int .i64 a, .int .i64 b] W fun e w' =>
      e = .returned (.tuple #[.int .i64 (choosePivot lt d a b).1, .int .i64 (hintCode (choosePivot lt d a b).2)]) ∧ SortLeaves w0 blk off n W d w' := by
  have hbig := L.big
  have hlt := hR.ltW
  have hb0 : Below W.heap.size W (W.alloc (.cells #[.func (.func g) #[] lb, .func (.func sf) #[] sb] 74)) := (Below.refl _ _).alloc (Nat.le_refl _) _
  have hx0 := Bx.new W g lb sf sb
  generalize hWa : W.alloc (.cells #[.func (.func g) #[] lb, .func (.func sf) #[] sb] 74) = Wa at hb0 hx0
  have hsz : Wa.heap.size = W.heap.size + 1 := by rw [← hWa]; simp
  have hb1 : Below Wa.heap.size Wa (Wa.alloc (.cells #[.int .i64 0] 3)) := (Below.refl _ _).alloc (Nat.le_refl _) _
  have hC : Ct w0 blk Wa.heap.size (Wa.alloc (.cells #[.int .i64 0] 3)) 0 := ⟨Blk.new _ _ _, by omega, by have := hR.foot.size; omega⟩
  have hx1 := hx0.below hb1
  have hr1 := (hR.below hb0).below hb1
  have hfW : Foot W (Wa.alloc (.cells #[.int .i64 0] 3)) (fun g => g ≠ blk) := Foot.ofBelow (bchain hb0 hb1) _
  have hlift : ∀ w', Counts w0 blk off n Wa.heap.size (Wa.alloc (.cells #[.int .i64 0] 3)) d 0 w' → True := fun _ _ => trivial
  clear hlift
  generalize hWb : Wa.alloc (.cells #[.int .i64 0] 3) = Wb at hb1 hC hx1 hr1 hfW
  have hszb : Wb.heap.size = W.heap.size + 2 := by rw [← hWb]; simp; omega
  have fin : ∀ w', Rw w0 blk off n w' d → Foot Wb w' (fun g => g ≠ Wa.heap.size) → SortLeaves w0 blk off n W d w' := fun w' h1 h2 =>
    ⟨h1, ⟨h2.os.trans hfW.os, h2.tape.trans hfW.tape, h2.output.trans hfW.output, Nat.le_trans hfW.size h2.size, fun k hk ho => (h2.block k (by omega) (by omega)).trans (hfW.block k hk ho)⟩⟩
  have FIN := Lib.hid fin
  have HWA := Lib.hid hWa
  have HWB := Lib.hid hWb
  have HSZ := Lib.hid hsz
  obtain ⟨cb, hcb⟩ : ∃ cb, cb = Wa.heap.size := ⟨_, rfl⟩
  have HCB : Hid (cb = W.heap.size + 1) := Lib.hid (hcb.trans hsz)
  rw [← hcb] at hC fin FIN
  have hne : W.heap.size ≠ cb := by have := HCB.out; omega
  clear fin hWa hWb hsz hszb hb0 hb1 hx0 hfW hR hcb
  obtain ⟨I, hI⟩ : ∃ I : Nat, I = a + (b - a) / 4 * 1 := ⟨_, rfl⟩
  obtain ⟨J, hJ⟩ : ∃ J : Nat, J = a + (b - a) / 4 * 2 := ⟨_, rfl⟩
  obtain ⟨K, hK⟩ : ∃ K : Nat, K = a + (b - a) / 4 * 3 := ⟨_, rfl⟩
  have eI : ((a : Int) + ((b : Int) - (a : Int)) / 4) = (I : Int) := by omega
  have eJ : ((a : Int) + ((b : Int) - (a : Int)) / 4 * 2) = (J : Int) := by omega
  have eK : ((a : Int) + ((b : Int) - (a : Int)) / 4 * 3) = (K : Int) := by omega
  rw [choosePivot_eq]
  by_cases h8 : b - a ≥ 8
  · by_cases h50 : b - a ≥ 50
    · obtain ⟨i1, s1, h1⟩ : ∃ i1 s1, medianAdjacent lt d I 0 = (i1, s1) := ⟨_, _, rfl⟩
      obtain ⟨j1, s2, h2⟩ : ∃ j1 s2, medianAdjacent lt d J s1 = (j1, s2) := ⟨_, _, rfl⟩
      obtain ⟨k1, s3, h3⟩ : ∃ k1 s3, medianAdjacent lt d K s2 = (k1, s3) := ⟨_, _, rfl⟩
      obtain ⟨p, s, h4⟩ : ∃ p s, median lt d i1 j1 k1 s3 = (p, s) := ⟨_, _, rfl⟩
      have hraw : rawPivot lt d a b = (p, s) := by simp only [rawPivot, if_pos h8, if_pos h50, ← hI, ← hJ, ← hK, h1, h2, h3, h4]
      have m1 := medianAdjacent_mem lt d I 0; rw [h1] at m1
      have m2 := medianAdjacent_mem lt d J s1; rw [h2] at m2
      have m3 := medianAdjacent_mem lt d K s2; rw [h3] at m3
      have n1 := medianAdjacent_count lt d I 0; rw [h1] at n1
      have n2 := medianAdjacent_count lt d J s1; rw [h2] at n2
      have n3 := medianAdjacent_count lt d K s2; rw [h3] at n3
      simp only at m1 m2 m3 n1 n2 n3
      have k1' := adjacent_any L Wb d hr1 I cb 0 (by omega) (by omega) (by omega) hC
      rw [h1] at k1'
      have k2' := fun W' (hr : Rw w0 blk off n W' d) (hq : Ct w0 blk cb W' s1) => adjacent_any L W' d hr J cb s1 (by omega) (by omega) (by omega) hq
      rw [h2] at k2'
      have k3' := fun W' (hr : Rw w0 blk off n W' d) (hq : Ct w0 blk cb W' s2) => adjacent_any L W' d hr K cb s2 (by omega) (by omega) (by omega) hq
      rw [h3] at k3'
      have k4' := fun W' (hr : Rw w0 blk off n W' d) (hq : Ct w0 blk cb W' s3) => median_any L W' d hr i1 j1 k1 cb s3 (by omega) (by omega) (by omega) (by omega) hq
      rw [h4] at k4'
      have K1 := Lib.hid k1'
      have K2 := Lib.hid k2'
      have K3 := Lib.hid k3'
      have K4 := Lib.hid k4'
      rw [hraw]
      clear k1' k2' k3' k4' h1 h2 h3 h4 hraw hI hJ hK m1 m2 m3 n1 n2 n3
      have p0 := hx1.c0
      have p1 := hx1.c1
      have hway := Lib.hid (hintWays s)
      go_enter Try.func56, Try.ntmps56
      go_wp2_with fail
      rw [HWA.out, HWB.out, ← HCB.out]
      refine K1.out.mono ?_
      rintro e w1 ⟨rfl, hr2, hc2, hf2⟩
      have hx2 := hx1.foot hf2 hne
      have p2 := hx2.c0
      have p3 := hx2.c1
      go_wp2_with fail
      go_at_call 64
      refine (K2.out _ hr2 hc2).mono ?_
      rintro e w2 ⟨rfl, hr3, hc3, hf3⟩
      have hx3 := hx2.foot hf3 hne
      have p4 := hx3.c0
      have p5 := hx3.c1
      go_wp2_with fail
      go_at_call 64
      refine (K3.out _ hr3 hc3).mono ?_
      rintro e w3 ⟨rfl, hr4, hc3', hf4⟩
      have hx4 := hx3.foot hf4 hne
      have p6 := hx4.c0
      have p7 := hx4.c1
      go_wp2_with fail
      go_at_call 65
      refine (K4.out _ hr4 hc3').mono ?_
      rintro e w4 ⟨rfl, hr5, hc4, hf5⟩
      have q0 : w4.cell? ⟨cb, 0, none⟩ = some (.int .i64 s) := hc4.own.cell 0
      rcases hway.out with ⟨rfl, hh⟩ | ⟨rfl, hh⟩ | ⟨e0, e1, hh⟩
      all_goals
        have HH := Lib.hid hh
        clear hh
        go_wp2_with fail
        go_ret2
        rw [HH.out]
        exact ⟨rfl, FIN.out _ hr5 (((hf2.trans hf3).trans hf4).trans hf5)⟩
    · obtain ⟨p, s, h4⟩ : ∃ p s, median lt d I J K 0 = (p, s) := ⟨_, _, rfl⟩
      have hraw : rawPivot lt d a b = (p, s) := by simp only [rawPivot, if_pos h8, if_neg h50, ← hI, ← hJ, ← hK, h4]
      have k4' := median_any L Wb d hr1 I J K cb 0 (by omega) (by omega) (by omega) (by omega) hC
      rw [h4] at k4'
      have K4 := Lib.hid k4'
      rw [hraw]
      clear k4' h4 hraw hI hJ hK
      have p0 := hx1.c0
      have p1 := hx1.c1
      have hway := Lib.hid (hintWays s)
      go_enter Try.func56, Try.ntmps56
      go_wp2_with fail
      rw [HWA.out, HWB.out, ← HCB.out]
      refine K4.out.mono ?_
      rintro e w4 ⟨rfl, hr5, hc4, hf5⟩
      have q0 : w4.cell? ⟨cb, 0, none⟩ = some (.int .i64 s) := hc4.own.cell 0
      rcases hway.out with ⟨rfl, hh⟩ | ⟨rfl, hh⟩ | ⟨e0, e1, hh⟩
      all_goals
        have HH := Lib.hid hh
        clear hh
        go_wp2_with fail
        go_ret2
        rw [HH.out]
        exact ⟨rfl, FIN.out _ hr5 (hf5)⟩
  · have hraw : rawPivot lt d a b = (J, 0) := by simp only [rawPivot, if_neg h8, ← hJ]
    rw [hraw]
    clear hraw hI hJ hK
    have HH : Hid (hintCode (hintOf 0) = 1) := Lib.hid rfl
    go_enter Try.func56, Try.ntmps56
    go_wp2_with fail
    go_ret2
    rw [HWA.out, HWB.out, HH.out]
    exact ⟨rfl, FIN.out _ hr1 (Foot.refl _ _)⟩
end
end Go.Proofs.Ytmddnilephneiaa.SortPivot
