/-
  The walk of a keeper's heap: push.
-/
import Derived.Test.YtmddnilephneiaaHitBase
import Derived.Test.YtmddnilephneiaaHeapPlain
import Derived.Deep.DeepCutAuto
namespace Go.Proofs.Ytmddnilephneiaa.PushWalk
open Go.RowKit Go.PlainAid HitPlain HeapPlain Base HitBase

theorem hitInfo : (Try.prog.info? 29).map (fun i => (i.zero, i.size, i.bytes)) = some (some (.agg #[.int .i64 0, .int .u64 0]), 2, 16) := by kernel_rfl

/-- A keeper at block b: the bound k, the list's value v, the hits L as a heap. -/
structure Kp (w : World) (B b : Nat) (k : Int) (v : Value) (L : List Hit) : Prop where
  blk : Blk w b 57 #[.int .i64 k, v, (.func (.func 28) #[] #[])]
  own : w.ownsRow B 29 2 v L.length (hc L)
  ne : v.ownBlock ≠ some b
  base : B ≤ b
  hp : Hp L

/-- What push leaves. -/
def Pushed (w : World) (B b : Nat) (k : Int) (v : Value) (L : List Hit) (w' : World) : Prop :=
  ∃ v' M, Kp w' B b k v' M ∧ M.Perm L ∧ Foot w w' (fun g => g ≠ b ∧ v.ownBlock ≠ some g) ∧ (v'.ownBlock = v.ownBlock ∨ ∀ g, v'.ownBlock = some g → w.heap.size ≤ g)

theorem own_setFar {w : World} {base size n : Nat} {e : TypeId} {v : Value} {xs : List Value} (h : w.ownsRow base e size v n xs) {p : Addr} (hp : v.ownBlock ≠ some p.block) (u : Value) : (w.setCell p u).ownsRow base e size v n xs :=
  h.kept (row := some p.block) ⟨rfl, rfl, rfl, by simp, fun k _ hk => Below.heap_setCell w p u k (fun e => hk (by rw [e]))⟩ (.inr hp)

/-- Behind the append: the hits as they lie in block g. -/
structure Row (w wx : World) (B b : Nat) (k : Int) (v : Value) (n g cap : Nat) (M : List Hit) : Prop where
  blk : Blk wx b 57 #[.int .i64 k, .slice (some ⟨g, 0, none⟩) n cap, (.func (.func 28) #[] #[])]
  own : wx.ownsRow B 29 2 (.slice (some ⟨g, 0, none⟩) n cap) n (hc M)
  len : M.length = n
  ne : g ≠ b
  foot : Foot w wx (fun h => h ≠ b ∧ v.ownBlock ≠ some h)
  at_ : v.ownBlock = some g ∨ w.heap.size ≤ g

section
variable {w wx : World} {B b n g cap : Nat} {k : Int} {v : Value} {M : List Hit}
theorem Row.c1 (h : Row w wx B b k v n g cap M) : wx.cell? ⟨b, 1, none⟩ = some (.slice (some ⟨g, 0, none⟩) n cap) := h.blk.cell 1
theorem Row.c2 (h : Row w wx B b k v n g cap M) : wx.cell? ⟨b, 2, none⟩ = some (.func (.func 28) #[] #[]) := h.blk.cell 2
theorem Row.h0 (h : Row w wx B b k v n g cap M) {j : Nat} {x : Hit} (hx : M[j]? = some x) : wx.cell? ⟨g, j * 2, none⟩ = some (.int .i64 x.1) := by
  have hj := (List.getElem?_eq_some_iff.1 hx).1
  have hl := h.len
  rw [h.own.cellAt (j * 2) (by omega)]
  exact hc_at0 M j x hx
theorem Row.h1 (h : Row w wx B b k v n g cap M) {j : Nat} {x : Hit} (hx : M[j]? = some x) : wx.cell? ⟨g, j * 2 + 1, none⟩ = some (.int .u64 x.2) := by
  have hj := (List.getElem?_eq_some_iff.1 hx).1
  have hl := h.len
  rw [h.own.cellAt (j * 2 + 1) (by omega)]
  exact hc_at1 M j x hx
theorem Row.z (h : Row w wx B b k v n g cap M) (j : Nat) : wx.frozen? ⟨g, j, none⟩ = false := h.own.frozenAt j
theorem Row.below {wy : World} (h : Row w wx B b k v n g cap M) (hb : Below wx.heap.size wx wy) : Row w wy B b k v n g cap M :=
  ⟨h.blk.below hb h.blk.lt, own_below h.own hb, h.len, h.ne, h.foot.trans (Foot.ofBelow hb _), h.at_⟩
theorem Row.drewN (h : Row w wx B b k v n g cap M) (q : Nat) : Row w (wx.drewN q) B b k v n g cap M := ⟨h.blk, h.own, h.len, h.ne, h.foot.drewN q, h.at_⟩
theorem Row.drew (h : Row w wx B b k v n g cap M) : Row w wx.drew B b k v n g cap M := ⟨h.blk, h.own, h.len, h.ne, h.foot.drew, h.at_⟩
theorem Row.fin {L : List Hit} (h : Row w wx B b k v n g cap M) (hB : B ≤ b) (hh : Hp M) (hp : M.Perm L) : Pushed w B b k v L wx := by
  obtain rfl := h.len
  refine ⟨_, M, ⟨h.blk, h.own, fun e => h.ne (by simpa [Value.ownBlock] using e), hB, hh⟩, hp, h.foot, ?_⟩
  rcases h.at_ with h1 | h1
  · exact .inl (by rw [h1]; rfl)
  · exact .inr (fun g' e => by
      have : g = g' := by simpa [Value.ownBlock] using e
      omega)
/-- A hit is stored at place j. -/
theorem Row.set_ (h : Row w wx B b k v n g cap M) (j : Nat) (x : Hit) :
    Row w ((wx.setCell ⟨g, j * 2, none⟩ (.int .i64 x.1)).setCell ⟨g, j * 2 + 1, none⟩ (.int .u64 x.2)) B b k v n g cap (M.set j x) := by
  obtain ⟨o1, g1⟩ := h.own.stored (j * 2) (.int .i64 x.1)
  obtain ⟨o2, g2⟩ := o1.stored (j * 2 + 1) (.int .u64 x.2)
  refine ⟨(h.blk.far (p := ⟨g, j * 2, none⟩) (Ne.symm h.ne) _).far (p := ⟨g, j * 2 + 1, none⟩) (Ne.symm h.ne) _, by rw [hc_set]; exact o2, by rw [List.length_set]; exact h.len, h.ne, ?_, h.at_⟩
  refine (h.foot.grown g1 ?_).grown g2 ?_
  all_goals
    intro k hk e ho
    injection e with e
    subst e
    rcases h.at_ with h1 | h1
    · exact ho.2 h1
    · omega
end

set_option maxRecDepth 100000 in
set_option maxHeartbeats 4000000 in
theorem push_any (B b : Nat) (k : Int) (v : Value) (L : List Hit) (i s : Int) (w : World) (hK : Kp w B b k v L) (hB : B ≤ w.heap.size) (hn : (L.length + 1) * 16 ≤ 140737488355328) :
    Calls Try.prog 33 #[.pointer (some ⟨b, 1, none⟩), .agg #[.int .i64 i, .int .u64 s]] w fun e w' => e = .returned (.tuple #[]) ∧ Pushed w B b k v (L ++ [(i, s)]) w' := by
  obtain ⟨i0, hi0, hz0, hz1, hz2⟩ := info_parts hitInfo
  have hblt := hK.blk.lt
  obtain ⟨A, c, rfl⟩ := own_slice hK.own
  have c1 : w.cell? ⟨b, 1, none⟩ = some (.slice A L.length c) := hK.blk.cell 1
  have c2 : w.cell? ⟨b, 2, none⟩ = some (.func (.func 28) #[] #[]) := hK.blk.cell 2
  have z1 : w.frozen? ⟨b, 1, none⟩ = false := hK.blk.frozen 1
  have hown := hK.own
  have hnew : ∀ o1 o2, ((w.alloc o1).alloc o2).drew.heap[w.heap.size + 1]? = some o2 := by
    intro o1 o2
    have := heap_alloc_new (w.alloc o1) o2
    show ((w.alloc o1).alloc o2).heap[w.heap.size + 1]? = some o2
    simpa using this
  go_enter Try.func33, Try.ntmps33
  go_upto_region 1 with fail
  go_cut [] (fun wx => ∃ g cap, Row w wx B b k (.slice A L.length c) (L.length + 1) g cap (L ++ [(i, s)]))
  case first =>
    go_region_law ((refine step_append_lies _ (by rfl) _ _ _ (by rfl) B 29 i0 _ 2 16 Try.underlying26 hi0 hz0 hz1 hz2 rfl (by omega) (.slice A L.length c) L.length (hc L) (by rfl) (((hown.alloc _).alloc _).drew) ⟨w.heap.size + 1, 0, none⟩ 1 1 [.int .i64 i, .int .u64 s] (by rfl) (by rfl) (World.news_of_block (cs := #[.int .i64 i, .int .u64 s]) (t := 29) (fr := (0, 0)) (hnew _ _)) (by simp [Value.oneCell']) (by omega) (by unfold maxLen; omega) hn (by simp; omega) (w.heap.size + 2) (by simp) ?_; intro gg cap w1 hown1 hgrow hat hlt; have hb1 : Blk w1 b 57 #[.int .i64 k, .slice A L.length c, (.func (.func 28) #[] #[])] := Blk.grown (((hK.blk.alloc _).alloc _).drew) hgrow (Ne.symm hK.ne); have d1 : w1.cell? ⟨b, 1, none⟩ = some (.slice A L.length c) := hb1.cell 1; have d2 : w1.frozen? ⟨b, 1, none⟩ = false := hb1.frozen 1))
    all_goals
      go_wp2_with fail
      go_meet
      have hne1 : gg ≠ b := by
        rcases hat with h | h
        · exact fun e => hK.ne (by rw [h, e])
        · omega
      refine ⟨gg, cap, hb1.set_ 1 _, ?_, by simp, hne1, ?_, ?_⟩
      · have := own_setFar hown1 (p := ⟨b, 1, none⟩) (by simp [Value.ownBlock]; omega) (.slice (some ⟨gg, 0, none⟩) (L.length + 1) cap)
        rw [hc_append]
        exact this
      · refine Foot.set_ ?_ (p := ⟨b, 1, none⟩) (fun _ h => h.1 rfl) _
        refine Foot.grown (((Foot.refl w _).alloc _).alloc _).drew hgrow (fun k hk e h => h.2 e)
      · rcases hat with h | h
        · exact .inl h
        · exact .inr (by omega)
  case rest =>
    obtain ⟨g, cap, hR⟩ := hcut
    have e1 := hR.c1
    go_wp2_with fail
    clear e1
    go_loopw [4] (fun i4 wr => ∃ (j : Nat) (M : List Hit), i4 = .int .i64 j ∧ j < L.length + 1 ∧ Up M j ∧ M.Perm (L ++ [(i, s)]) ∧ Row w wr B b k (.slice A L.length c) (L.length + 1) g cap M) (fun i4 _ => (intOf i4).toNat)
    case atStart => exact ⟨L.length, _, rfl, by omega, Up.start hK.hp _, .refl _, hR⟩
    case round =>
      obtain ⟨j, M, rfl, hj, hup, hperm, hr⟩ := hrel
      have hlen := hr.len
      have e1 := hr.c1
      have e2 := hr.c2
      rcases j with _ | q
      · go_wp2_with fail
        go_end0
        exact ⟨rfl, hr.fin hK.base hup.zero hperm⟩
      · obtain ⟨⟨x1, x2⟩, hx⟩ : ∃ x, M[q + 1]? = some x := ⟨_, List.getElem?_eq_getElem (by omega)⟩
        obtain ⟨⟨y1, y2⟩, hy⟩ : ∃ y, M[q / 2]? = some y := ⟨_, List.getElem?_eq_getElem (by omega)⟩
        have x0 : wr.cell? ⟨g, (q + 1) * 2, none⟩ = some (.int .i64 x1) := hr.h0 hx
        have x1' : wr.cell? ⟨g, (q + 1) * 2 + 1, none⟩ = some (.int .u64 x2) := hr.h1 hx
        have y0 : wr.cell? ⟨g, q / 2 * 2, none⟩ = some (.int .i64 y1) := hr.h0 hy
        have y1' : wr.cell? ⟨g, q / 2 * 2 + 1, none⟩ = some (.int .u64 y2) := hr.h1 hy
        have HX := Lib.hid hx
        have HY := Lib.hid hy
        clear hx hy
        have b1 : q / 2 < L.length + 1 := by omega
        have i1 : (0 : Int) ≤ (q : Int) + 1 := by omega
        have i2 : (q : Int) + 1 < ((L.length + 1 : Nat) : Int) := by omega
        have i3 : (q : Int) < (L.length : Int) := by omega
        have i4 : ((q : Int) + 1).toNat = q + 1 := by omega
        have i5 : (0 : Int) ≤ (q : Int) / 2 := by omega
        have i6 : (q : Int) / 2 < ((L.length + 1 : Nat) : Int) := by omega
        have i7 : (q : Int) / 2 < (L.length : Int) + 1 := by omega
        have i8 : ((q : Int) / 2).toNat = q / 2 := by omega
        cases hb : btr (y1, y2) (x1, x2)
        · have HB := Lib.hid hb
          go_wp2_with fail
          go_still_tail 18, (by kernel_rfl)
          go_wp2_with (go_at_call 28; refine (less_any _ _ _ _ _).mono ?_; rw [HB.out]; rintro e w5 ⟨rfl, hb5⟩)
          have hr5 := hr.drew.below hb5
          exact bodyPost_ret (v := .tuple #[]) (by simp [results, Try.results33, go_sem]) rfl ⟨rfl, hr5.fin hK.base (hup.stop HX.out HY.out HB.out) hperm⟩
        · have HB := Lib.hid hb
          go_wp2_with fail
          go_still_tail 18, (by kernel_rfl)
          go_wp2_with (go_at_call 28; refine (less_any _ _ _ _ _).mono ?_; rw [HB.out]; rintro e w5 ⟨rfl, hb5⟩)
          have hr5 := hr.drew.below hb5
          clear e1 e2 x0 x1' y0 y1'
          have e1 := hr5.c1
          have x0 : w5.cell? ⟨g, (q + 1) * 2, none⟩ = some (.int .i64 x1) := hr5.h0 HX.out
          have x1' : w5.cell? ⟨g, (q + 1) * 2 + 1, none⟩ = some (.int .u64 x2) := hr5.h1 HX.out
          have y0 : w5.cell? ⟨g, q / 2 * 2, none⟩ = some (.int .i64 y1) := hr5.h0 HY.out
          have y1' : w5.cell? ⟨g, q / 2 * 2 + 1, none⟩ = some (.int .u64 y2) := hr5.h1 HY.out
          have f0 := hr5.z ((q + 1) * 2)
          have f1 := hr5.z ((q + 1) * 2 + 1)
          have f2 := hr5.z (q / 2 * 2)
          have f3 := hr5.z (q / 2 * 2 + 1)
          go_wp2_with fail
          have n1 : ¬ (q + 1) * 2 = q / 2 * 2 := by omega
          have n2 : ¬ (q + 1) * 2 + 1 = q / 2 * 2 := by omega
          have n3 : ¬ (q + 1) * 2 = q / 2 * 2 + 1 := by omega
          have n4 : ¬ (q + 1) * 2 + 1 = q / 2 * 2 + 1 := by omega
          go_region
          go_wp2_with fail
          go_roundw
          case rel =>
            refine ⟨q / 2, swp M (q + 1) (q / 2) (x1, x2) (y1, y2), by go_num, by omega, hup.step (by omega) HX.out HY.out HB.out, (swp_perm HX.out HY.out).trans hperm, ?_⟩
            exact (hr5.drew.set_ (q + 1) (y1, y2)).set_ (q / 2) (x1, x2)
          case measure => simp [intOf]; omega
end Go.Proofs.Ytmddnilephneiaa.PushWalk
