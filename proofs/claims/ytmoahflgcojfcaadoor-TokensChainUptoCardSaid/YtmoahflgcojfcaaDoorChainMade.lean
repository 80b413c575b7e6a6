/-
  The walk of tokens.chain: the steps of a field, in new memory.
-/
import Derived.Test.YtmoahflgcojfcaaDoorChainWalk
import Derived.Deep.DeepCutAuto
namespace Go.Proofs.YtmoahflgcojfcaaDoor.ChainMade
set_option maxRecDepth 100000
open Go.RowKit Go.PlainAid WordPlain StemPlain FoldPlain FoldWalk StemWalk8 Base WordBytes WordsWalk StopsPlain StopsWalk ChainPlain PluralPlain ChainWalk

theorem stopRow_of {w1 : World} {B g : Nat} (h : w1.ownsRow B 9 1 (.slice (some ⟨g, 0, none⟩) stopWords.length stopWords.length) stopWords.length (stopWords.map encStr)) : StopRow w1 g :=
  ⟨h.1, h.2.imp id fun ⟨g', cap, cur, h1, h2, h3⟩ => by
    simp only [Value.slice.injEq, Option.some.injEq, Addr.mk.injEq, and_true] at h1
    obtain ⟨rfl, h4, h5⟩ := h1
    exact ⟨g, cap, cur, by simp [h4, h5], Nat.le_refl _, h3⟩⟩
theorem row_ne {w : World} {B n s g : Nat} {e : TypeId} {v : Value} {xs : List Value} (h : w.ownsRow B e s v n xs) (h2 : StopRow w g) (he : e ≠ 9) : v.ownBlock ≠ some g := by
  intro hv
  rcases h.2 with ⟨rfl, _⟩ | ⟨g1, c1, cur1, rfl, _, q1, _⟩
  · simp [Value.ownBlock] at hv
  · simp [Value.ownBlock] at hv
    subst hv
    rcases h2.2 with ⟨h3, _⟩ | ⟨g2, c2, cur2, h3, _, q2, _⟩
    · simp at h3
    · simp only [Value.slice.injEq, Option.some.injEq, Addr.mk.injEq, and_true] at h3
      obtain ⟨rfl, _⟩ := h3
      rw [q1] at q2
      simp only [Option.some.injEq, Obj.cells.injEq] at q2
      exact he q2.2.1
theorem stopRow_kept {w w' : World} {g : Nat} (h : StopRow w g) {v : Value} (hg : w.grownBy w' v.ownBlock) (hne : v.ownBlock ≠ some g) : StopRow w' g :=
  World.ownsRow.kept h hg (.inr fun e => hne e.symm)

/-- What a piece of the making leaves. -/
def Part (a b c : Bool) (fs : Array Value) (w : World) (v : Value) (wx : World) : Prop :=
  ∃ g, wx.ownsRow (w.heap.size + 1) 81 1 v (chn a b c).length ((chn a b c).map (stepV g)) ∧ (b = true → StopRow wx g) ∧ Below w.heap.size w wx ∧ w.heap.size + 1 ≤ wx.heap.size ∧ Blk wx w.heap.size 26 fs

theorem part_made {a b c : Bool} {fs : Array Value} {w w' : World} {A : Option Addr} {n cap : Nat} (h : Part a b c fs w (.slice A n cap) w') (hn : n = (chn a b c).length) : ChainMade a b c w (.returned (.slice A n cap)) w' := by
  subst hn
  obtain ⟨g, h1, h2, h3, _, _⟩ := h
  exact ⟨A, cap, g, rfl, ⟨h1.1, h1.2.imp id fun ⟨g', cap', cur, q1, q2, q3⟩ => ⟨g', cap', cur, q1, by omega, q3⟩⟩, h2, h3⟩

theorem part_len {a b c : Bool} {fs : Array Value} {w w' : World} {v : Value} (h : Part a b c fs w v w') :
    ∃ A n cap g, v = .slice A n cap ∧ n ≤ 3 ∧ Hid (n = (chn a b c).length) ∧ w'.ownsRow (w.heap.size + 1) 81 1 (.slice A n cap) n ((chn a b c).map (stepV g)) ∧
      (b = true → StopRow w' g) ∧ Below w.heap.size w w' ∧ w.heap.size + 1 ≤ w'.heap.size ∧ Blk w' w.heap.size 26 fs := by
  obtain ⟨g, h1, h2⟩ := h
  obtain ⟨A, cap, rfl⟩ := own_slice h1
  exact ⟨A, _, cap, g, rfl, chn_len _ _ _, Lib.hid rfl, h1, h2⟩
theorem part_mk {a b c : Bool} {fs : Array Value} {w w' : World} {A : Option Addr} {n cap g : Nat} (hn : Hid (n = (chn a b c).length)) (h1 : w'.ownsRow (w.heap.size + 1) 81 1 (.slice A n cap) n ((chn a b c).map (stepV g)))
    (h : (b = true → StopRow w' g) ∧ Below w.heap.size w w' ∧ w.heap.size + 1 ≤ w'.heap.size ∧ Blk w' w.heap.size 26 fs) : Part a b c fs w (.slice A n cap) w' := by
  have := hn.out
  subst this
  exact ⟨g, h1, h⟩

theorem bt_of {w wx : World} (h : Below w.heap.size w wx) (o : Obj) : Below w.heap.size w (wx.alloc o) := h.alloc h.size o

/-- The part grows by a step. -/
theorem part_grow {a b c a' b' c' : Bool} {fs : Array Value} {w wx w1 : World} {v v1 : Value} {n m g : Nat} {s : Step}
    (hown : w1.ownsRow (w.heap.size + 1) 81 1 v1 m ((chn a b c).map (stepV g) ++ [stepV g s])) (hm : m = (chn a' b' c').length) (he : (chn a b c) ++ [s] = chn a' b' c')
    (hg : wx.grownBy w1 v.ownBlock) (hv : wx.ownsRow (w.heap.size + 1) 81 1 v n ((chn a b c).map (stepV g))) (hst : b' = true → StopRow wx g) (hb : Below w.heap.size w wx) (hz : w.heap.size + 1 ≤ wx.heap.size) (hk : Blk wx w.heap.size 26 fs) :
    Part a' b' c' fs w v1 w1 := by
  subst hm
  refine ⟨g, ?_, fun h => stopRow_kept (hst h) hg (row_ne hv (hst h) (by decide)), ?_, Nat.le_trans hz hg.size, hk.grown hg ?_⟩
  · rw [← he, List.map_append]; rw [← he] at hown; exact hown
  · exact hb.grown hg (by omega) (fun k hk => by have := (hv.lt k hk).1; omega)
  · intro h
    have := (hv.lt _ h.symm).1
    omega

set_option maxHeartbeats 4000000 in
theorem chain_any (nm : ByteArray) (kd : Int) (a b c : Bool) (w : World) (ht : Tab w) (h0 : 0 < w.heap.size) :
    Calls Tryd.prog 27 #[.agg #[.string nm, .int .i64 kd, .bool a, .bool b, .bool c]] w (ChainMade a b c w) := by
  go_enter Tryd.func27, Tryd.ntmps27
  go_upto_region 1 with fail
  go_cut [3] (fun v wx => Part false false false #[.string nm, .int .i64 kd, .bool a, .bool b, .bool c] w v wx)
  case first =>
    go_wp2_with fail
    go_meet
    case rel => exact ⟨0, World.ownsRow_nil _ _ _ _, (fun h => by cases h), by (repeat (first | exact Below.refl _ _ | assumption | refine balloc ?_ _ | refine bdrew ?_ | refine bdrewN ?_ _ | refine bchain ?_ (by assumption))), by simp only [World.size_alloc]; omega, Blk.new _ _ _⟩
  case rest =>
    obtain ⟨A, n, cap, g0, rfl, hn3, HN, own0, hst0, hb0, hz0, hk0⟩ := part_len hcut
    clear hcut
    have q0 := hk0.cell 2
    simp only [List.getElem?_toArray, List.getElem?_cons_zero, List.getElem?_cons_succ] at q0
    go_upto_if 5 with fail
    go_cut [3] (fun v wx => Part a false false #[.string nm, .int .i64 kd, .bool a, .bool b, .bool c] w v wx)
    case first =>
      cases a
      · go_wp2_with fail
        go_meet
        case rel => exact part_mk HN own0 ⟨hst0, hb0, hz0, hk0⟩
      · go_wp2_with (at_builtin; refine wpList_append1 (base := w.heap.size + 1) rfl _ _ rfl stepElem own0 rfl rfl rfl rfl (by omega) (by unfold maxLen; omega) hz0 ?_)
        intro v1 w1 own1 g1 b1
        clear b1
        go_wp2_with fail
        go_meet
        case rel => exact part_grow (s := .fold) own1 (by rw [HN.out]; rfl) (rfl) g1 own0 hst0 hb0 hz0 hk0
    case rest =>
      obtain ⟨A, n, cap, g0, rfl, hn3, HN, own0, hst0, hb0, hz0, hk0⟩ := part_len hcut
      clear hcut
      have q0 := hk0.cell 3
      simp only [List.getElem?_toArray, List.getElem?_cons_zero, List.getElem?_cons_succ] at q0
      go_upto_if 12 with fail
      go_cut [3] (fun v wx => Part a b false #[.string nm, .int .i64 kd, .bool a, .bool b, .bool c] w v wx)
      case first =>
        cases b
        · go_wp2_with fail
          go_meet
          case rel => exact part_mk HN own0 ⟨(fun h => by cases h), hb0, hz0, hk0⟩
        · have F := Lib.hid (stops_any wc (tab_below ht hb0 h0))
          obtain ⟨nw, hnw⟩ : ∃ n, n = stopWords.length := ⟨_, rfl⟩
          have HW := Lib.hid hnw
          clear hnw
          go_wp2_with fail
          go_at_call 9
          refine F.out.mono ?_
          rintro e w2 ⟨g, rfl, hrow, hb2⟩
          have hst2 : true = true → StopRow w2 g := fun _ => stopRow_of hrow
          clear hrow
          rw [← HW.out]
          have own2 := own_below own0 hb2
          have own2' : w2.ownsRow (w.heap.size + 1) 81 1 (.slice A n cap) n ((chn a false false).map (stepV g)) := by cases a <;> exact own2
          have hb2' : Below w.heap.size w w2 := hb0.trans (hb2.mono (by omega))
          have hz2 : w.heap.size + 1 ≤ w2.heap.size := Nat.le_trans hz0 hb2.size
          have hk2 := hk0.below hb2 (by omega)
          clear own2 own0
          go_wp2_with (at_builtin; refine wpList_append1 (base := w.heap.size + 1) rfl _ _ rfl stepElem own2' rfl rfl rfl rfl (by omega) (by unfold maxLen; omega) hz2 ?_)
          intro v1 w1 own1 g1 b1
          clear b1
          go_wp2_with fail
          rw [HW.out] at own1
          go_meet
          case rel => exact part_grow (s := .stop) own1 (by rw [HN.out]; cases a <;> rfl) (by cases a <;> rfl) g1 own2' (fun _ => hst2 trivial) hb2' hz2 hk2
      case rest =>
        obtain ⟨A, n, cap, g0, rfl, hn3, HN, own0, hst0, hb0, hz0, hk0⟩ := part_len hcut
        clear hcut
        have q0 := hk0.cell 4
        simp only [List.getElem?_toArray, List.getElem?_cons_zero, List.getElem?_cons_succ] at q0
        go_upto_if 20 with fail
        go_cut [3] (fun v wx => Part a b c #[.string nm, .int .i64 kd, .bool a, .bool b, .bool c] w v wx)
        case first =>
          cases c
          · go_wp2_with fail
            go_meet
            case rel => exact part_mk HN own0 ⟨hst0, hb0, hz0, hk0⟩
          · go_wp2_with (at_builtin; refine wpList_append1 (base := w.heap.size + 1) rfl _ _ rfl stepElem own0 rfl rfl rfl rfl (by omega) (by unfold maxLen; omega) hz0 ?_)
            intro v1 w1 own1 g1 b1
            clear b1
            go_wp2_with fail
            go_meet
            case rel => exact part_grow (s := .stem) own1 (by rw [HN.out]; cases a <;> cases b <;> rfl) (by cases a <;> cases b <;> rfl) g1 own0 hst0 hb0 hz0 hk0
        case rest =>
          obtain ⟨A, n, cap, g0, rfl, hn3, HN, own0, hst0, hb0, hz0, hk0⟩ := part_len hcut
          go_wp2_with fail
          go_ret
          exact part_made hcut HN.out
end Go.Proofs.YtmoahflgcojfcaaDoor.ChainMade
