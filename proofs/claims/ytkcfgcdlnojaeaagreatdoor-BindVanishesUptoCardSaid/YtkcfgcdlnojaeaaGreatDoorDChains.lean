/-
  Plain facts on chains: what is left of a word behind the steps of a field; the tokens of a text.
  The walks of a chain's steps, tokens.chain and tokens.through.
  The walk of tokens.chain: the steps of a field, in new memory.
  The walk of tokens.through.
  The walk of tokens.Of over a text field.
  The walk of tokens.Of over any field.
-/
import Derived.Test.YtkcfgcdlnojaeaaGreatDoorDStops
import Derived.Test.YtkcfgcdlnojaeaaGreatDoorDPlains
import Derived.Test.YtkcfgcdlnojaeaaGreatDoorPluralPlain
import Derived.Test.YtkcfgcdlnojaeaaGreatDoorFoldWalk
import Derived.Test.YtkcfgcdlnojaeaaGreatDoorDStems
import Derived.Test.YtkcfgcdlnojaeaaGreatDoorDWords
import Derived.Deep.DeepCutAuto
import Derived.Test.YtkcfgcdlnojaeaaGreatDoorDNums
set_option linter.unusedVariables false
set_option linter.unusedSimpArgs false
namespace Go.Proofs.YtkcfgcdlnojaeaaGreatDoor.ChainPlain
set_option maxRecDepth 100000
open Go.PlainAid WordPlain StemPlain FoldPlain PluralPlain StopsPlain StopsWalk

inductive Step where
  | fold | stop | stem

def doS : Step → ByteArray → ByteArray × Bool
  | .fold, x => (foldS x, true)
  | .stop, x => (x, !isStopB x)
  | .stem, x => (stem x, true)

def thru : List Step → ByteArray → ByteArray × Bool
  | [], x => (x, decide (x.size ≤ 64))
  | s :: r, x => if (doS s x).2 then thru r (doS s x).1 else (ByteArray.empty, false)

def chn (a b c : Bool) : List Step := (if a then [.fold] else []) ++ ((if b then [.stop] else []) ++ (if c then [.stem] else []))

theorem chn_len (a b c : Bool) : (chn a b c).length ≤ 3 := by cases a <;> cases b <;> cases c <;> decide

theorem doS_size (s : Step) (x : ByteArray) : (doS s x).1.size ≤ x.size := by
  cases s
  · exact Nat.le_of_eq (foldS_size x)
  · exact Nat.le_refl _
  · exact stem_le x

theorem thru_nil (x : ByteArray) : thru [] x = (x, decide (x.size ≤ 64)) := rfl
theorem thru_yes {s : Step} {r : List Step} {x : ByteArray} (h : (doS s x).2 = true) : thru (s :: r) x = thru r (doS s x).1 := by
  rw [thru, if_pos h]
theorem thru_no {s : Step} {r : List Step} {x : ByteArray} (h : (doS s x).2 = false) : thru (s :: r) x = (ByteArray.empty, false) := by
  rw [thru, if_neg (by rw [h]; simp)]

def withT (t : Tok) (x : ByteArray) : Tok := ⟨x, t.value, t.pos, t.start, t.stop⟩
def passT (c : List Step) (t : Tok) : Option Tok := if (thru c t.text).2 then some (withT t (thru c t.text).1) else none
def passed (c : List Step) (ts : List Tok) : List Tok := ts.filterMap (passT c)

theorem passed_zero (c : List Step) (ts : List Tok) : passed c (ts.take 0) = [] := rfl
theorem take_succ_ {α : Type _} {ts : List α} {k : Nat} {t : α} (h : ts[k]? = some t) : ts.take (k + 1) = ts.take k ++ [t] := by
  obtain ⟨hk, e⟩ := List.getElem?_eq_some_iff.1 h
  rw [List.take_succ_eq_append_getElem hk, e]
theorem passed_yes {c : List Step} {ts : List Tok} {k : Nat} {t : Tok} (h : ts[k]? = some t) (hb : (thru c t.text).2 = true) :
    passed c (ts.take (k + 1)) = passed c (ts.take k) ++ [withT t (thru c t.text).1] := by
  unfold passed
  rw [take_succ_ h, List.filterMap_append]
  congr 1
  simp [passT, hb]
theorem passed_no {c : List Step} {ts : List Tok} {k : Nat} {t : Tok} (h : ts[k]? = some t) (hb : (thru c t.text).2 = false) :
    passed c (ts.take (k + 1)) = passed c (ts.take k) := by
  unfold passed
  rw [take_succ_ h, List.filterMap_append]
  simp [passT, hb]
theorem passed_len (c : List Step) (ts : List Tok) : (passed c ts).length ≤ ts.length := List.length_filterMap_le _ _

theorem wst_text (s : ByteArray) : ∀ k, ∀ t ∈ (wst s k).1, t.text.size ≤ s.size := by
  intro k
  induction k with
  | zero => intro t h; simp [wst] at h
  | succ k ih =>
    intro t h
    cases hi : inW s k <;> cases h2 : (wst s k).2
    · rw [wst_out_none hi h2] at h; exact ih t h
    · rw [wst_out_some hi h2] at h
      rcases List.mem_append.1 h with h | h
      · exact ih t h
      · obtain rfl := List.mem_singleton.1 h
        rw [ByteArray.size_extract]; omega
    · rw [wst_in_none hi h2] at h; exact ih t h
    · rw [wst_in_some hi h2] at h; exact ih t h
theorem words_text (s : ByteArray) {k : Nat} {t : Tok} (h : (words s)[k]? = some t) : t.text.size ≤ s.size := wst_text s _ t (List.mem_of_getElem? h)

def textT (a b c : Bool) (s : ByteArray) : List Tok := passed (chn a b c) (words s)
theorem textT_len (a b c : Bool) (s : ByteArray) : (textT a b c s).length ≤ s.size + 1 := Nat.le_trans (passed_len _ _) (words_len s)

def stepV (g : Nat) : Step → Value
  | .fold => .iface 164 (.agg #[])
  | .stop => .iface 167 (.agg #[.slice (some ⟨g, 0, none⟩) stopWords.length stopWords.length])
  | .stem => .iface 168 (.agg #[])
def StopRow (w : World) (g : Nat) : Prop := w.ownsRow g 9 1 (.slice (some ⟨g, 0, none⟩) stopWords.length stopWords.length) stopWords.length (stopWords.map encStr)
end Go.Proofs.YtkcfgcdlnojaeaaGreatDoor.ChainPlain

namespace Go.Proofs.YtkcfgcdlnojaeaaGreatDoor.ChainWalk
set_option maxRecDepth 100000
open Go.RowKit Go.PlainAid WordPlain StemPlain FoldPlain FoldWalk StemWalk8 Base WordBytes WordsWalk StopsPlain StopsWalk ChainPlain PluralPlain

theorem stepElem : Elem Tryz.prog 128 172 .nilIface 1 16 := .mk_ (by kernel_rfl) (by kernel_rfl) rfl (by decide)

set_option maxHeartbeats 2000000 in
theorem foldDo_any (x : ByteArray) (w : World) (hs : x.size ≤ maxLen) :
    Calls Tryz.prog 224 #[.agg #[], .string x] w fun e w' => e = .returned (.tuple #[.string (foldS x), .bool true]) ∧ Below w.heap.size w w' := by
  go_enter Tryz.func224, Tryz.ntmps224
  go_wp2_with (go_at_call 37; refine (fold_any x _ hs).mono ?_; rintro e w' ⟨rfl, hb⟩)
  go_ret2
  exact ⟨rfl, by exact Base.bel⟩

set_option maxHeartbeats 2000000 in
theorem stemDo_any (x : ByteArray) (w : World) (hs : x.size ≤ 140737488355327) :
    Calls Tryz.prog 228 #[.agg #[], .string x] w fun e w' => e = .returned (.tuple #[.string (stem x), .bool true]) ∧ Below w.heap.size w w' := by
  go_enter Tryz.func228, Tryz.ntmps228
  go_wp2_with (go_at_call 229; refine (stem_any x _ hs).mono ?_; rintro e w' ⟨rfl, hb⟩)
  go_ret2
  exact ⟨rfl, by exact Base.bel⟩

set_option maxHeartbeats 2000000 in
theorem stopDo_any (x : ByteArray) (w : World) (g : Nat) (h : StopRow w g) :
    Calls Tryz.prog 225 #[.agg #[.slice (some ⟨g, 0, none⟩) stopWords.length stopWords.length], .string x] w fun e w' => e = .returned (.tuple #[.string x, .bool (!isStopB x)]) ∧ Below w.heap.size w w' := by
  obtain ⟨n, hn⟩ : ∃ n, n = stopWords.length := ⟨_, rfl⟩
  have H := fun W (hb : Below w.heap.size w W) => contains_stop x (own_below h hb)
  rw [← hn] at H ⊢
  have HH := Lib.hid H
  clear H h hn
  go_enter Tryz.func225, Tryz.ntmps225
  go_wp2_with fail
  go_at_call 226
  refine (HH.out _ (by exact Base.bel)).mono ?_
  rintro e w' ⟨rfl, rfl⟩
  go_wp2_with fail
  go_ret2
  exact ⟨rfl, by exact Base.bel⟩

def ChainMade (a b c : Bool) (w : World) (e : Ending) (w' : World) : Prop :=
  ∃ A cap g, e = .returned (.slice A (chn a b c).length cap) ∧ w'.ownsRow w.heap.size 172 1 (.slice A (chn a b c).length cap) (chn a b c).length ((chn a b c).map (stepV g)) ∧
    (b = true → StopRow w' g) ∧ Below w.heap.size w w'
end Go.Proofs.YtkcfgcdlnojaeaaGreatDoor.ChainWalk

namespace Go.Proofs.YtkcfgcdlnojaeaaGreatDoor.ChainMade
set_option maxRecDepth 100000
open Go.RowKit Go.PlainAid WordPlain StemPlain FoldPlain FoldWalk StemWalk8 Base WordBytes WordsWalk StopsPlain StopsWalk ChainPlain PluralPlain ChainWalk

theorem stopRow_of {w1 : World} {B g : Nat} (h : w1.ownsRow B 9 1 (.slice (some ⟨g, 0, none⟩) stopWords.length stopWords.length) stopWords.length (stopWords.map encStr)) : StopRow w1 g :=
  ⟨h.1, h.2.imp id fun ⟨g', cap, cur, h1, h2, h3⟩ => by
    simp only [Value.slice.injEq, Option.some.injEq, Addr.mk.injEq, and_true] at h1
    obtain ⟨rfl, h4, h5⟩ := h1
    exact ⟨g, cap, cur, by simp [h4, h5], Nat.le_refl _, h3⟩⟩
theorem row_ne {w : World} {B n s g : Nat} {e : TypeId} {v : Value} {xs : List Value} (h : w.ownsRow B e s v n xs) (h2 : StopRow w g) (he : e ≠ 9) : v.ownBlock ≠ some g := by
  intro hv
  rcases h.2 with ⟨rfl, _⟩ | ⟨g1, c1, cur1, rfl, _, q1, _⟩
  · simp [Value.ownBlock] at hv
  · simp [Value.ownBlock] at hv
    subst hv
    rcases h2.2 with ⟨h3, _⟩ | ⟨g2, c2, cur2, h3, _, q2, _⟩
    · simp at h3
    · simp only [Value.slice.injEq, Option.some.injEq, Addr.mk.injEq, and_true] at h3
      obtain ⟨rfl, _⟩ := h3
      rw [q1] at q2
      simp only [Option.some.injEq, Obj.cells.injEq] at q2
      exact he q2.2.1
theorem stopRow_kept {w w' : World} {g : Nat} (h : StopRow w g) {v : Value} (hg : w.grownBy w' v.ownBlock) (hne : v.ownBlock ≠ some g) : StopRow w' g :=
  World.ownsRow.kept h hg (.inr fun e => hne e.symm)

def Part (a b c : Bool) (fs : Array Value) (w : World) (v : Value) (wx : World) : Prop :=
  ∃ g, wx.ownsRow (w.heap.size + 1) 172 1 v (chn a b c).length ((chn a b c).map (stepV g)) ∧ (b = true → StopRow wx g) ∧ Below w.heap.size w wx ∧ w.heap.size + 1 ≤ wx.heap.size ∧ Blk wx w.heap.size 67 fs

theorem part_made {a b c : Bool} {fs : Array Value} {w w' : World} {A : Option Addr} {n cap : Nat} (h : Part a b c fs w (.slice A n cap) w') (hn : n = (chn a b c).length) : ChainMade a b c w (.returned (.slice A n cap)) w' := by
  subst hn
  obtain ⟨g, h1, h2, h3, _, _⟩ := h
  exact ⟨A, cap, g, rfl, ⟨h1.1, h1.2.imp id fun ⟨g', cap', cur, q1, q2, q3⟩ => ⟨g', cap', cur, q1, by omega, q3⟩⟩, h2, h3⟩

theorem part_len {a b c : Bool} {fs : Array Value} {w w' : World} {v : Value} (h : Part a b c fs w v w') :
    ∃ A n cap g, v = .slice A n cap ∧ n ≤ 3 ∧ Hid (n = (chn a b c).length) ∧ w'.ownsRow (w.heap.size + 1) 172 1 (.slice A n cap) n ((chn a b c).map (stepV g)) ∧
      (b = true → StopRow w' g) ∧ Below w.heap.size w w' ∧ w.heap.size + 1 ≤ w'.heap.size ∧ Blk w' w.heap.size 67 fs := by
  obtain ⟨g, h1, h2⟩ := h
  obtain ⟨A, cap, rfl⟩ := own_slice h1
  exact ⟨A, _, cap, g, rfl, chn_len _ _ _, Lib.hid rfl, h1, h2⟩
theorem part_mk {a b c : Bool} {fs : Array Value} {w w' : World} {A : Option Addr} {n cap g : Nat} (hn : Hid (n = (chn a b c).length)) (h1 : w'.ownsRow (w.heap.size + 1) 172 1 (.slice A n cap) n ((chn a b c).map (stepV g)))
    (h : (b = true → StopRow w' g) ∧ Below w.heap.size w w' ∧ w.heap.size + 1 ≤ w'.heap.size ∧ Blk w' w.heap.size 67 fs) : Part a b c fs w (.slice A n cap) w' := by
  have := hn.out
  subst this
  exact ⟨g, h1, h⟩

theorem bt_of {w wx : World} (h : Below w.heap.size w wx) (o : Obj) : Below w.heap.size w (wx.alloc o) := h.alloc h.size o

theorem part_grow {a b c a' b' c' : Bool} {fs : Array Value} {w wx w1 : World} {v v1 : Value} {n m g : Nat} {s : Step}
    (hown : w1.ownsRow (w.heap.size + 1) 172 1 v1 m ((chn a b c).map (stepV g) ++ [stepV g s])) (hm : m = (chn a' b' c').length) (he : (chn a b c) ++ [s] = chn a' b' c')
    (hg : wx.grownBy w1 v.ownBlock) (hv : wx.ownsRow (w.heap.size + 1) 172 1 v n ((chn a b c).map (stepV g))) (hst : b' = true → StopRow wx g) (hb : Below w.heap.size w wx) (hz : w.heap.size + 1 ≤ wx.heap.size) (hk : Blk wx w.heap.size 67 fs) :
    Part a' b' c' fs w v1 w1 := by
  subst hm
  refine ⟨g, ?_, fun h => stopRow_kept (hst h) hg (row_ne hv (hst h) (by decide)), ?_, Nat.le_trans hz hg.size, hk.grown hg ?_⟩
  · rw [← he, List.map_append]; rw [← he] at hown; exact hown
  · exact hb.grown hg (by omega) (fun k hk => by have := (hv.lt k hk).1; omega)
  · intro h
    have := (hv.lt _ h.symm).1
    omega

set_option maxHeartbeats 4000000 in
theorem chain_any (nm : ByteArray) (kd : Int) (a b c : Bool) (w : World) (ht : Tab w) (h0 : 3 < w.heap.size) :
    Calls Tryz.prog 74 #[.agg #[.string nm, .int .i64 kd, .bool a, .bool b, .bool c]] w (ChainMade a b c w) := by
  go_enter Tryz.func74, Tryz.ntmps74
  go_upto_region 1 with fail
  go_cut [3] (fun v wx => Part false false false #[.string nm, .int .i64 kd, .bool a, .bool b, .bool c] w v wx)
  case first =>
    go_wp2_with fail
    go_meet
    case rel => exact ⟨0, World.ownsRow_nil _ _ _ _, (fun h => by cases h), by exact Base.bel, by simp only [World.size_alloc]; omega, Blk.new _ _ _⟩
  case rest =>
    obtain ⟨A, n, cap, g0, rfl, hn3, HN, own0, hst0, hb0, hz0, hk0⟩ := part_len hcut
    clear hcut
    have q0 := hk0.cell 2
    simp only [List.getElem?_toArray, List.getElem?_cons_zero, List.getElem?_cons_succ] at q0
    go_upto_if 5 with fail
    go_cut [3] (fun v wx => Part a false false #[.string nm, .int .i64 kd, .bool a, .bool b, .bool c] w v wx)
    case first =>
      cases a
      · go_wp2_with fail
        go_meet
        case rel => exact part_mk HN own0 ⟨hst0, hb0, hz0, hk0⟩
      · go_wp2_with (at_builtin; refine wpList_append1 (base := w.heap.size + 1) rfl _ _ rfl stepElem own0 rfl rfl rfl rfl (by omega) (by unfold maxLen; omega) hz0 ?_)
        intro v1 w1 own1 g1 b1
        clear b1
        go_wp2_with fail
        go_meet
        case rel => exact part_grow (s := .fold) own1 (by rw [HN.out]; rfl) (rfl) g1 own0 hst0 hb0 hz0 hk0
    case rest =>
      obtain ⟨A, n, cap, g0, rfl, hn3, HN, own0, hst0, hb0, hz0, hk0⟩ := part_len hcut
      clear hcut
      have q0 := hk0.cell 3
      simp only [List.getElem?_toArray, List.getElem?_cons_zero, List.getElem?_cons_succ] at q0
      go_upto_if 12 with fail
      go_cut [3] (fun v wx => Part a b false #[.string nm, .int .i64 kd, .bool a, .bool b, .bool c] w v wx)
      case first =>
        cases b
        · go_wp2_with fail
          go_meet
          case rel => exact part_mk HN own0 ⟨(fun h => by cases h), hb0, hz0, hk0⟩
        · have F := Lib.hid (stops_any wc (tab_below ht hb0 h0))
          obtain ⟨nw, hnw⟩ : ∃ n, n = stopWords.length := ⟨_, rfl⟩
          have HW := Lib.hid hnw
          clear hnw
          go_wp2_with fail
          go_at_call 116
          refine F.out.mono ?_
          rintro e w2 ⟨g, rfl, hrow, hb2⟩
          have hst2 : true = true → StopRow w2 g := fun _ => stopRow_of hrow
          clear hrow
          rw [← HW.out]
          have own2 := own_below own0 hb2
          have own2' : w2.ownsRow (w.heap.size + 1) 172 1 (.slice A n cap) n ((chn a false false).map (stepV g)) := by cases a <;> exact own2
          have hb2' : Below w.heap.size w w2 := hb0.trans (hb2.mono (by omega))
          have hz2 : w.heap.size + 1 ≤ w2.heap.size := Nat.le_trans hz0 hb2.size
          have hk2 := hk0.below hb2 (by omega)
          clear own2 own0
          go_wp2_with (at_builtin; refine wpList_append1 (base := w.heap.size + 1) rfl _ _ rfl stepElem own2' rfl rfl rfl rfl (by omega) (by unfold maxLen; omega) hz2 ?_)
          intro v1 w1 own1 g1 b1
          clear b1
          go_wp2_with fail
          rw [HW.out] at own1
          go_meet
          case rel => exact part_grow (s := .stop) own1 (by rw [HN.out]; cases a <;> rfl) (by cases a <;> rfl) g1 own2' (fun _ => hst2 trivial) hb2' hz2 hk2
      case rest =>
        obtain ⟨A, n, cap, g0, rfl, hn3, HN, own0, hst0, hb0, hz0, hk0⟩ := part_len hcut
        clear hcut
        have q0 := hk0.cell 4
        simp only [List.getElem?_toArray, List.getElem?_cons_zero, List.getElem?_cons_succ] at q0
        go_upto_if 20 with fail
        go_cut [3] (fun v wx => Part a b c #[.string nm, .int .i64 kd, .bool a, .bool b, .bool c] w v wx)
        case first =>
          cases c
          · go_wp2_with fail
            go_meet
            case rel => exact part_mk HN own0 ⟨hst0, hb0, hz0, hk0⟩
          · go_wp2_with (at_builtin; refine wpList_append1 (base := w.heap.size + 1) rfl _ _ rfl stepElem own0 rfl rfl rfl rfl (by omega) (by unfold maxLen; omega) hz0 ?_)
            intro v1 w1 own1 g1 b1
            clear b1
            go_wp2_with fail
            go_meet
            case rel => exact part_grow (s := .stem) own1 (by rw [HN.out]; cases a <;> cases b <;> rfl) (by cases a <;> cases b <;> rfl) g1 own0 hst0 hb0 hz0 hk0
        case rest =>
          obtain ⟨A, n, cap, g0, rfl, hn3, HN, own0, hst0, hb0, hz0, hk0⟩ := part_len hcut
          go_wp2_with fail
          go_ret
          exact part_made hcut HN.out
end Go.Proofs.YtkcfgcdlnojaeaaGreatDoor.ChainMade

namespace Go.Proofs.YtkcfgcdlnojaeaaGreatDoor.Through
set_option maxRecDepth 100000
open Go.RowKit Go.PlainAid WordPlain StemPlain FoldPlain FoldWalk StemWalk8 Base WordBytes WordsWalk StopsPlain StopsWalk ChainPlain PluralPlain ChainWalk ChainMade

set_option maxHeartbeats 2000000 in
theorem through_any (a b c : Bool) (A : Option Addr) (cap g : Nat) (B : Nat) (x : ByteArray) (w : World) (hs : x.size ≤ 1099511627776) (hB : B ≤ w.heap.size)
    (hA : Slc w B A ((chn a b c).map (stepV g))) (hst : b = true → StopRow w g) :
    Calls Tryz.prog 76 #[.slice A (chn a b c).length cap, .string x] w fun e w' => e = .returned (.tuple #[.string (thru (chn a b c) x).1, .bool (thru (chn a b c) x).2]) ∧ Below w.heap.size w w' := by
  have hmem : Step.stop ∈ chn a b c → StopRow w g := by
    intro h; apply hst; revert h; cases a <;> cases b <;> cases c <;> simp [chn]
  have hlen := chn_len a b c
  clear hst
  generalize chn a b c = L at *
  go_enter Tryz.func76, Tryz.ntmps76
  go_wp2_with fail
  go_loopw [1, 11] (fun wd i wr => ∃ (k : Nat) (y : ByteArray), k ≤ L.length ∧ i = .int .i64 k ∧ wd = .string y ∧ y.size ≤ x.size ∧ thru (L.drop k) y = thru L x ∧ Below w.heap.size w wr) (fun _ i _ => L.length - (intOf i).toNat)
  case atStart => exact ⟨0, x, Nat.zero_le _, rfl, rfl, Nat.le_refl _, rfl, Below.refl _ _⟩
  case round =>
    obtain ⟨k, y, hk, rfl, rfl, hy, hth, hbel⟩ := hrel
    by_cases hlt : k < L.length
    · obtain ⟨s, hsk⟩ : ∃ s, L[k]? = some s := ⟨_, List.getElem?_eq_getElem hlt⟩
      have hdrop : L.drop k = s :: L.drop (k + 1) := by
        obtain ⟨_, e⟩ := List.getElem?_eq_some_iff.1 hsk
        rw [List.drop_eq_getElem_cons hlt, e]
      have hne : L.map (stepV g) ≠ [] := by intro h; have := congrArg List.length h; simp at this; rw [this] at hlt; simp at hlt
      obtain ⟨g1, o1, rfl, hg1, hc1⟩ := (hA.below hbel hB) hne
      have hcell : wr.cell? ⟨g1, o1 + k, none⟩ = some (stepV g s) := hc1 k _ (by simp [hsk])
      have hsz := doS_size s y
      have HT := Lib.hid hth
      have HD := Lib.hid hdrop
      have hm : s = .stop → StopRow w g := fun e => hmem (by subst e; exact List.mem_of_getElem? hsk)
      clear hc1 hth hdrop hA hmem hsk hne
      rcases s with _ | _ | _
      · have HS := Lib.hid (thru_yes (s := .fold) (r := L.drop (k + 1)) (x := y) rfl)
        simp only [stepV] at hcell
        clear hm
        simp only [doS] at hsz
        go_wp2_with (go_at_call 224; refine (foldDo_any y _ (by unfold maxLen; omega)).mono ?_; rintro e w2 ⟨rfl, hb2⟩)
        go_roundw
        case rel => exact ⟨k + 1, _, by omega, by go_num, rfl, by omega, by rw [← HT.out, HD.out, HS.out]; rfl, bchain hbel (by assumption)⟩
        case measure => simp [intOf]; omega
      · have hr := own_below (hm rfl) hbel
        simp only [stepV] at hcell
        clear hm
        obtain ⟨nw, hn⟩ : ∃ n, n = stopWords.length := ⟨_, rfl⟩
        have HC := Lib.hid (stopDo_any y wr g hr)
        rw [← hn] at HC hcell
        clear hn hr
        cases hb : isStopB y
        · have HS := Lib.hid (thru_yes (s := .stop) (r := L.drop (k + 1)) (x := y) (by simp [doS, hb]))
          rw [hb] at HC
          simp only [Bool.not_false] at HC
          clear hb
          go_wp2_with (go_at_call 225; refine HC.out.mono ?_; rintro e w2 ⟨rfl, hb2⟩)
          go_roundw
          case rel => exact ⟨k + 1, y, by omega, by go_num, rfl, by omega, by rw [← HT.out, HD.out, HS.out]; rfl, bchain hbel (by assumption)⟩
          case measure => simp [intOf]; omega
        · have HS := Lib.hid (thru_no (s := .stop) (r := L.drop (k + 1)) (x := y) (by simp [doS, hb]))
          rw [hb] at HC
          simp only [Bool.not_true] at HC
          clear hb
          have HR : Hid (thru L x = (ByteArray.empty, false)) := Lib.hid (by rw [← HT.out, HD.out, HS.out])
          go_wp2_with (go_at_call 225; refine HC.out.mono ?_; rintro e w2 ⟨rfl, hb2⟩)
          go_ret2
          rw [HR.out]
          exact ⟨rfl, bchain hbel (by assumption)⟩
      · have HS := Lib.hid (thru_yes (s := .stem) (r := L.drop (k + 1)) (x := y) rfl)
        simp only [stepV] at hcell
        clear hm
        simp only [doS] at hsz
        go_wp2_with (go_at_call 228; refine (stemDo_any y _ (by omega)).mono ?_; rintro e w2 ⟨rfl, hb2⟩)
        go_roundw
        case rel => exact ⟨k + 1, _, by omega, by go_num, rfl, by omega, by rw [← HT.out, HD.out, HS.out]; rfl, bchain hbel (by assumption)⟩
        case measure => simp [intOf]; omega
    · obtain rfl : k = L.length := by omega
      rw [List.drop_length, thru_nil] at hth
      have HT := Lib.hid hth
      clear hth hA hmem
      go_wp2_with fail
      go_ret2
      rw [← HT.out]
      exact ⟨by simp; omega, hbel⟩
end Go.Proofs.YtkcfgcdlnojaeaaGreatDoor.Through

namespace Go.Proofs.YtkcfgcdlnojaeaaGreatDoor.OfText
set_option maxRecDepth 100000
open Go.RowKit Go.PlainAid WordPlain StemPlain FoldPlain FoldWalk StemWalk8 Base WordBytes WordsWalk StopsPlain StopsWalk ChainPlain PluralPlain ChainWalk ChainMade Through

theorem own_low {w : World} {B B' size n : Nat} {e : TypeId} {v : Value} {xs : List Value} (h : w.ownsRow B e size v n xs) (hB : B' ≤ B) : w.ownsRow B' e size v n xs :=
  ⟨h.1, h.2.imp id fun ⟨g, cap, cur, h1, h2, h3⟩ => ⟨g, cap, cur, h1, Nat.le_trans hB h2, h3⟩⟩

def Toks (ts : List Tok) (w : World) (e : Ending) (w' : World) : Prop :=
  ∃ A c, e = .returned (.slice A ts.length c) ∧ w'.ownsRow w.heap.size 115 5 (.slice A ts.length c) ts.length (tokCells ts) ∧ Below w.heap.size w w'

theorem toks_mk {ts : List Tok} {w w' : World} {A : Option Addr} {n c : Nat} (hn : n = ts.length) (h : w'.ownsRow w.heap.size 115 5 (.slice A n c) n (tokCells ts)) (hb : Below w.heap.size w w') : Toks ts w (.returned (.slice A n c)) w' := by
  subst hn
  exact ⟨A, c, rfl, h, hb⟩

theorem tok_five {w : World} {B g o k : Nat} {ts : List Tok} {t : Tok} (hc : ∀ j u, (tokCells ts)[j]? = some u → w.cell? ⟨g, o + j, none⟩ = some u) (ht : ts[k]? = some t) :
    w.cell? ⟨g, o + k * 5, none⟩ = some (.string t.text) ∧ w.cell? ⟨g, o + k * 5 + 1, none⟩ = some (.int .i64 t.value) ∧ w.cell? ⟨g, o + k * 5 + 2, none⟩ = some (.int .i64 t.pos) ∧
      w.cell? ⟨g, o + k * 5 + 3, none⟩ = some (.int .i64 t.start) ∧ w.cell? ⟨g, o + k * 5 + 4, none⟩ = some (.int .i64 t.stop) := by
  have e := fun j (hj : j < 5) => tokCells_at ts k t j ht hj
  refine ⟨hc (k * 5 + 0) _ (e 0 (by omega)), ?_, ?_, ?_, ?_⟩
  · have := hc (k * 5 + 1) _ (e 1 (by omega)); rwa [← Nat.add_assoc] at this
  · have := hc (k * 5 + 2) _ (e 2 (by omega)); rwa [← Nat.add_assoc] at this
  · have := hc (k * 5 + 3) _ (e 3 (by omega)); rwa [← Nat.add_assoc] at this
  · have := hc (k * 5 + 4) _ (e 4 (by omega)); rwa [← Nat.add_assoc] at this

def tokRow (t : Tok) : Array Value := #[.string t.text, .int .i64 t.value, .int .i64 t.pos, .int .i64 t.start, .int .i64 t.stop]

set_option maxHeartbeats 4000000 in
theorem of_text (nm : ByteArray) (a b c : Bool) (s : ByteArray) (w : World) (hs : s.size ≤ 1099511627775) (ht : Tab w) (h0 : 3 < w.heap.size) :
    Calls Tryz.prog 35 #[.agg #[.string nm, .int .i64 1, .bool a, .bool b, .bool c], .string s] w (Toks (textT a b c s) w) := by
  have hwl := words_len s
  go_enter Tryz.func35, Tryz.ntmps35
  go_wp2_with fail
  go_at_call 74
  refine (chain_any nm 1 a b c _ (tab_below ht (by exact Base.bel) h0) (by simp only [World.size_alloc]; omega)).mono ?_
  rintro e w1 ⟨Ac, capc, g, rfl, ownc, hst, hb1⟩
  have hb1' : Below w.heap.size w w1 := bchain (by exact Base.bel) hb1
  go_wp2_with fail
  go_at_call 75
  refine (words_any s w1 (by omega)).mono ?_
  rintro e w2 ⟨A, cap, rfl, own2, hb2⟩
  have hs1 := hb1'.size
  have hb2' := bchain hb1' hb2
  have hs2 := hb2.size
  have hL := slc_own own2
  have hCh := (slc_own ownc).below hb2 (Nat.le_refl _)
  have hst2 : b = true → StopRow w2 g := fun h => own_below (hst h) hb2
  clear own2 ownc hst hb1
  go_wp2_with fail
  go_loopw [6, 27] (fun v i wr => ∃ k : Nat, k ≤ (words s).length ∧ i = .int .i64 k ∧
      wr.ownsRow w2.heap.size 115 5 v (passed (chn a b c) ((words s).take k)).length (tokCells (passed (chn a b c) ((words s).take k))) ∧ Below w2.heap.size w2 wr) (fun _ i _ => (words s).length - (intOf i).toNat)
  case atStart => exact ⟨0, Nat.zero_le _, rfl, World.ownsRow_nil _ _ _ _, Below.refl _ _⟩
  case round =>
    obtain ⟨k, hk, rfl, hown, hbel⟩ := hrel
    obtain ⟨A3, c3, rfl⟩ := own_slice hown
    have hsz := hbel.size
    have hpl := passed_len (chn a b c) ((words s).take k)
    rw [List.length_take] at hpl
    by_cases hlt : k < (words s).length
    · obtain ⟨t, htk⟩ : ∃ t, (words s)[k]? = some t := ⟨_, List.getElem?_eq_getElem hlt⟩
      have hne : tokCells (words s) ≠ [] := by
        intro h
        have := tokCells_len (words s)
        rw [h] at this
        simp at this
        omega
      obtain ⟨g1, o1, rfl, hg1, hc1⟩ := (hL.below hbel (Nat.le_refl _)) hne
      obtain ⟨x0, x1, x2, x3, x4⟩ := tok_five (B := 0) hc1 htk
      have htx := words_text s htk
      clear hc1 hL hne
      have TH := Lib.hid (through_any a b c Ac capc g w1.heap.size t.text (wr.alloc (.cells (tokRow t) 115)) (by omega) (by simp only [World.size_alloc]; omega) ((hCh.below hbel hs2).below (balloc (Below.refl wr.heap.size wr) _) (by omega)) (fun h => (own_below (hst2 h) hbel).alloc _))
      unfold tokRow at TH
      have hb := Blk.new wr 115 (tokRow t)
      unfold tokRow at hb
      go_wp2_with fail
      go_at_call 76
      cases hth : (thru (chn a b c) t.text).2
      · rw [hth] at TH
        have HP := Lib.hid (passed_no htk hth)
        clear hth
        refine TH.out.mono ?_
        rintro e w3 ⟨rfl, hb3⟩
        have hb3' : Below wr.heap.size wr w3 := bchain (by exact Base.bel) hb3
        go_wp2_with fail
        go_roundw
        case rel => exact ⟨k + 1, by omega, by go_num, by rw [HP.out]; exact own_below hown hb3', hbel.trans (hb3'.mono hsz)⟩
        case measure => simp [intOf]; omega
      · rw [hth] at TH
        have HP := Lib.hid (passed_yes htk hth)
        clear hth
        refine TH.out.mono ?_
        rintro e w3 ⟨rfl, hb3⟩
        have hb3' : Below wr.heap.size wr w3 := bchain (by exact Base.bel) hb3
        have hk3 := hb.below hb3 (by simp only [World.size_alloc]; omega)
        obtain ⟨y, hy⟩ : ∃ y, y = (thru (chn a b c) t.text).1 := ⟨_, rfl⟩
        rw [← hy] at HP ⊢
        have hb4 : Below wr.heap.size wr (w3.setCell ⟨wr.heap.size, 0, none⟩ (.string y)) := hb3'.setCell (p := ⟨wr.heap.size, 0, none⟩) (Nat.le_refl _) _
        have own4 := own_below hown hb4
        have q0 := hk3.cell 0
        have q1 := hk3.cell 1
        have q2 := hk3.cell 2
        have q3 := hk3.cell 3
        have q4 := hk3.cell 4
        have z0 := hk3.frozen 0
        simp only [List.getElem?_toArray, List.getElem?_cons_zero, List.getElem?_cons_succ] at q0 q1 q2 q3 q4
        have hs4 := hb4.size
        simp only [World.size_setCell] at hs4
        clear hy TH hb hk3 hst2 hCh
        go_wp2_with (at_builtin; refine wpList_append1 (base := w2.heap.size) rfl _ _ rfl tokElem own4 rfl (by rw [World.size_setCell]; rfl) rfl rfl (by omega) (by unfold maxLen; omega) (by simp only [World.size_setCell]; omega) ?_)
        intro v5 w5 own5 hg5 hb5
        have hb5' := hb5 w2 (hbel.trans (hb4.mono hsz))
        clear hb5 hg5 own4
        go_wp2_with fail
        go_roundw
        case rel => exact ⟨k + 1, by omega, by go_num, by rw [HP.out, List.length_append, tokCells_append]; exact own5, hb5'⟩
        case measure => simp [intOf]; omega
    · obtain rfl : k = (words s).length := by omega
      have e : passed (chn a b c) ((words s).take (words s).length) = textT a b c s := by rw [List.take_length]; rfl
      rw [e] at hown ⊢
      have hs1 := hb2'.size
      clear e
      go_wp2_with fail
      go_ret
      exact toks_mk rfl (own_low hown (by omega)) (bchain hb2' hbel)
end Go.Proofs.YtkcfgcdlnojaeaaGreatDoor.OfText

namespace Go.Proofs.YtkcfgcdlnojaeaaGreatDoor.OfAny
set_option maxRecDepth 100000
open Go.RowKit Go.PlainAid WordPlain StemPlain FoldPlain Base WordBytes WordsWalk StopsPlain StopsWalk ChainPlain OfText NumPlain NumWalk NumTerm

def loneT (x s : ByteArray) : Tok := ⟨x, 0, 0, 0, s.size⟩
def ofT (kd : Int) (a b c : Bool) (s : ByteArray) : List Tok :=
  if kd = 1 then textT a b c s
  else if kd = 2 then (if s.size ≤ 64 then [loneT s s] else [])
  else if kd = 3 then (match parseN s with | some v => [loneT (termN v) s] | none => [])
  else []
theorem of_1 (a b c : Bool) (s : ByteArray) : ofT 1 a b c s = textT a b c s := rfl
theorem of_2y {a b c : Bool} {s : ByteArray} (h : s.size ≤ 64) : ofT 2 a b c s = [loneT s s] := by unfold ofT; rw [if_neg (by decide), if_pos rfl, if_pos h]
theorem of_2n {a b c : Bool} {s : ByteArray} (h : ¬ s.size ≤ 64) : ofT 2 a b c s = [] := by unfold ofT; rw [if_neg (by decide), if_pos rfl, if_neg h]
theorem of_3y {a b c : Bool} {s : ByteArray} {v : Int} (h : parseN s = some v) : ofT 3 a b c s = [loneT (termN v) s] := by unfold ofT; rw [if_neg (by decide), if_neg (by decide), if_pos rfl, h]
theorem of_3n {a b c : Bool} {s : ByteArray} (h : parseN s = none) : ofT 3 a b c s = [] := by unfold ofT; rw [if_neg (by decide), if_neg (by decide), if_pos rfl, h]
theorem of_no {kd : Int} {a b c : Bool} {s : ByteArray} (h1 : kd ≠ 1) (h2 : kd ≠ 2) (h3 : kd ≠ 3) : ofT kd a b c s = [] := by unfold ofT; rw [if_neg h1, if_neg h2, if_neg h3]
theorem of_len (kd : Int) (a b c : Bool) (s : ByteArray) : (ofT kd a b c s).length ≤ s.size + 1 := by
  unfold ofT
  split
  · exact textT_len a b c s
  · split
    · split <;> simp
    · split
      · split <;> simp
      · simp

theorem lone_cells (x s : ByteArray) : tokCells [loneT x s] = [.string x, .int .i64 0, .int .i64 0, .int .i64 0, .int .i64 (s.size : Nat)] := rfl
theorem lone_own {w wr : World} (hb : Below w.heap.size w wr) (x s : ByteArray) :
    Toks [loneT x s] w (.returned (.slice (some ⟨wr.heap.size, 0, none⟩) 1 1)) (wr.alloc (.cells #[.string x, .int .i64 0, .int .i64 0, .int .i64 0, .int .i64 (s.size : Nat)] 115)) :=
  ⟨_, _, rfl, by
    have := World.ownsRow_lit (e := 115) (size := 5) (base := w.heap.size) wr #[.string x, .int .i64 0, .int .i64 0, .int .i64 0, .int .i64 (s.size : Nat)] 1 hb.size (by decide) rfl
    exact this, balloc hb _⟩
theorem none_toks {w wr : World} (hb : Below w.heap.size w wr) : Toks [] w (.returned (.slice none 0 0)) wr := ⟨_, _, rfl, World.ownsRow_nil _ _ _ _, hb⟩

set_option maxHeartbeats 4000000 in
theorem of_any (nm : ByteArray) (kd : Int) (a b c : Bool) (s : ByteArray) (w : World) (hs : s.size ≤ 1099511627775) (ht : Tab w) (h0 : 3 < w.heap.size) :
    Calls Tryz.prog 35 #[.agg #[.string nm, .int .i64 kd, .bool a, .bool b, .bool c], .string s] w (Toks (ofT kd a b c s) w) := by
  by_cases h1 : kd = 1
  · subst h1
    rw [of_1]
    exact of_text nm a b c s w hs ht h0
  have b1 : (kd == 1) = false := by rw [beq_eq_false_iff_ne]; exact h1
  by_cases h2 : kd = 2
  · have b2 : (kd == 2) = true := by rw [beq_iff_eq]; exact h2
    by_cases hz : s.size ≤ 64
    · rw [h2, of_2y hz, ← h2]
      clear h1 h2
      go_enter Tryz.func35, Tryz.ntmps35
      go_wp2_with fail
      go_ret
      have := lone_own (w := w) (wr := (w.alloc (.cells #[.string nm, .int .i64 kd, .bool a, .bool b, .bool c] 67)).alloc (.cells #[.string s, .int .i64 0, .int .i64 0, .int .i64 0, .int .i64 (s.size : Nat)] 115)) (by exact Base.bel) s s
      simp only [World.size_alloc] at this
      exact this
    · rw [h2, of_2n hz, ← h2]
      clear h1 h2
      go_enter Tryz.func35, Tryz.ntmps35
      go_wp2_with fail
      go_ret
      exact none_toks (by exact Base.bel)
  have b2 : (kd == 2) = false := by rw [beq_eq_false_iff_ne]; exact h2
  by_cases h3 : kd = 3
  · have b3 : (kd == 3) = true := by rw [beq_iff_eq]; exact h3
    have PA := Lib.hid (fun W => parse_any s W (by omega))
    cases hp : parseN s with
    | none =>
      rw [h3, of_3n hp, ← h3]
      rw [hp] at PA
      unfold numV at PA
      simp only [Option.getD_none, Option.isSome_none] at PA
      clear h1 h2 h3 hp
      go_enter Tryz.func35, Tryz.ntmps35
      go_wp2_with (go_at_call 39; refine (PA.out _).mono ?_; rintro e w' ⟨rfl, rfl⟩)
      go_ret
      exact none_toks (by exact Base.bel)
    | some v =>
      have hbd := parse_bd hp
      rw [h3, of_3y hp, ← h3]
      rw [hp] at PA
      unfold numV at PA
      simp only [Option.getD_some, Option.isSome_some] at PA
      have TA := Lib.hid (fun W => term_any v W hbd.1 hbd.2)
      clear h1 h2 h3 hp hbd
      have hk := Blk.new (w.alloc (.cells #[.string nm, .int .i64 kd, .bool a, .bool b, .bool c] 67)) 115 #[.string s, .int .i64 0, .int .i64 0, .int .i64 0, .int .i64 (s.size : Nat)]
      have hkl := hk.lt
      go_enter Tryz.func35, Tryz.ntmps35
      go_wp2_with (go_at_call 39; refine (PA.out _).mono ?_; rintro e w' ⟨rfl, rfl⟩)
      go_at_call 40
      refine (TA.out _).mono ?_
      rintro e w3 ⟨rfl, hb3⟩
      have hk3 := hk.below hb3 hkl
      have hb3' : Below w.heap.size w w3 := bchain (by exact Base.bel) hb3
      simp only [World.size_alloc] at hk3
      have e0 := hk3.cell 0
      have e1 := hk3.cell 1
      have e2 := hk3.cell 2
      have e3 := hk3.cell 3
      have e4 := hk3.cell 4
      have z0 := hk3.frozen 0
      simp only [List.getElem?_toArray, List.getElem?_cons_zero, List.getElem?_cons_succ] at e0 e1 e2 e3 e4
      clear hk hkl hb3 TA PA
      go_wp2_with fail
      go_ret
      have := lone_own (w := w) (wr := w3.setCell ⟨w.heap.size + 1, 0, none⟩ (.string (termN v))) (hb3'.setCell (p := ⟨w.heap.size + 1, 0, none⟩) (Nat.le_succ _) _) (termN v) s
      simp only [World.size_setCell] at this
      exact this
  have b3 : (kd == 3) = false := by rw [beq_eq_false_iff_ne]; exact h3
  rw [of_no h1 h2 h3]
  clear h1 h2 h3
  go_enter Tryz.func35, Tryz.ntmps35
  go_wp2_with fail
  go_ret
  exact none_toks (by exact Base.bel)
end Go.Proofs.YtkcfgcdlnojaeaaGreatDoor.OfAny
