/-
  The walks of a chain's steps, tokens.chain and tokens.through.
-/
import Derived.Test.YtmoahflgcojfcaaDoorChainPlain
import Derived.Test.YtmoahflgcojfcaaDoorFoldWalk
import Derived.Test.YtmoahflgcojfcaaDoorStemWalk8
import Derived.Test.YtmoahflgcojfcaaDoorWordsWalk
namespace Go.Proofs.YtmoahflgcojfcaaDoor.ChainWalk
set_option maxRecDepth 100000
open Go.RowKit Go.PlainAid WordPlain StemPlain FoldPlain FoldWalk StemWalk8 Base WordBytes WordsWalk StopsPlain StopsWalk ChainPlain PluralPlain

theorem stepElem : Elem Tryd.prog 54 81 .nilIface 1 16 := .mk_ (by kernel_rfl) (by kernel_rfl) rfl (by decide)

set_option maxHeartbeats 2000000 in
theorem foldDo_any (x : ByteArray) (w : World) (hs : x.size ≤ maxLen) :
    Calls Tryd.prog 123 #[.agg #[], .string x] w fun e w' => e = .returned (.tuple #[.string (foldS x), .bool true]) ∧ Below w.heap.size w w' := by
  go_enter Tryd.func123, Tryd.ntmps123
  go_wp2_with (go_at_call 15; refine (fold_any x _ hs).mono ?_; rintro e w' ⟨rfl, hb⟩)
  go_ret2
  exact ⟨rfl, by (repeat (first | exact Below.refl _ _ | assumption | refine balloc ?_ _ | refine bdrew ?_ | refine bdrewN ?_ _ | refine bchain ?_ (by assumption)))⟩

set_option maxHeartbeats 2000000 in
theorem stemDo_any (x : ByteArray) (w : World) (hs : x.size ≤ 140737488355327) :
    Calls Tryd.prog 125 #[.agg #[], .string x] w fun e w' => e = .returned (.tuple #[.string (stem x), .bool true]) ∧ Below w.heap.size w w' := by
  go_enter Tryd.func125, Tryd.ntmps125
  go_wp2_with (go_at_call 16; refine (stem_any x _ hs).mono ?_; rintro e w' ⟨rfl, hb⟩)
  go_ret2
  exact ⟨rfl, by (repeat (first | exact Below.refl _ _ | assumption | refine balloc ?_ _ | refine bdrew ?_ | refine bdrewN ?_ _ | refine bchain ?_ (by assumption)))⟩

set_option maxHeartbeats 2000000 in
theorem stopDo_any (x : ByteArray) (w : World) (g : Nat) (h : StopRow w g) :
    Calls Tryd.prog 124 #[.agg #[.slice (some ⟨g, 0, none⟩) stopWords.length stopWords.length], .string x] w fun e w' => e = .returned (.tuple #[.string x, .bool (!isStopB x)]) ∧ Below w.heap.size w w' := by
  obtain ⟨n, hn⟩ : ∃ n, n = stopWords.length := ⟨_, rfl⟩
  have H := fun W (hb : Below w.heap.size w W) => contains_stop x (own_below h hb)
  rw [← hn] at H ⊢
  have HH := Lib.hid H
  clear H h hn
  go_enter Tryd.func124, Tryd.ntmps124
  go_wp2_with fail
  go_at_call 26
  refine (HH.out _ (by (repeat (first | exact Below.refl _ _ | assumption | refine balloc ?_ _ | refine bdrew ?_ | refine bdrewN ?_ _ | refine bchain ?_ (by assumption))))).mono ?_
  rintro e w' ⟨rfl, rfl⟩
  go_wp2_with fail
  go_ret2
  exact ⟨rfl, by (repeat (first | exact Below.refl _ _ | assumption | refine balloc ?_ _ | refine bdrew ?_ | refine bdrewN ?_ _ | refine bchain ?_ (by assumption)))⟩

/-- What a chain's making leaves. -/
def ChainMade (a b c : Bool) (w : World) (e : Ending) (w' : World) : Prop :=
  ∃ A cap g, e = .returned (.slice A (chn a b c).length cap) ∧ w'.ownsRow w.heap.size 81 1 (.slice A (chn a b c).length cap) (chn a b c).length ((chn a b c).map (stepV g)) ∧
    (b = true → StopRow w' g) ∧ Below w.heap.size w w'
end Go.Proofs.YtmoahflgcojfcaaDoor.ChainWalk
