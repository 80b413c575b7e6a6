/-
  Plain facts for TokensChain: the steps one by one.
-/
import Derived.Test.YtmoahflgcojfcaaDoorDChains
namespace Go.Proofs.YtmoahflgcojfcaaDoor.ChainLaw
set_option maxRecDepth 100000
open Go.PlainAid WordPlain StemPlain FoldPlain PluralPlain StopsPlain StopsWalk ChainPlain

def x1 (a : Bool) (x : ByteArray) : ByteArray := if a then foldS x else x
def x2 (c : Bool) (x : ByteArray) : ByteArray := if c then stem x else x
theorem x1_size (a : Bool) (x : ByteArray) : (x1 a x).size ≤ x.size := by
  unfold x1; split
  · rw [foldS_size]; exact Nat.le_refl _
  · exact Nat.le_refl _
theorem x2_size (c : Bool) (x : ByteArray) : (x2 c x).size ≤ x.size := by
  unfold x2; split
  · exact stem_le x
  · exact Nat.le_refl _

theorem thru_stop {a c : Bool} {x : ByteArray} (h : isStopB (x1 a x) = true) : (thru (chn a true c) x).2 = false := by
  cases a <;> cases c <;> simp_all [thru, chn, doS, x1]
theorem thru_rest {a b c : Bool} {x : ByteArray} (h : b = true → isStopB (x1 a x) = false) : thru (chn a b c) x = (x2 c (x1 a x), decide ((x2 c (x1 a x)).size ≤ 64)) := by
  cases a <;> cases b <;> cases c <;> (simp_all [thru, chn, doS, x1, x2]) <;> rfl

theorem passed_append (c : List Step) (l r : List Tok) : passed c (l ++ r) = passed c l ++ passed c r := by unfold passed; rw [List.filterMap_append]
/-- The token of a word that stays stands where the tokens ahead of it end. -/
theorem text_at {a b c : Bool} {s : ByteArray} {k : Nat} {t : Tok} {y : ByteArray} (ht : (words s)[k]? = some t) (h : thru (chn a b c) t.text = (y, true)) :
    (textT a b c s)[(passed (chn a b c) ((words s).take k)).length]? = some (withT t y) := by
  have e : textT a b c s = passed (chn a b c) ((words s).take (k + 1)) ++ passed (chn a b c) ((words s).drop (k + 1)) := by
    rw [← passed_append, List.take_append_drop]; rfl
  rw [e, passed_yes ht (by rw [h]), List.append_assoc, List.getElem?_append_right (Nat.le_refl _), Nat.sub_self, h]
  rfl
theorem text_lt {a b c : Bool} {s : ByteArray} {k : Nat} {t : Tok} {y : ByteArray} (ht : (words s)[k]? = some t) (h : thru (chn a b c) t.text = (y, true)) :
    (passed (chn a b c) ((words s).take k)).length < (textT a b c s).length := by
  have := text_at ht h
  exact (List.getElem?_eq_some_iff.1 this).1
end Go.Proofs.YtmoahflgcojfcaaDoor.ChainLaw
