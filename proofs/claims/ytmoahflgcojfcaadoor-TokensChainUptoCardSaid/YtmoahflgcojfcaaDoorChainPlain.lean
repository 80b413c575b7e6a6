/-
  Plain facts on chains: what is left of a word behind the steps of a field; the tokens of a text.
-/
import Derived.Test.YtmoahflgcojfcaaDoorStopsWalk
import Derived.Test.YtmoahflgcojfcaaDoorWordPlain
import Derived.Test.YtmoahflgcojfcaaDoorFoldPlain
import Derived.Test.YtmoahflgcojfcaaDoorPluralPlain
namespace Go.Proofs.YtmoahflgcojfcaaDoor.ChainPlain
set_option maxRecDepth 100000
open Go.PlainAid WordPlain StemPlain FoldPlain PluralPlain StopsPlain StopsWalk

inductive Step where
  | fold | stop | stem

def doS : Step → ByteArray → ByteArray × Bool
  | .fold, x => (foldS x, true)
  | .stop, x => (x, !isStopB x)
  | .stem, x => (stem x, true)

def thru : List Step → ByteArray → ByteArray × Bool
  | [], x => (x, decide (x.size ≤ 64))
  | s :: r, x => if (doS s x).2 then thru r (doS s x).1 else (ByteArray.empty, false)

def chn (a b c : Bool) : List Step := (if a then [.fold] else []) ++ ((if b then [.stop] else []) ++ (if c then [.stem] else []))

theorem chn_len (a b c : Bool) : (chn a b c).length ≤ 3 := by cases a <;> cases b <;> cases c <;> decide

theorem doS_size (s : Step) (x : ByteArray) : (doS s x).1.size ≤ x.size := by
  cases s
  · exact Nat.le_of_eq (foldS_size x)
  · exact Nat.le_refl _
  · exact stem_le x

theorem thru_nil (x : ByteArray) : thru [] x = (x, decide (x.size ≤ 64)) := rfl
theorem thru_yes {s : Step} {r : List Step} {x : ByteArray} (h : (doS s x).2 = true) : thru (s :: r) x = thru r (doS s x).1 := by
  rw [thru, if_pos h]
theorem thru_no {s : Step} {r : List Step} {x : ByteArray} (h : (doS s x).2 = false) : thru (s :: r) x = (ByteArray.empty, false) := by
  rw [thru, if_neg (by rw [h]; simp)]

/-- The token that a chain makes of a word. -/
def withT (t : Tok) (x : ByteArray) : Tok := ⟨x, t.value, t.pos, t.start, t.stop⟩
def passT (c : List Step) (t : Tok) : Option Tok := if (thru c t.text).2 then some (withT t (thru c t.text).1) else none
def passed (c : List Step) (ts : List Tok) : List Tok := ts.filterMap (passT c)

theorem passed_zero (c : List Step) (ts : List Tok) : passed c (ts.take 0) = [] := rfl
theorem take_succ_ {α : Type _} {ts : List α} {k : Nat} {t : α} (h : ts[k]? = some t) : ts.take (k + 1) = ts.take k ++ [t] := by
  obtain ⟨hk, e⟩ := List.getElem?_eq_some_iff.1 h
  rw [List.take_succ_eq_append_getElem hk, e]
theorem passed_yes {c : List Step} {ts : List Tok} {k : Nat} {t : Tok} (h : ts[k]? = some t) (hb : (thru c t.text).2 = true) :
    passed c (ts.take (k + 1)) = passed c (ts.take k) ++ [withT t (thru c t.text).1] := by
  unfold passed
  rw [take_succ_ h, List.filterMap_append]
  congr 1
  simp [passT, hb]
theorem passed_no {c : List Step} {ts : List Tok} {k : Nat} {t : Tok} (h : ts[k]? = some t) (hb : (thru c t.text).2 = false) :
    passed c (ts.take (k + 1)) = passed c (ts.take k) := by
  unfold passed
  rw [take_succ_ h, List.filterMap_append]
  simp [passT, hb]
theorem passed_len (c : List Step) (ts : List Tok) : (passed c ts).length ≤ ts.length := List.length_filterMap_le _ _

/-- The words of a text are no longer than the text. -/
theorem wst_text (s : ByteArray) : ∀ k, ∀ t ∈ (wst s k).1, t.text.size ≤ s.size := by
  intro k
  induction k with
  | zero => intro t h; simp [wst] at h
  | succ k ih =>
    intro t h
    cases hi : inW s k <;> cases h2 : (wst s k).2
    · rw [wst_out_none hi h2] at h; exact ih t h
    · rw [wst_out_some hi h2] at h
      rcases List.mem_append.1 h with h | h
      · exact ih t h
      · obtain rfl := List.mem_singleton.1 h
        rw [ByteArray.size_extract]; omega
    · rw [wst_in_none hi h2] at h; exact ih t h
    · rw [wst_in_some hi h2] at h; exact ih t h
theorem words_text (s : ByteArray) {k : Nat} {t : Tok} (h : (words s)[k]? = some t) : t.text.size ≤ s.size := wst_text s _ t (List.mem_of_getElem? h)

/-- The tokens of a text of a text field. -/
def textT (a b c : Bool) (s : ByteArray) : List Tok := passed (chn a b c) (words s)
theorem textT_len (a b c : Bool) (s : ByteArray) : (textT a b c s).length ≤ s.size + 1 := Nat.le_trans (passed_len _ _) (words_len s)

/-- A step's place in the list, as a value; the stop words lie in block g. -/
def stepV (g : Nat) : Step → Value
  | .fold => .iface 76 (.agg #[])
  | .stop => .iface 78 (.agg #[.slice (some ⟨g, 0, none⟩) stopWords.length stopWords.length])
  | .stem => .iface 79 (.agg #[])
/-- The stop words lie in block g. -/
def StopRow (w : World) (g : Nat) : Prop := w.ownsRow g 9 1 (.slice (some ⟨g, 0, none⟩) stopWords.length stopWords.length) stopWords.length (stopWords.map encStr)
end Go.Proofs.YtmoahflgcojfcaaDoor.ChainPlain
