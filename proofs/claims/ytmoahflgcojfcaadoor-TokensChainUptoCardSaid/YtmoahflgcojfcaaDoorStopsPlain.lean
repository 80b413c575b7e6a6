/-
  The stop words, as lists of bytes: they are the words of the one text, and they rise.
-/
import Derived.Lib.Fields
import Derived.KernelRfl
import Derived.Sort.EncStr
namespace Go.Proofs.YtmoahflgcojfcaaDoor.StopsPlain

/-- The text of the stop words. -/
def stopText : List UInt8 := [97, 32, 97, 110, 32, 97, 110, 100, 32, 97, 114, 101, 32, 97, 115, 32, 97, 116, 32, 98, 101, 32, 98, 117, 116, 32, 98, 121, 32, 102, 111, 114, 32, 102, 114, 111, 109, 32, 104, 97, 115, 32, 104, 101, 32, 105, 102, 32, 105, 110, 32, 105, 110, 116, 111, 32, 105, 115, 32, 105, 116, 32, 105, 116, 115, 32, 110, 111, 32, 110, 111, 116, 32, 111, 102, 32, 111, 110, 32, 111, 114, 32, 115, 104, 101, 32, 115, 111, 32, 115, 117, 99, 104, 32, 116, 104, 97, 116, 32, 116, 104, 101, 32, 116, 104, 101, 105, 114, 32, 116, 104, 101, 110, 32, 116, 104, 101, 114, 101, 32, 116, 104, 101, 115, 101, 32, 116, 104, 101, 121, 32, 116, 104, 105, 115, 32, 116, 111, 32, 119, 97, 115, 32, 119, 101, 32, 119, 101, 114, 101, 32, 119, 105, 108, 108, 32, 119, 105, 116, 104, 32, 121, 111, 117]
/-- The stop words. -/
def stopWords : List (List UInt8) := [[97], [97, 110], [97, 110, 100], [97, 114, 101], [97, 115], [97, 116], [98, 101], [98, 117, 116], [98, 121], [102, 111, 114], [102, 114, 111, 109], [104, 97, 115], [104, 101], [105, 102], [105, 110], [105, 110, 116, 111], [105, 115], [105, 116], [105, 116, 115], [110, 111], [110, 111, 116], [111, 102], [111, 110], [111, 114], [115, 104, 101], [115, 111], [115, 117, 99, 104], [116, 104, 97, 116], [116, 104, 101], [116, 104, 101, 105, 114], [116, 104, 101, 110], [116, 104, 101, 114, 101], [116, 104, 101, 115, 101], [116, 104, 101, 121], [116, 104, 105, 115], [116, 111], [119, 97, 115], [119, 101], [119, 101, 114, 101], [119, 105, 108, 108], [119, 105, 116, 104], [121, 111, 117]]

theorem stop_fields : Lib.fields stopText = stopWords := by kernel_rfl
theorem stop_ascii : stopText.all (fun b => decide (b.toNat < 128)) = true := by kernel_rfl
theorem stop_len : stopWords.length = 42 := by kernel_rfl
/-- Each ahead of the next. -/
def risesB : List (List UInt8) → Bool
  | a :: b :: r => decide (a ≤ b) && risesB (b :: r)
  | _ => true
theorem stop_rises : risesB stopWords = true := by kernel_rfl
theorem rises_pairwise : ∀ l : List (List UInt8), risesB l = true → l.Pairwise (fun x y => x ≤ y)
  | [], _ => List.Pairwise.nil
  | [_], _ => by simp
  | a :: b :: r, h => by
    simp only [risesB, Bool.and_eq_true, decide_eq_true_eq] at h
    have ih := rises_pairwise (b :: r) h.2
    refine List.Pairwise.cons (fun x hx => ?_) ih
    rcases List.mem_cons.1 hx with rfl | hx
    · exact h.1
    · exact List.le_trans h.1 ((List.pairwise_cons.1 ih).1 x hx)
theorem stop_sorted : (stopWords.mergeSort fun x y => decide (x ≤ y)) = stopWords :=
  List.mergeSort_of_pairwise ((rises_pairwise _ stop_rises).imp fun h => by simpa using h)
end Go.Proofs.YtmoahflgcojfcaaDoor.StopsPlain
