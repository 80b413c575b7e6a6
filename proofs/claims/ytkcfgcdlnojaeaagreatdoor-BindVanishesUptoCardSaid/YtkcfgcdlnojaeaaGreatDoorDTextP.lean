/-
  What a good query is, and its text, in plain Lean.
  A good query's text, in plain Lean, and how long it is.
-/
import Derived.Test.YtkcfgcdlnojaeaaGreatDoorDQry
import Derived.Lib.ItoaNum
import Derived.Test.YtkcfgcdlnojaeaaGreatDoorDByt
set_option linter.unusedVariables false
set_option linter.unusedSimpArgs false
namespace Go.Proofs.YtkcfgcdlnojaeaaGreatDoor.TextPlain
open Go.RowKit Go.PlainAid Base Query

def inR (f n : Int) : Bool := decide (0 ≤ f) && decide (f < n)
def okEnd (b : Bnd) : Bool := !b.op || (!b.inn && b.text.size == 0)
def noEnd (b : Bnd) : Bool := !b.op && !b.inn && b.text.size == 0
def pat (s : ByteArray) (i : Nat) : Bool :=
  if i < s.size then if bt s i = 92 then if i + 1 < s.size then pat s (i + 2) else false else pat s (i + 1) else true
termination_by s.size - i

structure Has where
  a : Bool
  b : Bool
  c : Bool
  m : Int
  d : Bool
  e : Bool
  f : Bool
  k : Int
  p : Bool
  n : List UInt8
def hasOf : Nat → Has
  | 1 => ⟨false, false, false, 0, false, false, false, 0, true, [110, 111, 110, 101]⟩
  | 2 => ⟨false, false, false, 0, false, false, false, 0, true, [97, 108, 108]⟩
  | 3 => ⟨true, false, false, 0, false, false, false, 0, true, [104, 97, 115]⟩
  | 4 => ⟨true, true, true, 0, false, false, false, 0, true, [116, 101, 114, 109]⟩
  | 5 => ⟨true, false, true, 999999999, false, true, false, 0, true, [112, 104, 114, 97, 115, 101]⟩
  | 6 => ⟨true, true, false, 0, false, false, false, 0, false, [112, 114, 101, 102, 105, 120]⟩
  | 7 => ⟨true, true, false, 0, false, false, false, 0, false, [119, 105, 108, 100]⟩
  | 8 => ⟨true, true, false, 2, false, false, false, 0, false, [102, 117, 122, 122, 121]⟩
  | 9 => ⟨true, false, false, 0, true, false, false, 0, false, [115, 112, 97, 110]⟩
  | 10 => ⟨false, false, false, 999999999, false, false, true, -1, true, [108, 105, 115, 116]⟩
  | 11 => ⟨false, false, false, 0, false, false, false, -1, true, [109, 97, 120]⟩
  | 12 => ⟨false, false, false, 0, false, false, false, 1, true, [110, 111, 116]⟩
  | 13 => ⟨false, false, true, 0, false, false, false, 1, true, [98, 111, 111, 115, 116]⟩
  | 14 => ⟨false, false, true, 0, false, false, false, 1, true, [99, 111, 110, 115, 116]⟩
  | _ => ⟨false, false, false, 0, false, false, false, 0, false, []⟩

def numB (x : Has) (n : Int) (h : Head) : Bool :=
  (if x.a then inR h.field n else h.field == 0) && (x.b || h.text.size == 0) && (x.c || h.weight == 0) && decide (0 ≤ h.n) && decide (h.n ≤ x.m) && (if x.d then okEnd h.lo && okEnd h.hi else noEnd h.lo && noEnd h.hi)
def occB (o : Int) : Bool := o == 0 || o == 1 || o == 2
def offB (o : Int) : Bool := decide (0 ≤ o) && decide (o < 2147483647)
def lstB (x : Has) (nk : Nat) (h : Head) : Bool :=
  (if 0 ≤ x.k then (nk : Int) == x.k else nk != 0) && (if x.f then h.occur.length == nk else h.occur.length == 0) && h.occur.all occB && h.offs.length == h.terms.length && (x.e == (h.terms.length != 0)) && h.offs.all offB
def locB (n : Int) (p : Bool) (h : Head) (nk : Nat) : Bool :=
  decide (1 ≤ h.kind) && decide (h.kind ≤ 14) && (!p || (hasOf h.kind.toNat).p) && numB (hasOf h.kind.toNat) n h && lstB (hasOf h.kind.toNat) nk h && (h.kind != 7 || pat h.text 0)

mutual
def goodBy (P : Head → Nat → Bool) : Qry → Bool
  | .mk h ks => P h ks.length && goodsBy P ks
def goodsBy (P : Head → Nat → Bool) : List Qry → Bool
  | [] => true
  | q :: r => goodBy P q && goodsBy P r
end
theorem goodsBy_all (P : Head → Nat → Bool) : ∀ l : List Qry, goodsBy P l = l.all (goodBy P)
  | [] => by simp [goodsBy]
  | q :: r => by simp [goodsBy, goodsBy_all P r]
def good (n : Int) (p : Bool) (q : Qry) : Bool := goodBy (locB n p) q

def bareB (h : Head) (nk : Nat) : Bool :=
  ((decide (3 ≤ h.kind) && decide (h.kind ≤ 9)) || h.field == 0) && (h.kind == 4 || h.kind == 6 || h.kind == 7 || h.kind == 8 || h.text.size == 0) && (h.kind == 5 || h.kind == 8 || h.kind == 10 || h.n == 0) &&
    (h.kind == 4 || h.kind == 5 || h.kind == 13 || h.kind == 14 || h.weight == 0) && (h.kind == 9 || (noEnd h.lo && noEnd h.hi)) && (h.kind == 5 || h.terms.length == 0) && (h.kind == 5 || h.offs.length == 0) &&
    (h.kind == 10 || h.occur.length == 0) && (decide (10 ≤ h.kind) || nk == 0)
def offR (o : Int) : Bool := decide (0 ≤ o) && decide (o ≤ 2147483646)
def askB (h : Head) (nk : Nat) : Bool :=
  if h.kind = 5 then decide (0 < h.terms.length) && h.offs.length == h.terms.length && decide (0 ≤ h.n) && decide (h.n ≤ 999999999) && h.offs.all offR
  else if h.kind = 7 then pat h.text 0
  else if h.kind = 8 then decide (0 ≤ h.n) && decide (h.n ≤ 2)
  else if h.kind = 9 then okEnd h.lo && okEnd h.hi
  else if h.kind = 10 then decide (0 < nk) && h.occur.length == nk && decide (0 ≤ h.n) && decide (h.n ≤ 999999999) && h.occur.all occB
  else if h.kind = 11 then decide (0 < nk)
  else if 12 ≤ h.kind then nk == 1
  else true
def multi (k : Int) : Bool := k == 6 || k == 7 || k == 8 || k == 9
def rlocB (n : Int) (p : Bool) (h : Head) (nk : Nat) : Bool :=
  decide (1 ≤ h.kind) && decide (h.kind ≤ 14) && !(p && multi h.kind) && (!(decide (3 ≤ h.kind) && decide (h.kind ≤ 9)) || inR h.field n) && bareB h nk && askB h nk

theorem off_eq : offR = offB := by
  funext o
  unfold offR offB
  congr 1
  rw [decide_eq_decide]
  omega
theorem wf_len {n : Nat} : (n == 0) = true ↔ n = 0 := beq_iff_eq

theorem list_nil_all {α : Type} {l : List α} {f : α → Bool} (h : l.length = 0) : l.all f = true := by
  rw [List.eq_nil_of_length_eq_zero h]; rfl

theorem loc_eq (n : Int) (p : Bool) : rlocB n p = locB n p := by
  funext h nk
  by_cases hk : 1 ≤ h.kind ∧ h.kind ≤ 14
  · obtain ⟨k, hkk⟩ : ∃ k, h.kind = k := ⟨_, rfl⟩
    rw [hkk] at hk
    rcases (by omega : k = 1 ∨ k = 2 ∨ k = 3 ∨ k = 4 ∨ k = 5 ∨ k = 6 ∨ k = 7 ∨ k = 8 ∨ k = 9 ∨ k = 10 ∨ k = 11 ∨ k = 12 ∨ k = 13 ∨ k = 14) with rfl | rfl | rfl | rfl | rfl | rfl | rfl | rfl | rfl | rfl | rfl | rfl | rfl | rfl
    all_goals
      have z1 : h.occur.length = 0 → h.occur.all occB = true := list_nil_all
      have z2 : h.offs.length = 0 → h.offs.all offB = true := list_nil_all
      rw [Bool.eq_iff_iff]
      simp only [rlocB, locB, bareB, askB, numB, lstB, hasOf, multi, off_eq, hkk, Int.reduceToNat, Bool.and_eq_true, Bool.or_eq_true, Bool.not_eq_true', decide_eq_true_eq, beq_iff_eq]
      generalize h.occur.all occB = q1 at *
      generalize h.offs.all offB = q2 at *
      generalize h.occur.length = n1 at *
      generalize h.offs.length = n2 at *
      generalize h.terms.length = n3 at *
      generalize h.text.size = n4 at *
      generalize noEnd h.lo = q3 at *
      generalize noEnd h.hi = q4 at *
      generalize okEnd h.lo = q5 at *
      generalize okEnd h.hi = q6 at *
      generalize inR h.field n = q7 at *
      generalize pat h.text 0 = q8 at *
      simp
      grind
  · have e1 : (decide (1 ≤ h.kind) && decide (h.kind ≤ 14)) = false := by
      rw [Bool.and_eq_false_iff, decide_eq_false_iff_not, decide_eq_false_iff_not]
      omega
    unfold rlocB locB
    rw [e1]
    simp

end Go.Proofs.YtkcfgcdlnojaeaaGreatDoor.TextPlain

namespace Go.Proofs.YtkcfgcdlnojaeaaGreatDoor.TextLine
open Go.RowKit Go.PlainAid Base Query Quoted TextPlain

def num (x : Int) : List UInt8 := [32] ++ Lib.decDigits x.toNat
def endL (b : Bnd) : List UInt8 := if b.op then [42] else if b.inn then [61] ++ quoteL b.text else [33] ++ quoteL b.text
def term1 (t : ByteArray) (o : Int) : List UInt8 := [32] ++ quoteL t ++ [64] ++ Lib.decDigits o.toNat
def termsL (ts : List ByteArray) (os : List Int) (k : Nat) : List UInt8 := (List.range k).flatMap fun i => term1 (ts[i]?.getD ByteArray.empty) (os[i]?.getD 0)
theorem termsL_succ (ts : List ByteArray) (os : List Int) (k : Nat) : termsL ts os (k + 1) = termsL ts os k ++ term1 (ts[k]?.getD ByteArray.empty) (os[k]?.getD 0) := by simp [termsL, List.range_succ]
def occL : Option Int → List UInt8
  | some 1 => [43]
  | some 2 => [45]
  | _ => []
def bodyL (h : Head) : List UInt8 :=
  if h.kind = 3 then num h.field
  else if h.kind = 4 then num h.field ++ [32] ++ quoteL h.text ++ num h.weight
  else if h.kind = 5 then num h.field ++ num h.n ++ num h.weight ++ termsL h.terms h.offs h.terms.length
  else if h.kind = 6 ∨ h.kind = 7 then num h.field ++ [32] ++ quoteL h.text
  else if h.kind = 8 then num h.field ++ num h.n ++ [32] ++ quoteL h.text
  else if h.kind = 9 then num h.field ++ [32] ++ endL h.lo ++ [32] ++ endL h.hi
  else if h.kind = 10 then num h.n
  else if h.kind = 13 ∨ h.kind = 14 then num h.weight
  else []
mutual
def lineL : Qry → List UInt8
  | .mk h ks => if h.kind = 1 ∨ h.kind = 2 then (hasOf h.kind.toNat).n else [40] ++ (hasOf h.kind.toNat).n ++ bodyL h ++ kidsL ks h.occur 0 ++ [41]
def kidsL : List Qry → List Int → Nat → List UInt8
  | [], _, _ => []
  | k :: r, oc, i => [32] ++ occL oc[i]? ++ lineL k ++ kidsL r oc (i + 1)
end
theorem kidsL_append (oc : List Int) : ∀ (a b : List Qry) (j : Nat), kidsL (a ++ b) oc j = kidsL a oc j ++ kidsL b oc (j + a.length)
  | [], b, j => by simp [kidsL]
  | k :: r, b, j => by simp only [List.cons_append, kidsL, kidsL_append oc r b (j + 1), List.length_cons, List.append_assoc]; rw [show j + 1 + r.length = j + (r.length + 1) by omega]
theorem kidsL_take {oc : List Int} {ks : List Qry} {i : Nat} {k : Qry} (h : ks[i]? = some k) : kidsL (ks.take (i + 1)) oc 0 = kidsL (ks.take i) oc 0 ++ ([32] ++ occL oc[i]? ++ lineL k) := by
  rw [List.take_add_one, h, kidsL_append]
  have hi : i < ks.length := (List.getElem?_eq_some_iff.1 h).1
  simp only [Option.toList_some, kidsL, List.append_nil, Nat.zero_add, List.length_take]
  rw [Nat.min_eq_left (by omega)]

def hbulk (h : Head) : Nat := 1 + h.text.size + (h.terms.map fun t => t.size + 1).sum + h.offs.length + h.occur.length + h.lo.text.size + h.hi.text.size
mutual
def bulk : Qry → Nat
  | .mk h ks => hbulk h + bulks ks
def bulks : List Qry → Nat
  | [] => 0
  | q :: r => bulk q + bulks r
end
theorem bulks_append : ∀ a b : List Qry, bulks (a ++ b) = bulks a + bulks b
  | [], b => by simp [bulks]
  | q :: r, b => by simp only [List.cons_append, bulks, bulks_append r b]; omega
theorem bulks_take {ks : List Qry} {i : Nat} {k : Qry} (h : ks[i]? = some k) : bulks (ks.take i) + bulk k ≤ bulks ks := by
  have hi : i < ks.length := (List.getElem?_eq_some_iff.1 h).1
  have e : ks = ks.take (i + 1) ++ ks.drop (i + 1) := (List.take_append_drop _ _).symm
  have h2 : bulks ks = bulks (ks.take (i + 1)) + bulks (ks.drop (i + 1)) := (congrArg bulks e).trans (bulks_append _ _)
  rw [List.take_add_one, h, bulks_append] at h2
  simp only [Option.toList_some, bulks] at h2
  omega

def wtB (h : Head) (_ : Nat) : Bool := decide (0 ≤ h.weight) && decide (h.weight < 18446744073709551616)
theorem wt_of {w : World} {B : Nat} {cs : List Value} {q : Qry} (h : QVal w B cs q) : goodBy wtB q = true := by
  induction h with
  | mk hd ks A1 A2 A3 A4 c1 c2 c3 c4 cs hw hk h1 h2 h3 h4 h5 ih =>
    simp only [goodBy, goodsBy_all, Bool.and_eq_true, List.all_eq_true]
    refine ⟨?_, fun k hk => ?_⟩
    · have := hw.weight
      rw [Lit.wf, Bool.and_eq_true, decide_eq_true_eq, decide_eq_true_eq] at this
      have e1 : IntKind.u64.min = 0 := by kernel_rfl
      have e2 : IntKind.u64.max = 18446744073709551615 := by kernel_rfl
      rw [e1, e2] at this
      simp [wtB]
      omega
    · obtain ⟨i, hi⟩ := List.getElem?_of_mem hk
      exact ih i k hi

theorem dd_len {u : Nat} (h : u < 18446744073709551616) : (Lib.decDigits u).length ≤ 20 := by
  rw [Lib.decDigits_length]
  by_cases h0 : u < 1
  · rw [Lib.nDigits_small (by omega)]; omega
  · have h1 := Lib.numDigits_eq u (by omega) h
    split at h1 <;> omega
theorem num_len {x : Int} (h : x < 18446744073709551616) : (num x).length ≤ 21 := by
  unfold num
  have := dd_len (u := x.toNat) (by omega)
  simp only [List.length_append, List.length_cons, List.length_nil]
  omega
theorem quote_len (t : ByteArray) : (quoteL t).length ≤ 3 * t.size + 2 := by
  unfold quoteL
  have := qfrom_len t t.size
  simp
  omega
theorem end_len (b : Bnd) : (endL b).length ≤ 3 * b.text.size + 3 := by
  unfold endL
  have := quote_len b.text
  split
  · simp
  · split <;> (simp only [List.length_append, List.length_cons, List.length_nil]; omega)
theorem term1_len (t : ByteArray) {o : Int} (h : o < 18446744073709551616) : (term1 t o).length ≤ 3 * t.size + 24 := by
  unfold term1
  have := dd_len (u := o.toNat) (by omega)
  have := quote_len t
  simp only [List.length_append, List.length_cons, List.length_nil]
  omega
theorem terms_len (ts : List ByteArray) (os : List Int) (ho : ∀ o ∈ os, o < 18446744073709551616) (k : Nat) (hk : k ≤ ts.length) : (termsL ts os k).length ≤ 24 * ((ts.take k).map fun t => t.size + 1).sum := by
  induction k with
  | zero => simp [termsL]
  | succ k ih =>
    have h1 := ih (by omega)
    have h2 := List.getElem?_eq_getElem (l := ts) (i := k) (by omega)
    have h3 : (os[k]?.getD 0) < 18446744073709551616 := by
      cases e : os[k]? with
      | none => simp
      | some o => exact ho o (List.mem_of_getElem? e)
    have h4 := term1_len (ts[k]?.getD ByteArray.empty) h3
    rw [h2] at h4
    simp only [Option.getD_some] at h4
    rw [termsL_succ, List.length_append, List.take_add_one, h2, List.map_append, List.sum_append]
    simp only [Option.toList_some, List.map_cons, List.map_nil, List.sum_cons, List.sum_nil, Option.getD_some]
    omega
theorem name_len (k : Nat) : (hasOf k).n.length ≤ 6 := by
  unfold hasOf
  split <;> simp
theorem occ_len (o : Option Int) : (occL o).length ≤ 1 := by
  unfold occL
  split <;> simp

theorem body_len {n : Int} {p : Bool} {h : Head} {nk : Nat} (hn : n ≤ 1000) (hg : locB n p h nk = true) (hw : wtB h nk = true) : (bodyL h).length ≤ 70 + 24 * hbulk h := by
  simp only [wtB, Bool.and_eq_true, decide_eq_true_eq] at hw
  simp only [locB, numB, lstB, Bool.and_eq_true, decide_eq_true_eq, List.all_eq_true] at hg
  obtain ⟨⟨⟨⟨⟨k1, k2⟩, _⟩, ⟨⟨⟨⟨⟨hf, _⟩, _⟩, hn0⟩, hm⟩, _⟩⟩, ⟨_, ho⟩⟩, _⟩ := hg
  have ho' : ∀ o ∈ h.offs, o < 18446744073709551616 := fun o hm => by
    have := ho o hm
    simp [offB] at this
    omega
  have hm' : h.n < 18446744073709551616 := by
    have : (hasOf h.kind.toNat).m ≤ 999999999 := by unfold hasOf; split <;> simp
    omega
  have hf' : h.field < 18446744073709551616 := by
    split at hf
    · simp [inR] at hf; omega
    · simp at hf; omega
  have q1 := num_len hf'
  have q2 := num_len hm'
  have q3 := num_len hw.2
  have q4 := quote_len h.text
  have q5 := end_len h.lo
  have q6 := end_len h.hi
  have q7 := terms_len h.terms h.offs ho' _ (Nat.le_refl _)
  rw [List.take_length] at q7
  unfold bodyL hbulk
  split
  · omega
  · split
    · simp only [List.length_append, List.length_cons, List.length_nil]; omega
    · split
      · simp only [List.length_append, List.length_cons, List.length_nil]; omega
      · split
        · simp only [List.length_append, List.length_cons, List.length_nil]; omega
        · split
          · simp only [List.length_append, List.length_cons, List.length_nil]; omega
          · split
            · simp only [List.length_append, List.length_cons, List.length_nil]; omega
            · split
              · omega
              · split
                · omega
                · simp

theorem kids_len {ks : List Qry} (oc : List Int) (h : ∀ k ∈ ks, (lineL k).length + 4 ≤ 128 * bulk k) : ∀ j, (kidsL ks oc j).length + 2 * ks.length ≤ 128 * bulks ks := by
  induction ks with
  | nil => intro j; simp [kidsL, bulks]
  | cons k r ih =>
    intro j
    have h1 := h k (by simp)
    have h2 := ih (fun x hx => h x (by simp [hx])) (j + 1)
    have h3 := occ_len oc[j]?
    simp only [kidsL, bulks, List.length_append, List.length_cons, List.length_nil]
    omega
theorem line_len {n : Int} {p : Bool} (hn : n ≤ 1000) (q : Qry) (hg : goodBy (locB n p) q = true) (hw : goodBy wtB q = true) : (lineL q).length + 4 ≤ 128 * bulk q := by
  induction q using Qry.ind with
  | h q ih =>
    obtain ⟨h, ks⟩ := q
    simp only [goodBy, goodsBy_all, Bool.and_eq_true, List.all_eq_true] at hg hw
    have hb := body_len hn hg.1 hw.1
    simp only [Qry.kids] at ih
    have hk := kids_len h.occur (fun k hk => ih k hk (hg.2 k hk) (hw.2 k hk)) 0
    have hm := name_len h.kind.toNat
    have h1 : 1 ≤ hbulk h := by unfold hbulk; omega
    simp only [lineL, bulk]
    split
    · omega
    · simp only [List.length_append, List.length_cons, List.length_nil]
      omega
end Go.Proofs.YtkcfgcdlnojaeaaGreatDoor.TextLine
