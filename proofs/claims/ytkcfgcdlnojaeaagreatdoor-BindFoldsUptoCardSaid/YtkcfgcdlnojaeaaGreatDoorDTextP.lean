/-
  What a good query is, and its text, in plain Lean.
  A good query's text, in plain Lean, and how long it is.
  Two good queries with one text are one query, in plain Lean.
-/
import Derived.Test.YtkcfgcdlnojaeaaGreatDoorDQry
import Derived.Lib.ItoaNum
import Derived.Test.YtkcfgcdlnojaeaaGreatDoorDByt
set_option linter.unusedVariables false
set_option linter.unusedSimpArgs false
namespace Go.Proofs.YtkcfgcdlnojaeaaGreatDoor.TextPlain
open Go.RowKit Go.PlainAid Base Query

def inR (f n : Int) : Bool := decide (0 ≤ f) && decide (f < n)
def okEnd (b : Bnd) : Bool := !b.op || (!b.inn && b.text.size == 0)
def noEnd (b : Bnd) : Bool := !b.op && !b.inn && b.text.size == 0
/-- A pattern from its i-th byte on: each escape has a byte behind it. -/
def pat (s : ByteArray) (i : Nat) : Bool :=
  if i < s.size then if bt s i = 92 then if i + 1 < s.size then pat s (i + 2) else false else pat s (i + 1) else true
termination_by s.size - i

/-- What a kind of query has. -/
structure Has where
  a : Bool
  b : Bool
  c : Bool
  m : Int
  d : Bool
  e : Bool
  f : Bool
  k : Int
  p : Bool
  n : List UInt8
def hasOf : Nat → Has
  | 1 => ⟨false, false, false, 0, false, false, false, 0, true, [110, 111, 110, 101]⟩
  | 2 => ⟨false, false, false, 0, false, false, false, 0, true, [97, 108, 108]⟩
  | 3 => ⟨true, false, false, 0, false, false, false, 0, true, [104, 97, 115]⟩
  | 4 => ⟨true, true, true, 0, false, false, false, 0, true, [116, 101, 114, 109]⟩
  | 5 => ⟨true, false, true, 999999999, false, true, false, 0, true, [112, 104, 114, 97, 115, 101]⟩
  | 6 => ⟨true, true, false, 0, false, false, false, 0, false, [112, 114, 101, 102, 105, 120]⟩
  | 7 => ⟨true, true, false, 0, false, false, false, 0, false, [119, 105, 108, 100]⟩
  | 8 => ⟨true, true, false, 2, false, false, false, 0, false, [102, 117, 122, 122, 121]⟩
  | 9 => ⟨true, false, false, 0, true, false, false, 0, false, [115, 112, 97, 110]⟩
  | 10 => ⟨false, false, false, 999999999, false, false, true, -1, true, [108, 105, 115, 116]⟩
  | 11 => ⟨false, false, false, 0, false, false, false, -1, true, [109, 97, 120]⟩
  | 12 => ⟨false, false, false, 0, false, false, false, 1, true, [110, 111, 116]⟩
  | 13 => ⟨false, false, true, 0, false, false, false, 1, true, [98, 111, 111, 115, 116]⟩
  | 14 => ⟨false, false, true, 0, false, false, false, 1, true, [99, 111, 110, 115, 116]⟩
  | _ => ⟨false, false, false, 0, false, false, false, 0, false, []⟩

def numB (x : Has) (n : Int) (h : Head) : Bool :=
  (if x.a then inR h.field n else h.field == 0) && (x.b || h.text.size == 0) && (x.c || h.weight == 0) && decide (0 ≤ h.n) && decide (h.n ≤ x.m) && (if x.d then okEnd h.lo && okEnd h.hi else noEnd h.lo && noEnd h.hi)
def occB (o : Int) : Bool := o == 0 || o == 1 || o == 2
def offB (o : Int) : Bool := decide (0 ≤ o) && decide (o < 2147483647)
def lstB (x : Has) (nk : Nat) (h : Head) : Bool :=
  (if 0 ≤ x.k then (nk : Int) == x.k else nk != 0) && (if x.f then h.occur.length == nk else h.occur.length == 0) && h.occur.all occB && h.offs.length == h.terms.length && (x.e == (h.terms.length != 0)) && h.offs.all offB
/-- By the program's rows: is what a query holds beside its kids good? -/
def locB (n : Int) (p : Bool) (h : Head) (nk : Nat) : Bool :=
  decide (1 ≤ h.kind) && decide (h.kind ≤ 14) && (!p || (hasOf h.kind.toNat).p) && numB (hasOf h.kind.toNat) n h && lstB (hasOf h.kind.toNat) nk h && (h.kind != 7 || pat h.text 0)

mutual
def goodBy (P : Head → Nat → Bool) : Qry → Bool
  | .mk h ks => P h ks.length && goodsBy P ks
def goodsBy (P : Head → Nat → Bool) : List Qry → Bool
  | [] => true
  | q :: r => goodBy P q && goodsBy P r
end
theorem goodsBy_all (P : Head → Nat → Bool) : ∀ l : List Qry, goodsBy P l = l.all (goodBy P)
  | [] => by simp [goodsBy]
  | q :: r => by simp [goodsBy, goodsBy_all P r]
def good (n : Int) (p : Bool) (q : Qry) : Bool := goodBy (locB n p) q

/-- By the document. -/
def bareB (h : Head) (nk : Nat) : Bool :=
  ((decide (3 ≤ h.kind) && decide (h.kind ≤ 9)) || h.field == 0) && (h.kind == 4 || h.kind == 6 || h.kind == 7 || h.kind == 8 || h.text.size == 0) && (h.kind == 5 || h.kind == 8 || h.kind == 10 || h.n == 0) &&
    (h.kind == 4 || h.kind == 5 || h.kind == 13 || h.kind == 14 || h.weight == 0) && (h.kind == 9 || (noEnd h.lo && noEnd h.hi)) && (h.kind == 5 || h.terms.length == 0) && (h.kind == 5 || h.offs.length == 0) &&
    (h.kind == 10 || h.occur.length == 0) && (decide (10 ≤ h.kind) || nk == 0)
def offR (o : Int) : Bool := decide (0 ≤ o) && decide (o ≤ 2147483646)
def askB (h : Head) (nk : Nat) : Bool :=
  if h.kind = 5 then decide (0 < h.terms.length) && h.offs.length == h.terms.length && decide (0 ≤ h.n) && decide (h.n ≤ 999999999) && h.offs.all offR
  else if h.kind = 7 then pat h.text 0
  else if h.kind = 8 then decide (0 ≤ h.n) && decide (h.n ≤ 2)
  else if h.kind = 9 then okEnd h.lo && okEnd h.hi
  else if h.kind = 10 then decide (0 < nk) && h.occur.length == nk && decide (0 ≤ h.n) && decide (h.n ≤ 999999999) && h.occur.all occB
  else if h.kind = 11 then decide (0 < nk)
  else if 12 ≤ h.kind then nk == 1
  else true
def multi (k : Int) : Bool := k == 6 || k == 7 || k == 8 || k == 9
def rlocB (n : Int) (p : Bool) (h : Head) (nk : Nat) : Bool :=
  decide (1 ≤ h.kind) && decide (h.kind ≤ 14) && !(p && multi h.kind) && (!(decide (3 ≤ h.kind) && decide (h.kind ≤ 9)) || inR h.field n) && bareB h nk && askB h nk

theorem off_eq : offR = offB := by
  funext o
  unfold offR offB
  congr 1
  rw [decide_eq_decide]
  omega
theorem wf_len {n : Nat} : (n == 0) = true ↔ n = 0 := beq_iff_eq

theorem list_nil_all {α : Type} {l : List α} {f : α → Bool} (h : l.length = 0) : l.all f = true := by
  rw [List.eq_nil_of_length_eq_zero h]; rfl

theorem loc_eq (n : Int) (p : Bool) : rlocB n p = locB n p := by
  funext h nk
  by_cases hk : 1 ≤ h.kind ∧ h.kind ≤ 14
  · obtain ⟨k, hkk⟩ : ∃ k, h.kind = k := ⟨_, rfl⟩
    rw [hkk] at hk
    rcases (by omega : k = 1 ∨ k = 2 ∨ k = 3 ∨ k = 4 ∨ k = 5 ∨ k = 6 ∨ k = 7 ∨ k = 8 ∨ k = 9 ∨ k = 10 ∨ k = 11 ∨ k = 12 ∨ k = 13 ∨ k = 14) with rfl | rfl | rfl | rfl | rfl | rfl | rfl | rfl | rfl | rfl | rfl | rfl | rfl | rfl
    all_goals
      have z1 : h.occur.length = 0 → h.occur.all occB = true := list_nil_all
      have z2 : h.offs.length = 0 → h.offs.all offB = true := list_nil_all
      rw [Bool.eq_iff_iff]
      simp only [rlocB, locB, bareB, askB, numB, lstB, hasOf, multi, off_eq, hkk, Int.reduceToNat, Bool.and_eq_true, Bool.or_eq_true, Bool.not_eq_true', decide_eq_true_eq, beq_iff_eq]
      generalize h.occur.all occB = q1 at *
      generalize h.offs.all offB = q2 at *
      generalize h.occur.length = n1 at *
      generalize h.offs.length = n2 at *
      generalize h.terms.length = n3 at *
      generalize h.text.size = n4 at *
      generalize noEnd h.lo = q3 at *
      generalize noEnd h.hi = q4 at *
      generalize okEnd h.lo = q5 at *
      generalize okEnd h.hi = q6 at *
      generalize inR h.field n = q7 at *
      generalize pat h.text 0 = q8 at *
      simp
      grind
  · have e1 : (decide (1 ≤ h.kind) && decide (h.kind ≤ 14)) = false := by
      rw [Bool.and_eq_false_iff, decide_eq_false_iff_not, decide_eq_false_iff_not]
      omega
    unfold rlocB locB
    rw [e1]
    simp

end Go.Proofs.YtkcfgcdlnojaeaaGreatDoor.TextPlain

namespace Go.Proofs.YtkcfgcdlnojaeaaGreatDoor.TextLine
open Go.RowKit Go.PlainAid Base Query Quoted TextPlain

def num (x : Int) : List UInt8 := [32] ++ Lib.decDigits x.toNat
def endL (b : Bnd) : List UInt8 := if b.op then [42] else if b.inn then [61] ++ quoteL b.text else [33] ++ quoteL b.text
def term1 (t : ByteArray) (o : Int) : List UInt8 := [32] ++ quoteL t ++ [64] ++ Lib.decDigits o.toNat
def termsL (ts : List ByteArray) (os : List Int) (k : Nat) : List UInt8 := (List.range k).flatMap fun i => term1 (ts[i]?.getD ByteArray.empty) (os[i]?.getD 0)
theorem termsL_succ (ts : List ByteArray) (os : List Int) (k : Nat) : termsL ts os (k + 1) = termsL ts os k ++ term1 (ts[k]?.getD ByteArray.empty) (os[k]?.getD 0) := by simp [termsL, List.range_succ]
def occL : Option Int → List UInt8
  | some 1 => [43]
  | some 2 => [45]
  | _ => []
/-- What stands between the name and the kids. -/
def bodyL (h : Head) : List UInt8 :=
  if h.kind = 3 then num h.field
  else if h.kind = 4 then num h.field ++ [32] ++ quoteL h.text ++ num h.weight
  else if h.kind = 5 then num h.field ++ num h.n ++ num h.weight ++ termsL h.terms h.offs h.terms.length
  else if h.kind = 6 ∨ h.kind = 7 then num h.field ++ [32] ++ quoteL h.text
  else if h.kind = 8 then num h.field ++ num h.n ++ [32] ++ quoteL h.text
  else if h.kind = 9 then num h.field ++ [32] ++ endL h.lo ++ [32] ++ endL h.hi
  else if h.kind = 10 then num h.n
  else if h.kind = 13 ∨ h.kind = 14 then num h.weight
  else []
mutual
def lineL : Qry → List UInt8
  | .mk h ks => if h.kind = 1 ∨ h.kind = 2 then (hasOf h.kind.toNat).n else [40] ++ (hasOf h.kind.toNat).n ++ bodyL h ++ kidsL ks h.occur 0 ++ [41]
def kidsL : List Qry → List Int → Nat → List UInt8
  | [], _, _ => []
  | k :: r, oc, i => [32] ++ occL oc[i]? ++ lineL k ++ kidsL r oc (i + 1)
end
theorem kidsL_append (oc : List Int) : ∀ (a b : List Qry) (j : Nat), kidsL (a ++ b) oc j = kidsL a oc j ++ kidsL b oc (j + a.length)
  | [], b, j => by simp [kidsL]
  | k :: r, b, j => by simp only [List.cons_append, kidsL, kidsL_append oc r b (j + 1), List.length_cons, List.append_assoc]; rw [show j + 1 + r.length = j + (r.length + 1) by omega]
theorem kidsL_take {oc : List Int} {ks : List Qry} {i : Nat} {k : Qry} (h : ks[i]? = some k) : kidsL (ks.take (i + 1)) oc 0 = kidsL (ks.take i) oc 0 ++ ([32] ++ occL oc[i]? ++ lineL k) := by
  rw [List.take_add_one, h, kidsL_append]
  have hi : i < ks.length := (List.getElem?_eq_some_iff.1 h).1
  simp only [Option.toList_some, kidsL, List.append_nil, Nat.zero_add, List.length_take]
  rw [Nat.min_eq_left (by omega)]

/-- How much a query holds. -/
def hbulk (h : Head) : Nat := 1 + h.text.size + (h.terms.map fun t => t.size + 1).sum + h.offs.length + h.occur.length + h.lo.text.size + h.hi.text.size
mutual
def bulk : Qry → Nat
  | .mk h ks => hbulk h + bulks ks
def bulks : List Qry → Nat
  | [] => 0
  | q :: r => bulk q + bulks r
end
theorem bulks_append : ∀ a b : List Qry, bulks (a ++ b) = bulks a + bulks b
  | [], b => by simp [bulks]
  | q :: r, b => by simp only [List.cons_append, bulks, bulks_append r b]; omega
theorem bulks_take {ks : List Qry} {i : Nat} {k : Qry} (h : ks[i]? = some k) : bulks (ks.take i) + bulk k ≤ bulks ks := by
  have hi : i < ks.length := (List.getElem?_eq_some_iff.1 h).1
  have e : ks = ks.take (i + 1) ++ ks.drop (i + 1) := (List.take_append_drop _ _).symm
  have h2 : bulks ks = bulks (ks.take (i + 1)) + bulks (ks.drop (i + 1)) := (congrArg bulks e).trans (bulks_append _ _)
  rw [List.take_add_one, h, bulks_append] at h2
  simp only [Option.toList_some, bulks] at h2
  omega

/-- Its weights fit. -/
def wtB (h : Head) (_ : Nat) : Bool := decide (0 ≤ h.weight) && decide (h.weight < 18446744073709551616)
theorem wt_of {w : World} {B : Nat} {cs : List Value} {q : Qry} (h : QVal w B cs q) : goodBy wtB q = true := by
  induction h with
  | mk hd ks A1 A2 A3 A4 c1 c2 c3 c4 cs hw hk h1 h2 h3 h4 h5 ih =>
    simp only [goodBy, goodsBy_all, Bool.and_eq_true, List.all_eq_true]
    refine ⟨?_, fun k hk => ?_⟩
    · have := hw.weight
      rw [Lit.wf, Bool.and_eq_true, decide_eq_true_eq, decide_eq_true_eq] at this
      have e1 : IntKind.u64.min = 0 := by kernel_rfl
      have e2 : IntKind.u64.max = 18446744073709551615 := by kernel_rfl
      rw [e1, e2] at this
      simp [wtB]
      omega
    · obtain ⟨i, hi⟩ := List.getElem?_of_mem hk
      exact ih i k hi

theorem dd_len {u : Nat} (h : u < 18446744073709551616) : (Lib.decDigits u).length ≤ 20 := by
  rw [Lib.decDigits_length]
  by_cases h0 : u < 1
  · rw [Lib.nDigits_small (by omega)]; omega
  · have h1 := Lib.numDigits_eq u (by omega) h
    split at h1 <;> omega
theorem num_len {x : Int} (h : x < 18446744073709551616) : (num x).length ≤ 21 := by
  unfold num
  have := dd_len (u := x.toNat) (by omega)
  simp only [List.length_append, List.length_cons, List.length_nil]
  omega
theorem quote_len (t : ByteArray) : (quoteL t).length ≤ 3 * t.size + 2 := by
  unfold quoteL
  have := qfrom_len t t.size
  simp
  omega
theorem end_len (b : Bnd) : (endL b).length ≤ 3 * b.text.size + 3 := by
  unfold endL
  have := quote_len b.text
  split
  · simp
  · split <;> (simp only [List.length_append, List.length_cons, List.length_nil]; omega)
theorem term1_len (t : ByteArray) {o : Int} (h : o < 18446744073709551616) : (term1 t o).length ≤ 3 * t.size + 24 := by
  unfold term1
  have := dd_len (u := o.toNat) (by omega)
  have := quote_len t
  simp only [List.length_append, List.length_cons, List.length_nil]
  omega
theorem terms_len (ts : List ByteArray) (os : List Int) (ho : ∀ o ∈ os, o < 18446744073709551616) (k : Nat) (hk : k ≤ ts.length) : (termsL ts os k).length ≤ 24 * ((ts.take k).map fun t => t.size + 1).sum := by
  induction k with
  | zero => simp [termsL]
  | succ k ih =>
    have h1 := ih (by omega)
    have h2 := List.getElem?_eq_getElem (l := ts) (i := k) (by omega)
    have h3 : (os[k]?.getD 0) < 18446744073709551616 := by
      cases e : os[k]? with
      | none => simp
      | some o => exact ho o (List.mem_of_getElem? e)
    have h4 := term1_len (ts[k]?.getD ByteArray.empty) h3
    rw [h2] at h4
    simp only [Option.getD_some] at h4
    rw [termsL_succ, List.length_append, List.take_add_one, h2, List.map_append, List.sum_append]
    simp only [Option.toList_some, List.map_cons, List.map_nil, List.sum_cons, List.sum_nil, Option.getD_some]
    omega
theorem name_len (k : Nat) : (hasOf k).n.length ≤ 6 := by
  unfold hasOf
  split <;> simp
theorem occ_len (o : Option Int) : (occL o).length ≤ 1 := by
  unfold occL
  split <;> simp

theorem body_len {n : Int} {p : Bool} {h : Head} {nk : Nat} (hn : n ≤ 1000) (hg : locB n p h nk = true) (hw : wtB h nk = true) : (bodyL h).length ≤ 70 + 24 * hbulk h := by
  simp only [wtB, Bool.and_eq_true, decide_eq_true_eq] at hw
  simp only [locB, numB, lstB, Bool.and_eq_true, decide_eq_true_eq, List.all_eq_true] at hg
  obtain ⟨⟨⟨⟨⟨k1, k2⟩, _⟩, ⟨⟨⟨⟨⟨hf, _⟩, _⟩, hn0⟩, hm⟩, _⟩⟩, ⟨_, ho⟩⟩, _⟩ := hg
  have ho' : ∀ o ∈ h.offs, o < 18446744073709551616 := fun o hm => by
    have := ho o hm
    simp [offB] at this
    omega
  have hm' : h.n < 18446744073709551616 := by
    have : (hasOf h.kind.toNat).m ≤ 999999999 := by unfold hasOf; split <;> simp
    omega
  have hf' : h.field < 18446744073709551616 := by
    split at hf
    · simp [inR] at hf; omega
    · simp at hf; omega
  have q1 := num_len hf'
  have q2 := num_len hm'
  have q3 := num_len hw.2
  have q4 := quote_len h.text
  have q5 := end_len h.lo
  have q6 := end_len h.hi
  have q7 := terms_len h.terms h.offs ho' _ (Nat.le_refl _)
  rw [List.take_length] at q7
  unfold bodyL hbulk
  split
  · omega
  · split
    · simp only [List.length_append, List.length_cons, List.length_nil]; omega
    · split
      · simp only [List.length_append, List.length_cons, List.length_nil]; omega
      · split
        · simp only [List.length_append, List.length_cons, List.length_nil]; omega
        · split
          · simp only [List.length_append, List.length_cons, List.length_nil]; omega
          · split
            · simp only [List.length_append, List.length_cons, List.length_nil]; omega
            · split
              · omega
              · split
                · omega
                · simp

theorem kids_len {ks : List Qry} (oc : List Int) (h : ∀ k ∈ ks, (lineL k).length + 4 ≤ 128 * bulk k) : ∀ j, (kidsL ks oc j).length + 2 * ks.length ≤ 128 * bulks ks := by
  induction ks with
  | nil => intro j; simp [kidsL, bulks]
  | cons k r ih =>
    intro j
    have h1 := h k (by simp)
    have h2 := ih (fun x hx => h x (by simp [hx])) (j + 1)
    have h3 := occ_len oc[j]?
    simp only [kidsL, bulks, List.length_append, List.length_cons, List.length_nil]
    omega
theorem line_len {n : Int} {p : Bool} (hn : n ≤ 1000) (q : Qry) (hg : goodBy (locB n p) q = true) (hw : goodBy wtB q = true) : (lineL q).length + 4 ≤ 128 * bulk q := by
  induction q using Qry.ind with
  | h q ih =>
    obtain ⟨h, ks⟩ := q
    simp only [goodBy, goodsBy_all, Bool.and_eq_true, List.all_eq_true] at hg hw
    have hb := body_len hn hg.1 hw.1
    simp only [Qry.kids] at ih
    have hk := kids_len h.occur (fun k hk => ih k hk (hg.2 k hk) (hw.2 k hk)) 0
    have hm := name_len h.kind.toNat
    have h1 : 1 ≤ hbulk h := by unfold hbulk; omega
    simp only [lineL, bulk]
    split
    · omega
    · simp only [List.length_append, List.length_cons, List.length_nil]
      omega
end Go.Proofs.YtkcfgcdlnojaeaaGreatDoor.TextLine

namespace Go.Proofs.YtkcfgcdlnojaeaaGreatDoor.TextOne
open Go.RowKit Go.PlainAid Base Query Quoted TextPlain TextLine

def isDig (c : UInt8) : Bool := decide (48 ≤ c.toNat) && decide (c.toNat ≤ 57)
/-- It does not begin with a digit. -/
def NoDig (r : List UInt8) : Prop := ∀ c t, r = c :: t → isDig c = false
theorem nodig_cons {c : UInt8} (h : isDig c = false) (t : List UInt8) : NoDig (c :: t) := fun d u e => by cases e; exact h

theorem dig_of {n : Nat} (h : n < 10) : isDig (UInt8.ofNat (48 + n)) = true := by
  unfold isDig
  rw [UInt8.toNat_ofNat']
  simp
  omega
theorem dd_all (u : Nat) : ∀ c ∈ Lib.decDigits u, isDig c = true := by
  induction u using Nat.strongRecOn with
  | _ u ih =>
    rw [Lib.decDigits]
    split
    · intro c hc
      simp only [List.mem_singleton] at hc
      subst hc
      exact dig_of (by omega)
    · intro c hc
      rcases List.mem_append.1 hc with hc | hc
      · exact ih (u / 10) (by omega) c hc
      · simp only [List.mem_singleton] at hc
        subst hc
        exact dig_of (by omega)
def val (l : List UInt8) : Nat := l.foldl (fun a c => 10 * a + (c.toNat - 48)) 0
theorem val_dd (u : Nat) : val (Lib.decDigits u) = u := by
  induction u using Nat.strongRecOn with
  | _ u ih =>
    rw [Lib.decDigits]
    split
    · simp only [val, List.foldl_cons, List.foldl_nil, UInt8.toNat_ofNat']
      omega
    · have h := ih (u / 10) (by omega)
      unfold val at h ⊢
      rw [List.foldl_append, h]
      simp only [List.foldl_cons, List.foldl_nil, UInt8.toNat_ofNat']
      omega
theorem takeWhile_digs {l r : List UInt8} (h : ∀ c ∈ l, isDig c = true) (hr : NoDig r) : (l ++ r).takeWhile isDig = l := by
  induction l with
  | nil =>
    cases r with
    | nil => rfl
    | cons c t => simp [List.takeWhile_cons, hr c t rfl]
  | cons c l ih =>
    rw [List.cons_append, List.takeWhile_cons, if_pos (h c (by simp)), ih fun d hd => h d (by simp [hd])]
theorem dig_inj {a b : Nat} {r s : List UInt8} (h : Lib.decDigits a ++ r = Lib.decDigits b ++ s) (hr : NoDig r) (hs : NoDig s) : a = b ∧ r = s := by
  have h1 := congrArg (List.takeWhile isDig) h
  rw [takeWhile_digs (dd_all a) hr, takeWhile_digs (dd_all b) hs] at h1
  have h2 := congrArg val h1
  rw [val_dd, val_dd] at h2
  subst h2
  exact ⟨rfl, List.append_cancel_left h⟩
theorem num_inj {x y : Int} {r s : List UInt8} (hx : 0 ≤ x) (hy : 0 ≤ y) (h : num x ++ r = num y ++ s) (hr : NoDig r) (hs : NoDig s) : x = y ∧ r = s := by
  unfold num at h
  rw [List.append_assoc, List.append_assoc] at h
  obtain ⟨h1, h2⟩ := dig_inj (List.append_cancel_left h) hr hs
  exact ⟨by omega, h2⟩

theorem qfrom_list (s : ByteArray) : qfrom s s.size = s.data.toList.flatMap fun b => qb b.toNat := by
  have key : ∀ k, k ≤ s.size → qfrom s k = (s.data.toList.take k).flatMap fun b => qb b.toNat := by
    intro k
    induction k with
    | zero => intro _; simp [qfrom]
    | succ k ih =>
      intro hk
      rw [qfrom_succ, ih (by omega), List.take_add_one]
      have hk' : k < s.data.toList.length := by rw [Array.length_toList]; exact hk
      rw [List.getElem?_eq_getElem hk']
      simp only [Option.toList_some, List.flatMap_append, List.flatMap_cons, List.flatMap_nil, List.append_nil]
      congr 2
      exact (get_bt s k (by omega)).symm
  rw [key _ (Nat.le_refl _), List.take_of_length_le (by rw [Array.length_toList]; exact Nat.le_refl _)]
theorem hexd_inj {a b : Nat} (ha : a < 16) (hb : b < 16) (h : hexd a = hexd b) : a = b := by
  have key : ∀ a b : Fin 16, hexd a.val = hexd b.val → a = b := by decide
  exact congrArg Fin.val (key ⟨a, ha⟩ ⟨b, hb⟩ h)
theorem ofNat_inj {a b : UInt8} (h : UInt8.ofNat ((a.toNat : Int)).toNat = UInt8.ofNat ((b.toNat : Int)).toNat) : a = b := by
  simpa using h
theorem qb_cases (b : UInt8) : (∃ x y, qb b.toNat = [92, x, y] ∧ x = hexd (b.toNat / 16) ∧ y = hexd (b.toNat % 16)) ∨ (qb b.toNat = [b] ∧ b ≠ 34 ∧ b ≠ 92) := by
  unfold qb
  by_cases h : odd b.toNat = true
  · rw [if_pos h]
    refine .inl ⟨_, _, rfl, ?_, ?_⟩
    · congr 1
    · congr 1
  · rw [if_neg h]
    have h' : odd b.toNat = false := by simpa using h
    obtain ⟨_, _, h3, h4⟩ := odd_iff h'
    refine .inr ⟨by simp, fun e => ?_, fun e => ?_⟩
    · subst e; exact h3 rfl
    · subst e; exact h4 rfl
theorem esc_inj : ∀ (l m : List UInt8) (r s : List UInt8), (l.flatMap fun b => qb b.toNat) ++ 34 :: r = (m.flatMap fun b => qb b.toNat) ++ 34 :: s → l = m ∧ r = s
  | [], [], r, s, h => by simpa using h
  | [], b :: m, r, s, h => by
    rcases qb_cases b with ⟨x, y, e, _, _⟩ | ⟨e, h1, _⟩
    · simp [e] at h
    · simp [e] at h
      exact absurd h.1.symm h1
  | b :: l, [], r, s, h => by
    rcases qb_cases b with ⟨x, y, e, _, _⟩ | ⟨e, h1, _⟩
    · simp [e] at h
    · simp [e] at h
      exact absurd h.1 h1
  | b :: l, c :: m, r, s, h => by
    have hb := b.toNat_lt
    have hc := c.toNat_lt
    rcases qb_cases b with ⟨x, y, e, ex, ey⟩ | ⟨e, h1, h2⟩ <;> rcases qb_cases c with ⟨z, t, e', ez, et⟩ | ⟨e', h1', h2'⟩
    · simp only [List.flatMap_cons, e, e', List.cons_append, List.nil_append, List.cons.injEq, true_and] at h
      obtain ⟨i1, i2, i3⟩ := h
      have j1 := hexd_inj (by omega) (by omega) (ex.symm.trans (i1.trans ez))
      have j2 := hexd_inj (by omega) (by omega) (ey.symm.trans (i2.trans et))
      have j3 : b = c := UInt8.toNat_inj.1 (by omega)
      obtain ⟨k1, k2⟩ := esc_inj l m r s i3
      exact ⟨by rw [j3, k1], k2⟩
    · simp only [List.flatMap_cons, e, e', List.cons_append, List.nil_append, List.cons.injEq] at h
      exact absurd h.1.symm h2'
    · simp only [List.flatMap_cons, e, e', List.cons_append, List.nil_append, List.cons.injEq] at h
      exact absurd h.1 h2
    · simp only [List.flatMap_cons, e, e', List.cons_append, List.nil_append, List.cons.injEq] at h
      obtain ⟨k1, k2⟩ := esc_inj l m r s h.2
      exact ⟨by rw [h.1, k1], k2⟩
theorem ba_ext {s t : ByteArray} (h : s.data.toList = t.data.toList) : s = t := by
  cases s; cases t
  simpa using h
theorem quote_inj {s t : ByteArray} {r u : List UInt8} (h : quoteL s ++ r = quoteL t ++ u) : s = t ∧ r = u := by
  unfold quoteL at h
  rw [qfrom_list, qfrom_list] at h
  simp only [List.append_assoc, List.cons_append, List.nil_append, List.cons.injEq, true_and] at h
  obtain ⟨h1, h2⟩ := esc_inj _ _ _ _ h
  exact ⟨ba_ext h1, h2⟩

theorem size0 {s : ByteArray} (h : s.size = 0) : s = ByteArray.empty := ba_ext (by
  have : s.data.toList.length = 0 := by rw [Array.length_toList]; exact h
  rw [List.eq_nil_of_length_eq_zero this]; rfl)
theorem noEnd_eq {b : Bnd} (h : noEnd b = true) : b = ⟨false, false, ByteArray.empty⟩ := by
  obtain ⟨o, i, t⟩ := b
  simp only [noEnd, Bool.and_eq_true, Bool.not_eq_true', beq_iff_eq] at h
  obtain ⟨⟨rfl, rfl⟩, h⟩ := h
  rw [size0 h]
theorem end_inj {b c : Bnd} {r s : List UInt8} (hb : okEnd b = true) (hc : okEnd c = true) (h : endL b ++ r = endL c ++ s) : b = c ∧ r = s := by
  obtain ⟨o, i, t⟩ := b
  obtain ⟨o', i', t'⟩ := c
  simp only [okEnd, Bool.or_eq_true, Bool.and_eq_true, Bool.not_eq_true', beq_iff_eq] at hb hc
  unfold endL at h
  cases o <;> cases o'
  · cases i <;> cases i'
    · simp only [List.append_assoc, List.cons_append, List.nil_append, List.cons.injEq, true_and, reduceIte, Bool.false_eq_true] at h
      obtain ⟨rfl, h2⟩ := quote_inj h
      exact ⟨rfl, h2⟩
    · simp at h
    · simp at h
    · simp only [List.append_assoc, List.cons_append, List.nil_append, List.cons.injEq, true_and, reduceIte, Bool.false_eq_true] at h
      obtain ⟨rfl, h2⟩ := quote_inj h
      exact ⟨rfl, h2⟩
  · cases i <;> simp at h
  · cases i' <;> simp at h
  · simp at hb hc h
    obtain ⟨rfl, e⟩ := hb
    obtain ⟨rfl, e'⟩ := hc
    subst e e'
    exact ⟨rfl, h⟩

theorem nodig32 (t : List UInt8) : NoDig (32 :: t) := nodig_cons (by decide) t
theorem nodig41 (t : List UInt8) : NoDig (41 :: t) := nodig_cons (by decide) t
theorem term1_inj {t u : ByteArray} {o p : Int} {r s : List UInt8} (ho : 0 ≤ o) (hp : 0 ≤ p) (h : term1 t o ++ r = term1 u p ++ s) (hr : NoDig r) (hs : NoDig s) : t = u ∧ o = p ∧ r = s := by
  unfold term1 at h
  simp only [List.append_assoc, List.cons_append, List.nil_append, List.cons.injEq, true_and] at h
  obtain ⟨h1, h2⟩ := quote_inj h
  simp only [List.cons.injEq, true_and] at h2
  obtain ⟨h3, h4⟩ := dig_inj h2 hr hs
  exact ⟨h1, by omega, h4⟩

/-- The terms, one behind another. -/
def tl : List ByteArray → List Int → List UInt8
  | t :: ts, o :: os => term1 t o ++ tl ts os
  | _, _ => []
theorem tl_snoc : ∀ (ts : List ByteArray) (os : List Int) (t : ByteArray) (o : Int), ts.length = os.length → tl (ts ++ [t]) (os ++ [o]) = tl ts os ++ term1 t o
  | [], [], t, o, _ => by simp [tl]
  | t :: ts, o :: os, u, p, h => by simp only [List.cons_append, tl, tl_snoc ts os u p (by simpa using h), List.append_assoc]
theorem termsL_tl (ts : List ByteArray) (os : List Int) (h : os.length = ts.length) : termsL ts os ts.length = tl ts os := by
  have key : ∀ k, k ≤ ts.length → termsL ts os k = tl (ts.take k) (os.take k) := by
    intro k
    induction k with
    | zero => intro _; simp [termsL, tl]
    | succ k ih =>
      intro hk
      rw [termsL_succ, ih (by omega), List.take_add_one, List.take_add_one, List.getElem?_eq_getElem (l := ts) (i := k) (by omega), List.getElem?_eq_getElem (l := os) (i := k) (by omega)]
      simp only [Option.toList_some, Option.getD_some]
      rw [tl_snoc _ _ _ _ (by simp; omega)]
  rw [key _ (Nat.le_refl _), List.take_length, ← h, List.take_length]
theorem tl_nodig (ts : List ByteArray) (os : List Int) (r : List UInt8) : NoDig (tl ts os ++ 41 :: r) := by
  cases ts with
  | nil => simp [tl]; exact nodig41 r
  | cons t ts =>
    cases os with
    | nil => simp [tl]; exact nodig41 r
    | cons o os => simp [tl, term1]; exact nodig32 _
theorem tl_inj : ∀ (ts us : List ByteArray) (os ps : List Int) (r s : List UInt8), os.length = ts.length → ps.length = us.length → (∀ o ∈ os, 0 ≤ o) → (∀ o ∈ ps, 0 ≤ o) → tl ts os ++ 41 :: r = tl us ps ++ 41 :: s → ts = us ∧ os = ps ∧ r = s
  | [], [], [], [], r, s, _, _, _, _, h => by simpa [tl] using h
  | [], u :: us, [], p :: ps, r, s, _, _, _, _, h => by simp [tl, term1] at h
  | t :: ts, [], o :: os, [], r, s, _, _, _, _, h => by simp [tl, term1] at h
  | t :: ts, u :: us, o :: os, p :: ps, r, s, h1, h2, h3, h4, h => by
    simp only [tl, List.append_assoc] at h
    obtain ⟨e1, e2, e3⟩ := term1_inj (h3 o (by simp)) (h4 p (by simp)) h (tl_nodig _ _ _) (tl_nodig _ _ _)
    obtain ⟨e4, e5, e6⟩ := tl_inj ts us os ps r s (by simpa using h1) (by simpa using h2) (fun o ho => h3 o (by simp [ho])) (fun o ho => h4 o (by simp [ho])) e3
    exact ⟨by rw [e1, e4], by rw [e2, e5], e6⟩

/-- Its first byte. -/
theorem line_head (q : Qry) {n : Int} {p : Bool} (hg : goodBy (locB n p) q = true) : ∃ c t, lineL q = c :: t ∧ (c = 40 ∨ c = 97 ∨ c = 110) := by
  obtain ⟨h, ks⟩ := q
  simp only [lineL]
  split
  · rename_i hk
    rcases hk with hk | hk <;> rw [hk] <;> exact ⟨_, _, rfl, by decide⟩
  · exact ⟨_, _, rfl, .inl rfl⟩
theorem occ_cases (o : Option Int) : occL o = [] ∨ occL o = [43] ∨ occL o = [45] := by
  unfold occL
  split <;> simp
theorem occ_inj {o p : Option Int} {x y r s : List UInt8} {c d : UInt8} (hc : c = 40 ∨ c = 97 ∨ c = 110) (hd : d = 40 ∨ d = 97 ∨ d = 110) (hx : x = c :: r) (hy : y = d :: s) (h : occL o ++ x = occL p ++ y) : occL o = occL p ∧ x = y := by
  subst hx hy
  rcases occ_cases o with e | e | e <;> rcases occ_cases p with f | f | f <;> rw [e, f] at h ⊢ <;> simp at h ⊢
  · exact h
  all_goals first | exact h | (rcases hc with rfl | rfl | rfl <;> rcases hd with rfl | rfl | rfl <;> simp at h)

theorem kids_inj {n : Int} {p : Bool} {oc od : List Int} : ∀ (ks ls : List Qry) (i : Nat) (r s : List UInt8),
    (∀ k ∈ ks, ∀ l ∈ ls, goodBy (locB n p) k = true → goodBy (locB n p) l = true → ∀ r s, lineL k ++ r = lineL l ++ s → k = l ∧ r = s) → (∀ k ∈ ks, goodBy (locB n p) k = true) → (∀ k ∈ ls, goodBy (locB n p) k = true) →
    kidsL ks oc i ++ 41 :: r = kidsL ls od i ++ 41 :: s → ks = ls ∧ r = s ∧ ∀ j, j < ks.length → occL oc[i + j]? = occL od[i + j]?
  | [], [], i, r, s, _, _, _, h => by simp [kidsL] at h; exact ⟨rfl, h, fun j hj => by simp at hj⟩
  | [], l :: ls, i, r, s, _, _, _, h => by simp [kidsL] at h
  | k :: ks, [], i, r, s, _, _, _, h => by simp [kidsL] at h
  | k :: ks, l :: ls, i, r, s, ih, h1, h2, h => by
    simp only [kidsL, List.append_assoc, List.cons_append, List.nil_append, List.cons.injEq, true_and] at h
    obtain ⟨c, t, e, hc⟩ := line_head k (h1 k (by simp))
    obtain ⟨d, u, f, hd⟩ := line_head l (h2 l (by simp))
    obtain ⟨h3, h4⟩ := occ_inj hc hd (by rw [e]; rfl) (by rw [f]; rfl) h
    obtain ⟨h5, h6⟩ := ih k (by simp) l (by simp) (h1 k (by simp)) (h2 l (by simp)) _ _ h4
    obtain ⟨h7, h8, h9⟩ := kids_inj ks ls (i + 1) r s (fun x hx y hy => ih x (by simp [hx]) y (by simp [hy])) (fun x hx => h1 x (by simp [hx])) (fun x hx => h2 x (by simp [hx])) h6
    refine ⟨by rw [h5, h7], h8, fun j hj => ?_⟩
    cases j with
    | zero => exact h3
    | succ j =>
      have := h9 j (by simpa using hj)
      rw [show i + 1 + j = i + (j + 1) by omega] at this
      exact this
theorem occL_inj {x y : Int} (hx : occB x = true) (hy : occB y = true) (h : occL (some x) = occL (some y)) : x = y := by
  simp only [occB, Bool.or_eq_true, beq_iff_eq] at hx hy
  rcases hx with (rfl | rfl) | rfl <;> rcases hy with (rfl | rfl) | rfl <;> simp [occL] at h ⊢
theorem occur_eq {oc od : List Int} {n : Nat} (h1 : oc.length = n) (h2 : od.length = n) (g1 : oc.all occB = true) (g2 : od.all occB = true) (h : ∀ j, j < n → occL oc[0 + j]? = occL od[0 + j]?) : oc = od := by
  apply List.ext_getElem (by omega)
  intro j hj hj2
  have := h j (by omega)
  rw [Nat.zero_add, List.getElem?_eq_getElem hj, List.getElem?_eq_getElem hj2] at this
  exact occL_inj (List.all_eq_true.1 g1 _ (List.getElem_mem hj)) (List.all_eq_true.1 g2 _ (List.getElem_mem hj2)) this

theorem cut32 : ∀ (l m x y : List UInt8), (∀ c ∈ l, c ≠ 32) → (∀ c ∈ m, c ≠ 32) → l ++ 32 :: x = m ++ 32 :: y → l = m ∧ x = y
  | [], [], x, y, _, _, h => by simpa using h
  | [], c :: m, x, y, _, h2, h => by simp at h; exact absurd h.1.symm (h2 c (by simp))
  | c :: l, [], x, y, h1, _, h => by simp at h; exact absurd h.1 (h1 c (by simp))
  | c :: l, d :: m, x, y, h1, h2, h => by
    simp only [List.cons_append, List.cons.injEq] at h
    obtain ⟨e1, e2⟩ := cut32 l m x y (fun c hc => h1 c (by simp [hc])) (fun c hc => h2 c (by simp [hc])) h.2
    exact ⟨by rw [h.1, e1], e2⟩
theorem name_no32 (k : Nat) : ∀ c ∈ (hasOf k).n, c ≠ 32 := by
  intro c hc
  unfold hasOf at hc
  split at hc <;> simp at hc <;> rcases hc with rfl | rfl | rfl | rfl | rfl | rfl <;> first | decide | simp_all
theorem name_inj {a b : Nat} (ha : 1 ≤ a ∧ a ≤ 14) (hb : 1 ≤ b ∧ b ≤ 14) (h : (hasOf a).n = (hasOf b).n) : a = b := by
  have key : ∀ a b : Fin 15, 1 ≤ a.val → 1 ≤ b.val → (hasOf a.val).n = (hasOf b.val).n → a = b := by decide +kernel
  exact congrArg Fin.val (key ⟨a, by omega⟩ ⟨b, by omega⟩ ha.1 hb.1 h)

/-- What a good head says, plainly. -/
structure Ok (x : Has) (n : Int) (nk : Nat) (h : Head) : Prop where
  f0 : x.a = false → h.field = 0
  f1 : x.a = true → 0 ≤ h.field
  t0 : x.b = false → h.text = ByteArray.empty
  w0 : x.c = false → h.weight = 0
  n0 : 0 ≤ h.n
  n1 : h.n ≤ x.m
  l0 : x.d = false → h.lo = ⟨false, false, ByteArray.empty⟩
  h0 : x.d = false → h.hi = ⟨false, false, ByteArray.empty⟩
  l1 : x.d = true → okEnd h.lo = true
  h1 : x.d = true → okEnd h.hi = true
  k0 : x.k = 0 → nk = 0
  k1 : x.k = 1 → nk = 1
  k2 : x.k = -1 → 0 < nk
  o0 : x.f = false → h.occur = []
  o1 : x.f = true → h.occur.length = nk
  o2 : h.occur.all occB = true
  s0 : h.offs.length = h.terms.length
  s1 : x.e = false → h.terms = []
  s2 : ∀ o ∈ h.offs, 0 ≤ o
theorem ok_of {n : Int} {p : Bool} {h : Head} {nk : Nat} (hg : locB n p h nk = true) : 1 ≤ h.kind ∧ h.kind ≤ 14 ∧ Ok (hasOf h.kind.toNat) n nk h := by
  simp only [locB, numB, lstB, Bool.and_eq_true, decide_eq_true_eq] at hg
  obtain ⟨⟨⟨⟨⟨k1, k2⟩, _⟩, ⟨⟨⟨⟨⟨hf, ht⟩, hw⟩, hn0⟩, hm⟩, hd⟩⟩, ⟨⟨⟨⟨⟨hk, ho⟩, hoc⟩, hlen⟩, he⟩, hoff⟩⟩, _⟩ := hg
  generalize hasOf h.kind.toNat = x at *
  refine ⟨k1, k2, ⟨fun e => ?_, fun e => ?_, fun e => ?_, fun e => ?_, hn0, hm, fun e => ?_, fun e => ?_, fun e => ?_, fun e => ?_, fun e => ?_, fun e => ?_, fun e => ?_, fun e => ?_, fun e => ?_, hoc, by simpa using hlen, fun e => ?_, fun o hm => ?_⟩⟩
  · simpa [e] using hf
  · simp [e, inR] at hf; exact hf.1
  · rw [e] at ht; exact size0 (by simpa using ht)
  · rw [e] at hw; simpa using hw
  · simp [e] at hd; exact noEnd_eq hd.1
  · simp [e] at hd; exact noEnd_eq hd.2
  · simp [e] at hd; exact hd.1
  · simp [e] at hd; exact hd.2
  · simpa [e] using hk
  · rw [e] at hk; simp at hk; omega
  · rw [e] at hk; simp at hk; omega
  · simpa [e] using ho
  · simpa [e] using ho
  · rw [e] at he; simpa using he
  · have := List.all_eq_true.1 hoff o hm
    simp [offB] at this
    exact this.1
theorem head_eq {x : Has} {n : Int} {a b : Nat} {h g : Head} (hh : Ok x n a h) (hg : Ok x n b g) (ek : h.kind = g.kind) (e1 : x.a = true → h.field = g.field) (e2 : x.b = true → h.text = g.text) (e3 : x.c = true → h.weight = g.weight) (e4 : x.m ≠ 0 → h.n = g.n)
    (e5 : x.d = true → h.lo = g.lo ∧ h.hi = g.hi) (e6 : x.e = true → h.terms = g.terms ∧ h.offs = g.offs) (e7 : x.f = true → h.occur = g.occur) : h = g := by
  have i1 : h.field = g.field := by cases e : x.a with | true => exact e1 e | false => rw [hh.f0 e, hg.f0 e]
  have i2 : h.text = g.text := by cases e : x.b with | true => exact e2 e | false => rw [hh.t0 e, hg.t0 e]
  have i3 : h.weight = g.weight := by cases e : x.c with | true => exact e3 e | false => rw [hh.w0 e, hg.w0 e]
  have i4 : h.n = g.n := by
    by_cases e : x.m = 0
    · have := hh.n0; have := hh.n1; have := hg.n0; have := hg.n1; omega
    · exact e4 e
  have i5 : h.lo = g.lo ∧ h.hi = g.hi := by cases e : x.d with | true => exact e5 e | false => rw [hh.l0 e, hg.l0 e, hh.h0 e, hg.h0 e]; exact ⟨rfl, rfl⟩
  have i6 : h.terms = g.terms ∧ h.offs = g.offs := by
    cases e : x.e with
    | true => exact e6 e
    | false =>
      have a1 := hh.s1 e
      have a2 := hg.s1 e
      refine ⟨by rw [a1, a2], ?_⟩
      have b1 := hh.s0; have b2 := hg.s0
      rw [a1] at b1
      rw [a2] at b2
      rw [List.eq_nil_of_length_eq_zero b1, List.eq_nil_of_length_eq_zero b2]
  have i7 : h.occur = g.occur := by cases e : x.f with | true => exact e7 e | false => rw [hh.o0 e, hg.o0 e]
  cases h; cases g
  simp only [Head.mk.injEq]
  exact ⟨ek, i1, i2, i6.1, i6.2, i4, i3, i5.1, i5.2, i7⟩
theorem body_start {h : Head} {n : Int} {ks : List Qry} (hk : 3 ≤ h.kind ∧ h.kind ≤ 14) (ok : Ok (hasOf h.kind.toNat) n ks.length h) (r : List UInt8) : ∃ y, bodyL h ++ (kidsL ks h.occur 0 ++ 41 :: r) = 32 :: y := by
  have kk : 0 < ks.length → ∃ y, kidsL ks h.occur 0 = 32 :: y := by
    intro hl
    cases ks with
    | nil => simp at hl
    | cons k ks => exact ⟨_, by simp only [kidsL, List.append_assoc, List.cons_append, List.nil_append]; rfl⟩
  obtain ⟨k, e⟩ : ∃ k, k = h.kind := ⟨_, rfl⟩
  rw [← e] at hk ok
  rcases (by omega : k = 3 ∨ k = 4 ∨ k = 5 ∨ k = 6 ∨ k = 7 ∨ k = 8 ∨ k = 9 ∨ k = 10 ∨ k = 11 ∨ k = 12 ∨ k = 13 ∨ k = 14) with rfl | rfl | rfl | rfl | rfl | rfl | rfl | rfl | rfl | rfl | rfl | rfl
  all_goals first
    | exact ⟨_, by simp only [bodyL, ← e, num, List.append_assoc, List.cons_append, List.nil_append, reduceIte]; simp; rfl⟩
    | (obtain ⟨y, hy⟩ := kk (by first | exact ok.k2 rfl | (have := ok.k1 rfl; omega))
       exact ⟨_, by rw [hy]; simp [bodyL, ← e]; rfl⟩)
end Go.Proofs.YtkcfgcdlnojaeaaGreatDoor.TextOne
