/-
  The walks of bind.none, bind.kinds and the laws' schema.
  What a good query is, and its text, in plain Lean.
  The walk of bind's numbers over whatever row and query.
  The walk of bind's lists over whatever row and query.
  Loads that are known.
-/
import Derived.Test.YtfpikilhbkeajaaGreatDoorCQry
import Derived.Test.YtfpikilhbkeajaaGreatDoorBase
import Derived.Deep.WholeRow
import Derived.Lib.ItoaNum
import Derived.Deep.Cut
set_option linter.unusedVariables false
set_option linter.unusedSimpArgs false
namespace Go.Proofs.YtfpikilhbkeajaaGreatDoor.BindBase
set_option maxRecDepth 100000
open Go.RowKit Go.PlainAid Base Query

theorem results_cell {fn : Func} {t : Tmp} {ty : TypeId} (h : fn.results = #[.cell t ty]) {tmps : Array Value} {P : Program} {w : World} {a : Addr} {v : Value} (ht : tmps.getD t undef = .pointer (some a)) (hv : (loadVar ty a).run P w = .ok v w) :
    (results fn tmps).run P w = .ok v w := by
  have ht' : tmps[t]?.getD undef = .pointer (some a) := by simpa using ht
  simp [results, h, ht', hv, asAddr]

def bareQ (k f : Int) (t : ByteArray) : Array Value :=
  #[.int .i64 k, .int .i64 f, .string t, .slice none 0 0, .slice none 0 0, .int .i64 0, .int .u64 0, .bool false, .bool false, .string ⟨#[]⟩, .bool false, .bool false, .string ⟨#[]⟩, .slice none 0 0, .slice none 0 0]

def hasR (a b c : Bool) (m : Int) (d e f : Bool) (k : Int) (p : Bool) (n : List UInt8) : List Value := [.bool a, .bool b, .bool c, .int .i64 m, .bool d, .bool e, .bool f, .int .i64 k, .bool p, .string ⟨n.toArray⟩]
def kindRow : Nat → List Value
  | 1 => hasR false false false 0 false false false 0 true [110, 111, 110, 101]
  | 2 => hasR false false false 0 false false false 0 true [97, 108, 108]
  | 3 => hasR true false false 0 false false false 0 true [104, 97, 115]
  | 4 => hasR true true true 0 false false false 0 true [116, 101, 114, 109]
  | 5 => hasR true false true 999999999 false true false 0 true [112, 104, 114, 97, 115, 101]
  | 6 => hasR true true false 0 false false false 0 false [112, 114, 101, 102, 105, 120]
  | 7 => hasR true true false 0 false false false 0 false [119, 105, 108, 100]
  | 8 => hasR true true false 2 false false false 0 false [102, 117, 122, 122, 121]
  | 9 => hasR true false false 0 true false false 0 false [115, 112, 97, 110]
  | 10 => hasR false false false 999999999 false false true (-1) true [108, 105, 115, 116]
  | 11 => hasR false false false 0 false false false (-1) true [109, 97, 120]
  | 12 => hasR false false false 0 false false false 1 true [110, 111, 116]
  | 13 => hasR false false true 0 false false false 1 true [98, 111, 111, 115, 116]
  | 14 => hasR false false true 0 false false false 1 true [99, 111, 110, 115, 116]
  | _ => hasR false false false 0 false false false 0 false []
def kindsL : List Value := kindRow 0 ++ kindRow 1 ++ kindRow 2 ++ kindRow 3 ++ kindRow 4 ++ kindRow 5 ++ kindRow 6 ++ kindRow 7 ++ kindRow 8 ++ kindRow 9 ++ kindRow 10 ++ kindRow 11 ++ kindRow 12 ++ kindRow 13 ++ kindRow 14
def kindsA : Array Value := kindsL.toArray

theorem store_eq {P : Program} {a : Addr} {X Y : List Value} {W W' : World} {α : Type} {f : Unit → World → Result α} {G : Result α → Prop} (h : X = Y) (h2 : (storeCells a Y 0).run P W = .ok () W') (h3 : G (f () W')) :
    G (((storeCells a X 0).run P W).andThen f) := by
  subst h; rw [h2]; exact h3
theorem kindsInfo : (Tryz.prog.info? 143).map (·.size) = some kindsA.size := by kernel_rfl
theorem kindsUnd : Tryz.prog.underlying 143 = some (.array 15 142) := by kernel_rfl
theorem kindsOne : kindsA.all (·.oneCell') = true := by kernel_rfl

set_option maxHeartbeats 4000000 in
theorem kinds_any (w : World) : Calls Tryz.prog 68 #[] w fun e w' => e = .returned (.agg kindsA) ∧ Below w.heap.size w w' := by
  go_enter Tryz.func68, Tryz.ntmps68
  go_wp2_with fail
  refine store_eq (G := Oper.upon _ _ _ _ _) (Y := kindsA.toList) (by kernel_rfl) (run_storeCells_new w 143 _ kindsA kindsInfo (by kernel_rfl) kindsOne) ?_
  generalize (Value.agg _) = X
  go_wp2_with fail
  exact bodyPost_ret (results_cell rfl rfl (run_loadVar_new w 143 kindsA 15 142 kindsUnd kindsInfo)) rfl ⟨rfl, (by exact Base.bel)⟩
theorem qrow {w : World} {g : Nat} {t : TypeId} {v0 v1 v2 v3 v4 v5 v6 v7 v8 v9 v10 v11 v12 v13 v14 : Value} (h : Blk w g t #[v0, v1, v2, v3, v4, v5, v6, v7, v8, v9, v10, v11, v12, v13, v14]) : w.cell? ⟨g, 0, none⟩ = some v0 ∧ w.cell? ⟨g, 1, none⟩ = some v1 ∧ w.cell? ⟨g, 2, none⟩ = some v2 ∧ w.cell? ⟨g, 3, none⟩ = some v3 ∧ w.cell? ⟨g, 4, none⟩ = some v4 ∧ w.cell? ⟨g, 5, none⟩ = some v5 ∧ w.cell? ⟨g, 6, none⟩ = some v6 ∧ w.cell? ⟨g, 7, none⟩ = some v7 ∧ w.cell? ⟨g, 8, none⟩ = some v8 ∧ w.cell? ⟨g, 9, none⟩ = some v9 ∧ w.cell? ⟨g, 10, none⟩ = some v10 ∧ w.cell? ⟨g, 11, none⟩ = some v11 ∧ w.cell? ⟨g, 12, none⟩ = some v12 ∧ w.cell? ⟨g, 13, none⟩ = some v13 ∧ w.cell? ⟨g, 14, none⟩ = some v14 :=
  ⟨h.cell 0, h.cell 1, h.cell 2, h.cell 3, h.cell 4, h.cell 5, h.cell 6, h.cell 7, h.cell 8, h.cell 9, h.cell 10, h.cell 11, h.cell 12, h.cell 13, h.cell 14⟩
theorem hrow {w : World} {g : Nat} {t : TypeId} {v0 v1 v2 v3 v4 v5 v6 v7 v8 v9 : Value} (h : Blk w g t #[v0, v1, v2, v3, v4, v5, v6, v7, v8, v9]) : w.cell? ⟨g, 0, none⟩ = some v0 ∧ w.cell? ⟨g, 1, none⟩ = some v1 ∧ w.cell? ⟨g, 2, none⟩ = some v2 ∧ w.cell? ⟨g, 3, none⟩ = some v3 ∧ w.cell? ⟨g, 4, none⟩ = some v4 ∧ w.cell? ⟨g, 5, none⟩ = some v5 ∧ w.cell? ⟨g, 6, none⟩ = some v6 ∧ w.cell? ⟨g, 7, none⟩ = some v7 ∧ w.cell? ⟨g, 8, none⟩ = some v8 ∧ w.cell? ⟨g, 9, none⟩ = some v9 :=
  ⟨h.cell 0, h.cell 1, h.cell 2, h.cell 3, h.cell 4, h.cell 5, h.cell 6, h.cell 7, h.cell 8, h.cell 9⟩

end Go.Proofs.YtfpikilhbkeajaaGreatDoor.BindBase

namespace Go.Proofs.YtfpikilhbkeajaaGreatDoor.TextPlain
open Go.RowKit Go.PlainAid Base Query

def inR (f n : Int) : Bool := decide (0 ≤ f) && decide (f < n)
def okEnd (b : Bnd) : Bool := !b.op || (!b.inn && b.text.size == 0)
def noEnd (b : Bnd) : Bool := !b.op && !b.inn && b.text.size == 0
def pat (s : ByteArray) (i : Nat) : Bool :=
  if i < s.size then if bt s i = 92 then if i + 1 < s.size then pat s (i + 2) else false else pat s (i + 1) else true
termination_by s.size - i

structure Has where
  a : Bool
  b : Bool
  c : Bool
  m : Int
  d : Bool
  e : Bool
  f : Bool
  k : Int
  p : Bool
  n : List UInt8
def hasOf : Nat → Has
  | 1 => ⟨false, false, false, 0, false, false, false, 0, true, [110, 111, 110, 101]⟩
  | 2 => ⟨false, false, false, 0, false, false, false, 0, true, [97, 108, 108]⟩
  | 3 => ⟨true, false, false, 0, false, false, false, 0, true, [104, 97, 115]⟩
  | 4 => ⟨true, true, true, 0, false, false, false, 0, true, [116, 101, 114, 109]⟩
  | 5 => ⟨true, false, true, 999999999, false, true, false, 0, true, [112, 104, 114, 97, 115, 101]⟩
  | 6 => ⟨true, true, false, 0, false, false, false, 0, false, [112, 114, 101, 102, 105, 120]⟩
  | 7 => ⟨true, true, false, 0, false, false, false, 0, false, [119, 105, 108, 100]⟩
  | 8 => ⟨true, true, false, 2, false, false, false, 0, false, [102, 117, 122, 122, 121]⟩
  | 9 => ⟨true, false, false, 0, true, false, false, 0, false, [115, 112, 97, 110]⟩
  | 10 => ⟨false, false, false, 999999999, false, false, true, -1, true, [108, 105, 115, 116]⟩
  | 11 => ⟨false, false, false, 0, false, false, false, -1, true, [109, 97, 120]⟩
  | 12 => ⟨false, false, false, 0, false, false, false, 1, true, [110, 111, 116]⟩
  | 13 => ⟨false, false, true, 0, false, false, false, 1, true, [98, 111, 111, 115, 116]⟩
  | 14 => ⟨false, false, true, 0, false, false, false, 1, true, [99, 111, 110, 115, 116]⟩
  | _ => ⟨false, false, false, 0, false, false, false, 0, false, []⟩

def numB (x : Has) (n : Int) (h : Head) : Bool :=
  (if x.a then inR h.field n else h.field == 0) && (x.b || h.text.size == 0) && (x.c || h.weight == 0) && decide (0 ≤ h.n) && decide (h.n ≤ x.m) && (if x.d then okEnd h.lo && okEnd h.hi else noEnd h.lo && noEnd h.hi)
def occB (o : Int) : Bool := o == 0 || o == 1 || o == 2
def offB (o : Int) : Bool := decide (0 ≤ o) && decide (o < 2147483647)
def lstB (x : Has) (nk : Nat) (h : Head) : Bool :=
  (if 0 ≤ x.k then (nk : Int) == x.k else nk != 0) && (if x.f then h.occur.length == nk else h.occur.length == 0) && h.occur.all occB && h.offs.length == h.terms.length && (x.e == (h.terms.length != 0)) && h.offs.all offB
def locB (n : Int) (p : Bool) (h : Head) (nk : Nat) : Bool :=
  decide (1 ≤ h.kind) && decide (h.kind ≤ 14) && (!p || (hasOf h.kind.toNat).p) && numB (hasOf h.kind.toNat) n h && lstB (hasOf h.kind.toNat) nk h && (h.kind != 7 || pat h.text 0)

mutual
def goodBy (P : Head → Nat → Bool) : Qry → Bool
  | .mk h ks => P h ks.length && goodsBy P ks
def goodsBy (P : Head → Nat → Bool) : List Qry → Bool
  | [] => true
  | q :: r => goodBy P q && goodsBy P r
end
theorem goodsBy_all (P : Head → Nat → Bool) : ∀ l : List Qry, goodsBy P l = l.all (goodBy P)
  | [] => by simp [goodsBy]
  | q :: r => by simp [goodsBy, goodsBy_all P r]
def good (n : Int) (p : Bool) (q : Qry) : Bool := goodBy (locB n p) q

def bareB (h : Head) (nk : Nat) : Bool :=
  ((decide (3 ≤ h.kind) && decide (h.kind ≤ 9)) || h.field == 0) && (h.kind == 4 || h.kind == 6 || h.kind == 7 || h.kind == 8 || h.text.size == 0) && (h.kind == 5 || h.kind == 8 || h.kind == 10 || h.n == 0) &&
    (h.kind == 4 || h.kind == 5 || h.kind == 13 || h.kind == 14 || h.weight == 0) && (h.kind == 9 || (noEnd h.lo && noEnd h.hi)) && (h.kind == 5 || h.terms.length == 0) && (h.kind == 5 || h.offs.length == 0) &&
    (h.kind == 10 || h.occur.length == 0) && (decide (10 ≤ h.kind) || nk == 0)
def offR (o : Int) : Bool := decide (0 ≤ o) && decide (o ≤ 2147483646)
def askB (h : Head) (nk : Nat) : Bool :=
  if h.kind = 5 then decide (0 < h.terms.length) && h.offs.length == h.terms.length && decide (0 ≤ h.n) && decide (h.n ≤ 999999999) && h.offs.all offR
  else if h.kind = 7 then pat h.text 0
  else if h.kind = 8 then decide (0 ≤ h.n) && decide (h.n ≤ 2)
  else if h.kind = 9 then okEnd h.lo && okEnd h.hi
  else if h.kind = 10 then decide (0 < nk) && h.occur.length == nk && decide (0 ≤ h.n) && decide (h.n ≤ 999999999) && h.occur.all occB
  else if h.kind = 11 then decide (0 < nk)
  else if 12 ≤ h.kind then nk == 1
  else true
def multi (k : Int) : Bool := k == 6 || k == 7 || k == 8 || k == 9
def rlocB (n : Int) (p : Bool) (h : Head) (nk : Nat) : Bool :=
  decide (1 ≤ h.kind) && decide (h.kind ≤ 14) && !(p && multi h.kind) && (!(decide (3 ≤ h.kind) && decide (h.kind ≤ 9)) || inR h.field n) && bareB h nk && askB h nk

theorem off_eq : offR = offB := by
  funext o
  unfold offR offB
  congr 1
  rw [decide_eq_decide]
  omega
theorem wf_len {n : Nat} : (n == 0) = true ↔ n = 0 := beq_iff_eq

theorem list_nil_all {α : Type} {l : List α} {f : α → Bool} (h : l.length = 0) : l.all f = true := by
  rw [List.eq_nil_of_length_eq_zero h]; rfl

theorem loc_eq (n : Int) (p : Bool) : rlocB n p = locB n p := by
  funext h nk
  by_cases hk : 1 ≤ h.kind ∧ h.kind ≤ 14
  · obtain ⟨k, hkk⟩ : ∃ k, h.kind = k := ⟨_, rfl⟩
    rw [hkk] at hk
    rcases (by omega : k = 1 ∨ k = 2 ∨ k = 3 ∨ k = 4 ∨ k = 5 ∨ k = 6 ∨ k = 7 ∨ k = 8 ∨ k = 9 ∨ k = 10 ∨ k = 11 ∨ k = 12 ∨ k = 13 ∨ k = 14) with rfl | rfl | rfl | rfl | rfl | rfl | rfl | rfl | rfl | rfl | rfl | rfl | rfl | rfl
    all_goals
      have z1 : h.occur.length = 0 → h.occur.all occB = true := list_nil_all
      have z2 : h.offs.length = 0 → h.offs.all offB = true := list_nil_all
      rw [Bool.eq_iff_iff]
      simp only [rlocB, locB, bareB, askB, numB, lstB, hasOf, multi, off_eq, hkk, Int.reduceToNat, Bool.and_eq_true, Bool.or_eq_true, Bool.not_eq_true', decide_eq_true_eq, beq_iff_eq]
      generalize h.occur.all occB = q1 at *
      generalize h.offs.all offB = q2 at *
      generalize h.occur.length = n1 at *
      generalize h.offs.length = n2 at *
      generalize h.terms.length = n3 at *
      generalize h.text.size = n4 at *
      generalize noEnd h.lo = q3 at *
      generalize noEnd h.hi = q4 at *
      generalize okEnd h.lo = q5 at *
      generalize okEnd h.hi = q6 at *
      generalize inR h.field n = q7 at *
      generalize pat h.text 0 = q8 at *
      simp
      grind
  · have e1 : (decide (1 ≤ h.kind) && decide (h.kind ≤ 14)) = false := by
      rw [Bool.and_eq_false_iff, decide_eq_false_iff_not, decide_eq_false_iff_not]
      omega
    unfold rlocB locB
    rw [e1]
    simp

end Go.Proofs.YtfpikilhbkeajaaGreatDoor.TextPlain

namespace Go.Proofs.YtfpikilhbkeajaaGreatDoor.Numbers
set_option maxRecDepth 100000
open Go.RowKit Go.PlainAid Base Query QrySize BindBase TextPlain

def rowV (x : Has) : Array Value := #[.bool x.a, .bool x.b, .bool x.c, .int .i64 x.m, .bool x.d, .bool x.e, .bool x.f, .int .i64 x.k, .bool x.p, .string ⟨x.n.toArray⟩]

theorem tl_empty (t : ByteArray) : t.toList.isEmpty = (t.size == 0) := by
  have h : t.toList.length = t.size := by rw [ByteArray.toList_eq, Array.length_toList]; rfl
  cases e : t.toList with
  | nil => rw [e] at h; simp at h; rw [← h]; rfl
  | cons a l => rw [e] at h; simp at h; rw [← h]; rfl

theorem tl_nil (t : ByteArray) : (t.toList = []) = (t.size = 0) := by
  have h := tl_empty t
  rw [← List.isEmpty_iff, h]
  simp

set_option maxHeartbeats 4000000 in
theorem numbers_no (x : Has) (hx : x.d = false) (n : Int) (hd : Head) (nk : Nat) (A1 A2 A3 A4 : Option Addr) (c1 c2 c3 c4 : Nat) (w : World) :
    Calls Tryz.prog 89 #[.agg (rowV x), .agg (qcells hd nk A1 A2 A3 A4 c1 c2 c3 c4), .int .i64 n] w fun e w' => e = .returned (.bool (numB x n hd)) ∧ Below w.heap.size w w' := by
  obtain ⟨a, b, c, m, d, e, f, k, p, nm⟩ := x
  obtain ⟨kind, field, text, terms, offs, qn, weight, ⟨lop, lin, lt⟩, ⟨hop, hin, ht⟩, occur⟩ := hd
  simp only at hx
  subst hx
  unfold rowV qcells
  cases a <;> cases b <;> cases c
  all_goals
    go_enter Tryz.func89, Tryz.ntmps89
    go_wp2_with fail
    all_goals (try go_ret)
    all_goals refine ⟨congrArg (fun b => Ending.returned (.bool b)) ?_, (by exact Base.bel)⟩
    all_goals (simp only [numB, noEnd, inR, tl_empty, tl_nil] at *)
    all_goals grind

set_option maxHeartbeats 4000000 in
theorem numbers_span (n : Int) (hd : Head) (nk : Nat) (A1 A2 A3 A4 : Option Addr) (c1 c2 c3 c4 : Nat) (w : World) :
    Calls Tryz.prog 89 #[.agg (rowV (hasOf 9)), .agg (qcells hd nk A1 A2 A3 A4 c1 c2 c3 c4), .int .i64 n] w fun e w' => e = .returned (.bool (numB (hasOf 9) n hd)) ∧ Below w.heap.size w w' := by
  obtain ⟨kind, field, text, terms, offs, qn, weight, ⟨lop, lin, lt⟩, ⟨hop, hin, ht⟩, occur⟩ := hd
  unfold rowV qcells hasOf
  simp only
  go_enter Tryz.func89, Tryz.ntmps89
  go_wp2_with fail
  all_goals (first | (go_ret; refine ⟨congrArg (fun b => Ending.returned (.bool b)) ?_, (by exact Base.bel)⟩; (simp only [numB, okEnd, inR, tl_empty, tl_nil] at *); grind) | skip)
  all_goals (refine wp_loop_rounds 3 ?_; rw [rounds_succ]; go_wp2_with fail)
  all_goals (first | (go_ret; refine ⟨congrArg (fun b => Ending.returned (.bool b)) ?_, (by exact Base.bel)⟩; (simp only [numB, okEnd, inR, tl_empty, tl_nil] at *); grind) | skip)
  all_goals (try rw [rounds_succ])
  all_goals (go_wp2_with fail)
  all_goals (first | (go_ret; refine ⟨congrArg (fun b => Ending.returned (.bool b)) ?_, (by exact Base.bel)⟩; (simp only [numB, okEnd, inR, tl_empty, tl_nil] at *); grind) | skip)
  all_goals (rw [rounds_succ]; go_wp2_with fail)
  all_goals (first | (go_ret; refine ⟨congrArg (fun b => Ending.returned (.bool b)) ?_, (by exact Base.bel)⟩; (simp only [numB, okEnd, inR, tl_empty, tl_nil] at *); grind) | skip)
end Go.Proofs.YtfpikilhbkeajaaGreatDoor.Numbers

namespace Go.Proofs.YtfpikilhbkeajaaGreatDoor.Lists
set_option maxRecDepth 100000
open Go.RowKit Go.PlainAid Base Query QrySize BindBase TextPlain Numbers

theorem all_take {f : Int → Bool} {l : List Int} {j : Nat} {x : Int} (h : l[j]? = some x) (ha : (l.take j).all f = true) : (l.take (j + 1)).all f = f x := by
  rw [List.take_add_one, h, List.all_append, ha]
  simp
theorem all_bad {f : Int → Bool} {l : List Int} {j : Nat} {x : Int} (h : l[j]? = some x) (hx : f x = false) : l.all f = false := by
  rw [List.all_eq_false]
  exact ⟨x, List.mem_of_getElem? h, by simp [hx]⟩
def lenB (x : Has) (nk no nf nt : Nat) : Bool := (if 0 ≤ x.k then (nk : Int) == x.k else nk != 0) && (if x.f then no == nk else no == 0)
def lenC (x : Has) (nf nt : Nat) : Bool := nf == nt && (x.e == (nt != 0))
theorem lst_eq (x : Has) (nk : Nat) (h : Head) : lstB x nk h = (lenB x nk h.occur.length h.offs.length h.terms.length && h.occur.all occB && (lenC x h.offs.length h.terms.length && h.offs.all offB)) := by
  unfold lstB lenB lenC
  simp only [Bool.and_assoc]

set_option maxHeartbeats 4000000 in
theorem lists_any (x : Has) (hx : (x.e = false ∧ x.f = false ∧ x.k = 0) ∨ (x.e = true ∧ x.f = false ∧ x.k = 0) ∨ (x.e = false ∧ x.f = true ∧ x.k = -1) ∨ (x.e = false ∧ x.f = false ∧ x.k = -1) ∨ (x.e = false ∧ x.f = false ∧ x.k = 1))
    (hd : Head) (hw : Hwf hd) (nk : Nat) (A1 A2 A3 A4 : Option Addr) (c1 c2 c3 c4 : Nat) (w : World) (s2 : Slc w w.heap.size A2 (ints hd.offs)) (s3 : Slc w w.heap.size A3 (ints hd.occur)) :
    Calls Tryz.prog 90 #[.agg (rowV x), .agg (qcells hd nk A1 A2 A3 A4 c1 c2 c3 c4)] w fun e w' => e = .returned (.bool (lstB x nk hd)) ∧ Below w.heap.size w w' := by
  rw [lst_eq]
  have hno : hd.occur.length ≤ 9223372036854775807 := hw.noccur
  have hnf : hd.offs.length ≤ 9223372036854775807 := hw.noffs
  obtain ⟨a, b, c, m, d, e, f, k, p, nm⟩ := x
  obtain ⟨kind, field, text, terms, offs, qn, weight, lo, hi, occur⟩ := hd
  simp only at hx s2 s3 hno hnf ⊢
  clear hw
  obtain ⟨no, hno'⟩ : ∃ no, no = occur.length := ⟨_, rfl⟩
  obtain ⟨nf, hnf'⟩ : ∃ nf, nf = offs.length := ⟨_, rfl⟩
  obtain ⟨nt, hnt'⟩ : ∃ nt, nt = terms.length := ⟨_, rfl⟩
  have NO := Lib.hid hno'
  have NF := Lib.hid hnf'
  have S2 := Lib.hid s2
  have S3 := Lib.hid s3
  unfold rowV qcells
  simp only
  rw [← hno', ← hnf', ← hnt']
  rw [← hno'] at hno
  rw [← hnf'] at hnf
  clear hno' hnf' hnt' s2 s3
  obtain ⟨LB, hLB⟩ : ∃ v, v = lenB ⟨a, b, c, m, d, e, f, k, p, nm⟩ nk no nf nt := ⟨_, rfl⟩
  obtain ⟨LC, hLC⟩ : ∃ v, v = lenC ⟨a, b, c, m, d, e, f, k, p, nm⟩ nf nt := ⟨_, rfl⟩
  rw [← hLB, ← hLC]
  rcases hx with ⟨rfl, rfl, rfl⟩ | ⟨rfl, rfl, rfl⟩ | ⟨rfl, rfl, rfl⟩ | ⟨rfl, rfl, rfl⟩ | ⟨rfl, rfl, rfl⟩
  rotate_left 2
  rcases Decidable.em (no = nk) with hon | hon
  obtain rfl : no = nk := hon
  rotate_left 1
  have hon' : ¬ ((no : Int) = (nk : Int)) := by omega
  clear hon
  all_goals rcases Decidable.em (nf = nt) with hft | hft
  all_goals first | (obtain rfl : nf = nt := hft) | (have hft' : ¬ ((nf : Int) = (nt : Int)) := (by omega); clear hft)
  all_goals
    have HLB := Lib.hid hLB
    have HLC := Lib.hid hLC
    clear hLB hLC
    go_enter Tryz.func90, Tryz.ntmps90
    go_wp2_with fail
  all_goals (first | (go_ret; refine ⟨congrArg (fun b => Ending.returned (.bool b)) ?_, (by exact Base.bel)⟩; rw [HLB.out]; simp only [lenB]; first | grind | ((try simp only [Bool.not_eq_false', Bool.not_eq_true', Bool.not_eq_eq_eq_not, Bool.not_true, Bool.not_false, decide_eq_true_eq, decide_eq_false_iff_not, beq_iff_eq, beq_eq_false_iff_ne, ne_eq] at *); simp; omega)) | skip)
  all_goals
    have l1 : LB = true := by rw [HLB.out]; simp only [lenB]; first | grind | ((try simp only [Bool.not_eq_false', Bool.not_eq_true', Bool.not_eq_eq_eq_not, Bool.not_true, Bool.not_false, decide_eq_true_eq, decide_eq_false_iff_not, beq_iff_eq, beq_eq_false_iff_ne, ne_eq] at *); simp; omega)
    have L1 := Lib.hid l1
    clear l1
    try (rename (no : Int) = (nk : Int) => hnn; clear hnn)
    go_loop [56] (fun i => ∃ j : Nat, j ≤ no ∧ i = .int .i64 j ∧ (occur.take j).all occB = true) (fun i => no - (intOf i).toNat)
    case atStart => exact ⟨0, Nat.zero_le _, rfl, rfl⟩
    case round =>
      obtain ⟨j, hj, rfl, hall⟩ := hrel
      have HA := Lib.hid hall
      clear hall
      rcases Nat.lt_or_ge j no with hlt | hge
      · obtain ⟨z, hz⟩ : ∃ z, occur[j]? = some z := ⟨_, List.getElem?_eq_getElem (by have := NO.out; omega)⟩
        obtain ⟨g3, o3, rfl, hg3, hc3⟩ := S3.out (by intro h; rw [show occur = [] by simpa [ints] using h] at hz; simp at hz)
        have y : ∀ u u', ((w.alloc u).alloc u').cell? ⟨g3, o3 + j, none⟩ = some (.int .i64 z) := fun u u' => ((show Below w.heap.size w ((w.alloc u).alloc u') by exact Base.bel).cell (p := ⟨g3, o3 + j, none⟩) hg3).trans (hc3 j (.int .i64 z) (by simp [ints, hz]))
        have HT := Lib.hid (all_take (f := occB) hz HA.out)
        have HB := Lib.hid (fun h => all_bad (f := occB) hz h)
        have hlt2 : (j : Int) < 9223372036854775807 := by omega
        have i1 : (j : Int) < (no : Int) := by omega
        clear hz hc3
        rcases (by omega : z = 0 ∨ z = 1 ∨ z = 2 ∨ (z ≠ 0 ∧ z ≠ 1 ∧ z ≠ 2)) with rfl | rfl | rfl | ⟨z0, z1, z2⟩
        rotate_left 3
        · have e0 : (z != 0) = true := bne_iff_ne.2 z0
          have e1 : (z != 1) = true := bne_iff_ne.2 z1
          have e2 : (z != 2) = true := bne_iff_ne.2 z2
          have HQ9 := Lib.hid (HB.out (show occB z = false by simp [occB, z0, z1, z2]))
          clear z0 z1 z2
          go_wp2_with fail
          (go_ret; refine ⟨congrArg (fun b => Ending.returned (.bool b)) ?_, (by exact Base.bel)⟩; rw [L1.out, HQ9.out]; rfl)
        all_goals
          go_wp2_with fail
          (try go_big_round); refine ⟨⟨j + 1, by omega, by go_num, ?_⟩, by simp [intOf]; omega⟩; rw [HT.out]; rfl
      · have hj' : j = no := by omega
        have HO := Lib.hid (show occur.all occB = true by have := HA.out; rw [hj', NO.out, List.take_length] at this; exact this)
        have i1 : ¬ ((j : Int) < (no : Int)) := by omega
        clear hj'
        go_wp2_with fail
        all_goals (first | (go_ret; refine ⟨congrArg (fun b => Ending.returned (.bool b)) ?_, (by exact Base.bel)⟩; rw [L1.out, HO.out, HLC.out]; simp only [lenC]; first | grind | ((try simp only [Bool.not_eq_false', Bool.not_eq_true', Bool.not_eq_eq_eq_not, Bool.not_true, Bool.not_false, decide_eq_true_eq, decide_eq_false_iff_not, beq_iff_eq, beq_eq_false_iff_ne, ne_eq] at *); simp; omega)) | skip)
        all_goals
          have l2 : LC = true := by rw [HLC.out]; simp only [lenC]; first | grind | ((try simp only [Bool.not_eq_false', Bool.not_eq_true', Bool.not_eq_eq_eq_not, Bool.not_true, Bool.not_false, decide_eq_true_eq, decide_eq_false_iff_not, beq_iff_eq, beq_eq_false_iff_ne, ne_eq] at *); simp; omega)
          have L2 := Lib.hid l2
          clear l2
          try (rename (nf : Int) = (nt : Int) => hnn; clear hnn)
          go_loop [90] (fun i => ∃ j : Nat, j ≤ nf ∧ i = .int .i64 j ∧ (offs.take j).all offB = true) (fun i => nf - (intOf i).toNat)
          case atStart => exact ⟨0, Nat.zero_le _, rfl, rfl⟩
          case round =>
            obtain ⟨j2, hj2, rfl, hall2⟩ := hrel
            have HA2 := Lib.hid hall2
            clear hall2
            rcases Nat.lt_or_ge j2 nf with hlt2 | hge2
            · obtain ⟨z, hz⟩ : ∃ z, offs[j2]? = some z := ⟨_, List.getElem?_eq_getElem (by have := NF.out; omega)⟩
              obtain ⟨g3, o3, rfl, hg3, hc3⟩ := S2.out (by intro h; rw [show offs = [] by simpa [ints] using h] at hz; simp at hz)
              have y : ∀ u u', ((w.alloc u).alloc u').cell? ⟨g3, o3 + j2, none⟩ = some (.int .i64 z) := fun u u' => ((show Below w.heap.size w ((w.alloc u).alloc u') by exact Base.bel).cell (p := ⟨g3, o3 + j2, none⟩) hg3).trans (hc3 j2 (.int .i64 z) (by simp [ints, hz]))
              have HT := Lib.hid (all_take (f := offB) hz HA2.out)
              have HB := Lib.hid (fun h => all_bad (f := offB) hz h)
              have hlt3 : (j2 : Int) < 9223372036854775807 := by omega
              have i3 : (j2 : Int) < (nf : Int) := by omega
              clear hz hc3
              rcases (by omega : z < 0 ∨ (0 ≤ z ∧ 2147483647 ≤ z) ∨ (0 ≤ z ∧ z < 2147483647)) with z0 | ⟨z0, z1⟩ | ⟨z0, z1⟩
              · have e0 : decide (z < 0) = true := decide_eq_true z0
                have HQ9 := Lib.hid (HB.out (show offB z = false by simp [offB]; omega))
                clear z0
                go_wp2_with fail
                (go_ret; refine ⟨congrArg (fun b => Ending.returned (.bool b)) ?_, (by exact Base.bel)⟩; rw [L1.out, HO.out, L2.out, HQ9.out]; rfl)
              · have e0 : decide (z < 0) = false := decide_eq_false (by omega)
                have e1 : decide (2147483647 ≤ z) = true := decide_eq_true z1
                have HQ9 := Lib.hid (HB.out (show offB z = false by simp [offB]; omega))
                clear z0 z1
                go_wp2_with fail
                (go_ret; refine ⟨congrArg (fun b => Ending.returned (.bool b)) ?_, (by exact Base.bel)⟩; rw [L1.out, HO.out, L2.out, HQ9.out]; rfl)
              · have e0 : decide (z < 0) = false := decide_eq_false (by omega)
                have e1 : decide (2147483647 ≤ z) = false := decide_eq_false (by omega)
                have HQ9 := Lib.hid (show offB z = true by simp [offB]; omega)
                clear z0 z1
                go_wp2_with fail
                (try go_big_round); refine ⟨⟨j2 + 1, by omega, by go_num, ?_⟩, by simp [intOf]; omega⟩; rw [HT.out]; exact HQ9.out
            · have hj3 : j2 = nf := by omega
              have HF := Lib.hid (show offs.all offB = true by have := HA2.out; rw [hj3, NF.out, List.take_length] at this; exact this)
              have i3 : ¬ ((j2 : Int) < (nf : Int)) := by omega
              clear hj3
              go_wp2_with fail
              go_ret
              refine ⟨congrArg (fun b => Ending.returned (.bool b)) ?_, (by exact Base.bel)⟩
              rw [L1.out, HO.out, L2.out, HF.out]
              rfl
end Go.Proofs.YtfpikilhbkeajaaGreatDoor.Lists

namespace Go.Proofs.YtfpikilhbkeajaaGreatDoor.LineBase
set_option maxRecDepth 100000
open Go.RowKit Go.PlainAid Base Query BindBase

theorem wpList_load {P : Program} {ops : Array Oper} {rest : List Oper} {a : Act} {w : World} {Q : Exit → Act → World → Prop} {dst : Option Tmp} {ty t : TypeId} {x : Operand} {pos : String} {after : Array Edge} (ad : Addr) (v : Value)
    (hx : a.eval x = .pointer (some ad)) (hv : (loadVar ty ad).run P w = .ok v w) (h : wpList P ops Q rest (a.put dst v) w) : wpList P ops Q (⟨dst, .load ty x, t, pos, after, none⟩ :: rest) a w :=
  wpList_plain rfl fun K hK => by
    unfold Oper.wp execOp
    simp only [hx, Instr.loadAt, Instr.sureAddr, Sem.run_bind, Sem.run_pure, Result.andThen_ok, hv]
    exact hK _ _ h
theorem load_blk {P : Program} {w : World} {g : Nat} {t ty : TypeId} {cs : Array Value} (d : TypeDesc) (hb : Blk w g t cs) (hu : P.underlying ty = some d) (hd : (match d with | .struct _ | .array _ _ => true | _ => false) = true) (hi : (P.info? ty).map (·.size) = some cs.size) :
    (loadVar ty ⟨g, 0, none⟩).run P w = .ok (.agg cs) w := run_loadVar_row w g t ty cs (0, 0) d hb hu hd hi
theorem qInfo : (Tryz.prog.info? 29).map (·.size) = some 15 := by kernel_rfl
end Go.Proofs.YtfpikilhbkeajaaGreatDoor.LineBase
