/-
  Nodes as trees; nodes in memory.
  What a good tree is, in plain Lean.
  The walk of printer's wild over whatever text.
  The walks of concordref15's left and printer's Size over any node.
  The walks of concordref15.Few and the laws' small over any node: they answer something.
-/
import Derived.Test.YtkcfgcdlnojaeaaGreatDoorDQry
import Derived.Test.YtkcfgcdlnojaeaaGreatDoorDTextP
import Derived.Test.YtkcfgcdlnojaeaaGreatDoorChecked
set_option linter.unusedVariables false
set_option linter.unusedSimpArgs false
namespace Go.Proofs.YtkcfgcdlnojaeaaGreatDoor.NodeTree
open Go.RowKit Go.PlainAid Base Query

structure NHead where
  kind : Int
  field : ByteArray
  text : ByteArray
  n : Int
  lo : Bnd
  hi : Bnd
  occur : List Int

inductive Nod where
  | mk (h : NHead) (kids : List Nod)

def Nod.h : Nod → NHead | .mk h _ => h
def Nod.kids : Nod → List Nod | .mk _ k => k

mutual
def Nod.size : Nod → Nat
  | .mk _ k => 1 + nsizes k
def nsizes : List Nod → Nat
  | [] => 0
  | q :: r => q.size + nsizes r
end
theorem Nod.size_pos (q : Nod) : 0 < q.size := by cases q; simp only [Nod.size]; omega
theorem nsizes_mem : ∀ {l : List Nod} {q : Nod}, q ∈ l → q.size ≤ nsizes l
  | [], _, h => by cases h
  | x :: r, q, h => by
    rcases List.mem_cons.1 h with rfl | h
    · simp only [nsizes]; omega
    · have := nsizes_mem h; simp only [nsizes]; omega
theorem Nod.kid_lt {q k : Nod} (h : k ∈ q.kids) : k.size < q.size := by
  cases q with
  | mk hd ks => have := nsizes_mem h; simp only [Nod.size]; simp only [Nod.kids] at this; omega
theorem Nod.ind {P : Nod → Prop} (h : ∀ q, (∀ k ∈ q.kids, P k) → P q) (q : Nod) : P q := by
  have key : ∀ n (q : Nod), q.size ≤ n → P q := by
    intro n
    induction n with
    | zero => intro q hq; have := q.size_pos; omega
    | succ n ih => exact fun q hq => h q fun k hk => ih k (by have := Nod.kid_lt hk; omega)
  exact key _ q (Nat.le_refl _)

structure Nwf (hd : NHead) : Prop where
  kind : (Lit.int .i64 hd.kind).wf = true
  n : (Lit.int .i64 hd.n).wf = true
  occur : ∀ o ∈ hd.occur, (Lit.int .i64 o).wf = true
  noccur : hd.occur.length ≤ maxLen

def nbulk (hd : NHead) : Nat := hd.field.size + hd.text.size + hd.lo.text.size + hd.hi.text.size + hd.occur.length + 1
mutual
def Nod.bulk : Nod → Nat
  | .mk h k => nbulk h + nbulks k
def nbulks : List Nod → Nat
  | [] => 0
  | q :: r => q.bulk + nbulks r
end
theorem nbulks_mem : ∀ {l : List Nod} {q : Nod}, q ∈ l → q.bulk ≤ nbulks l
  | [], _, h => by cases h
  | x :: r, q, h => by
    rcases List.mem_cons.1 h with rfl | h
    · simp only [nbulks]; omega
    · have := nbulks_mem h; simp only [nbulks]; omega

structure NRest where
  lo : Bnd
  hi : Bnd
  A1 : Option Addr
  n1 : Nat
  c1 : Nat
  A2 : Option Addr
  n2 : Nat
  c2 : Nat
def nodeV (k : Int) (fn T : ByteArray) (n : Int) (R : NRest) : Array Value :=
  #[.int .i64 k, .string fn, .string T, .int .i64 n, .bool R.lo.op, .bool R.lo.inn, .string R.lo.text, .bool R.hi.op, .bool R.hi.inn, .string R.hi.text, .slice R.A1 R.n1 R.c1, .slice R.A2 R.n2 R.c2]
def nodeH (hd : NHead) (nk : Nat) (A1 A2 : Option Addr) (c1 c2 : Nat) : Array Value := nodeV hd.kind hd.field hd.text hd.n ⟨hd.lo, hd.hi, A1, hd.occur.length, c1, A2, nk, c2⟩

inductive NVal (w : World) (B : Nat) : List Value → Nod → Prop
  | mk (hd : NHead) (ks : List Nod) (A1 A2 : Option Addr) (c1 c2 : Nat) (cs : Nat → List Value) (hw : Nwf hd) (hk : ks.length ≤ maxLen)
      (h1 : Slc w B A1 (ints hd.occur))
      (h2 : ks ≠ [] → ∃ g o, A2 = some ⟨g, o, none⟩ ∧ g < B ∧ ∀ i, i < ks.length → ∀ j u, (cs i)[j]? = some u → w.cell? ⟨g, o + i * 12 + j, none⟩ = some u)
      (h3 : ∀ i k, ks[i]? = some k → NVal w B (cs i) k) :
      NVal w B [.int .i64 hd.kind, .string hd.field, .string hd.text, .int .i64 hd.n, .bool hd.lo.op, .bool hd.lo.inn, .string hd.lo.text, .bool hd.hi.op, .bool hd.hi.inn, .string hd.hi.text, .slice A1 hd.occur.length c1, .slice A2 ks.length c2] (.mk hd ks)

theorem NVal.kept {w w' : World} {B B' : Nat} {cs : List Value} {q : Nod} (h : NVal w B cs q) (hb : Below B' w w') (hB : B ≤ B') : NVal w' B cs q := by
  induction h with
  | mk hd ks A1 A2 c1 c2 cs hw hk h1 h2 h3 ih =>
    refine NVal.mk hd ks A1 A2 c1 c2 cs hw hk (h1.below hb hB) (fun hne => ?_) ih
    obtain ⟨g, o, e, hg, hc⟩ := h2 hne
    exact ⟨g, o, e, hg, fun i hi j u hu => (hb.cell (p := ⟨g, o + i * 12 + j, none⟩) (show g < B' by omega)).trans (hc i hi j u hu)⟩
theorem NVal.mono {w : World} {B B' : Nat} {cs : List Value} {q : Nod} (h : NVal w B cs q) (hB : B ≤ B') : NVal w B' cs q := by
  induction h with
  | mk hd ks A1 A2 c1 c2 cs hw hk h1 h2 h3 ih =>
    refine NVal.mk hd ks A1 A2 c1 c2 cs hw hk (h1.mono hB) (fun hne => ?_) ih
    obtain ⟨g, o, e, hg, hc⟩ := h2 hne
    exact ⟨g, o, e, by omega, hc⟩
theorem NVal.len {w : World} {B : Nat} {cs : List Value} {q : Nod} (h : NVal w B cs q) : cs.length = 12 := by cases h; rfl

structure NAt (w : World) (g p : Nat) (hd : NHead) (nk : Nat) (A1 A2 : Option Addr) (c1 c2 : Nat) : Prop where
  y0 : w.cell? ⟨g, p, none⟩ = some (.int .i64 hd.kind)
  y1 : w.cell? ⟨g, p + 1, none⟩ = some (.string hd.field)
  y2 : w.cell? ⟨g, p + 2, none⟩ = some (.string hd.text)
  y3 : w.cell? ⟨g, p + 3, none⟩ = some (.int .i64 hd.n)
  y4 : w.cell? ⟨g, p + 4, none⟩ = some (.bool hd.lo.op)
  y5 : w.cell? ⟨g, p + 5, none⟩ = some (.bool hd.lo.inn)
  y6 : w.cell? ⟨g, p + 6, none⟩ = some (.string hd.lo.text)
  y7 : w.cell? ⟨g, p + 7, none⟩ = some (.bool hd.hi.op)
  y8 : w.cell? ⟨g, p + 8, none⟩ = some (.bool hd.hi.inn)
  y9 : w.cell? ⟨g, p + 9, none⟩ = some (.string hd.hi.text)
  y10 : w.cell? ⟨g, p + 10, none⟩ = some (.slice A1 hd.occur.length c1)
  y11 : w.cell? ⟨g, p + 11, none⟩ = some (.slice A2 nk c2)
def ncells (hd : NHead) (nk : Nat) (A1 A2 : Option Addr) (c1 c2 : Nat) : Array Value :=
  #[.int .i64 hd.kind, .string hd.field, .string hd.text, .int .i64 hd.n, .bool hd.lo.op, .bool hd.lo.inn, .string hd.lo.text, .bool hd.hi.op, .bool hd.hi.inn, .string hd.hi.text, .slice A1 hd.occur.length c1, .slice A2 nk c2]
theorem nkid_cells {w : World} {g o i : Nat} {cs : List Value} {q : Nod} {B : Nat} (hq : NVal w B cs q) (hc : ∀ j u, cs[j]? = some u → w.cell? ⟨g, o + i * 12 + j, none⟩ = some u) :
    ∃ A1 A2 c1 c2, cs.toArray = ncells q.h q.kids.length A1 A2 c1 c2 ∧ NAt w g (o + i * 12) q.h q.kids.length A1 A2 c1 c2 := by
  obtain ⟨hd, ks, A1, A2, c1, c2, kc, hw, hk, h1, h2, h3⟩ := hq
  exact ⟨A1, A2, c1, c2, rfl, hc 0 _ rfl, hc 1 _ rfl, hc 2 _ rfl, hc 3 _ rfl, hc 4 _ rfl, hc 5 _ rfl, hc 6 _ rfl, hc 7 _ rfl, hc 8 _ rfl, hc 9 _ rfl, hc 10 _ rfl, hc 11 _ rfl⟩
end Go.Proofs.YtkcfgcdlnojaeaaGreatDoor.NodeTree

namespace Go.Proofs.YtkcfgcdlnojaeaaGreatDoor.NodePlain
open Go.RowKit Go.PlainAid Base Query NodeTree TextPlain

structure Ask where
  f : Bool
  t : Bool
  low : Int
  high : Int
  ends : Bool
  occ : Bool
  least : Int
  most : Int
  level : Int
  prints : List UInt8
def askOf : Nat → Ask
  | 1 => ⟨true, true, 0, 0, false, false, 0, 0, 6, []⟩
  | 2 => ⟨true, true, 0, 999999999, false, false, 0, 0, 6, []⟩
  | 3 => ⟨true, true, 0, 0, false, false, 0, 0, 6, []⟩
  | 4 => ⟨true, true, 0, 0, false, false, 0, 0, 6, []⟩
  | 5 => ⟨true, true, 1, 2, false, false, 0, 0, 6, []⟩
  | 6 => ⟨true, false, 0, 0, true, false, 0, 0, 6, []⟩
  | 7 => ⟨true, false, 0, 0, false, false, 0, 0, 6, []⟩
  | 8 => ⟨false, false, 0, 0, false, false, 0, 0, 6, []⟩
  | 9 => ⟨false, false, 0, 999999999, false, true, 1, -1, 0, []⟩
  | 10 => ⟨false, false, 0, 0, false, false, 1, -1, 2, [32, 65, 78, 68, 32]⟩
  | 11 => ⟨false, false, 0, 0, false, false, 1, -1, 1, [32, 79, 82, 32]⟩
  | 12 => ⟨false, false, 0, 0, false, false, 1, -1, 3, [32, 124, 32]⟩
  | 13 => ⟨false, false, 0, 0, false, false, 1, 1, 4, []⟩
  | 14 => ⟨false, false, 0, 999999999, false, false, 1, 1, 5, [94]⟩
  | 15 => ⟨false, false, 0, 999999999, false, false, 1, 1, 5, [94, 61]⟩
  | _ => ⟨false, false, 0, 0, false, false, 0, 0, 0, []⟩
def askV (x : Ask) : List Value := [.bool x.f, .bool x.t, .int .i64 x.low, .int .i64 x.high, .bool x.ends, .bool x.occ, .int .i64 x.least, .int .i64 x.most, .int .i64 x.level, .string ⟨x.prints.toArray⟩]
def asksL : List Value := askV (askOf 0) ++ askV (askOf 1) ++ askV (askOf 2) ++ askV (askOf 3) ++ askV (askOf 4) ++ askV (askOf 5) ++ askV (askOf 6) ++ askV (askOf 7) ++ askV (askOf 8) ++ askV (askOf 9) ++ askV (askOf 10) ++ askV (askOf 11) ++ askV (askOf 12) ++ askV (askOf 13) ++ askV (askOf 14) ++ askV (askOf 15)

def wildS (s : ByteArray) (i : Nat) (m l : Int) : Bool :=
  if i < s.size then
    if bt s i = 42 then wildS s (i + 1) (m + 1) i
    else if bt s i = 63 then wildS s (i + 1) (m + 2) l
    else if bt s i = 92 then
      if i + 1 < s.size then
        if bt s (i + 1) = 42 ∨ bt s (i + 1) = 63 ∨ bt s (i + 1) = 92 then wildS s (i + 2) m l else false
      else false
    else wildS s (i + 1) m l
  else decide (1 < m) || (m == 1 && l != (s.size : Int) - 1)
termination_by s.size - i
def wildB (s : ByteArray) : Bool := wildS s 0 0 (-1)

def askN (x : Ask) (h : NHead) (nk : Nat) : Bool :=
  (x.f || h.field.size == 0) && (x.t || h.text.size == 0) && decide (x.low ≤ h.n) && decide (h.n ≤ x.high) && (if x.ends then okEnd h.lo && okEnd h.hi else noEnd h.lo && noEnd h.hi) &&
    decide (x.least ≤ nk) && (decide (x.most < 0) || decide ((nk : Int) ≤ x.most)) && (if x.occ then h.occur.length == nk else h.occur.length == 0)
def ownB (h : NHead) (nk : Nat) : Bool :=
  decide (1 ≤ h.kind) && decide (h.kind ≤ 15) && askN (askOf h.kind.toNat) h nk && h.occur.all occB &&
    (if h.kind = 1 ∨ h.kind = 3 ∨ h.kind = 5 then h.text.size != 0 else if h.kind = 4 then wildB h.text else true)
mutual
def nodB : Nod → Bool
  | .mk h ks => ownB h ks.length && nodsB ks
def nodsB : List Nod → Bool
  | [] => true
  | q :: r => nodB q && nodsB r
end
theorem nodsB_all : ∀ l : List Nod, nodsB l = l.all nodB
  | [] => by simp [nodsB]
  | q :: r => by simp [nodsB, nodsB_all r]
theorem nods_take {ks : List Nod} {i : Nat} {k : Nod} (h : ks[i]? = some k) (ha : nodsB (ks.take i) = true) : nodsB (ks.take (i + 1)) = nodB k := by
  rw [nodsB_all] at ha ⊢
  rw [List.take_add_one, h, List.all_append, ha]
  simp
theorem nods_bad {ks : List Nod} {i : Nat} {k : Nod} (h : ks[i]? = some k) (hb : nodB k = false) : nodsB ks = false := by
  rw [nodsB_all, List.all_eq_false]
  exact ⟨k, List.mem_of_getElem? h, by simp [hb]⟩
theorem wild_star {s : ByteArray} {i : Nat} {m l : Int} (h : i < s.size) (hb : bt s i = 42) : wildS s i m l = wildS s (i + 1) (m + 1) i := by rw [wildS, if_pos h, if_pos hb]
theorem wild_gap {s : ByteArray} {i : Nat} {m l : Int} (h : i < s.size) (hb : bt s i = 63) : wildS s i m l = wildS s (i + 1) (m + 2) l := by rw [wildS, if_pos h, if_neg (by omega), if_pos hb]
theorem wild_esc {s : ByteArray} {i : Nat} {m l : Int} (h : i + 1 < s.size) (hb : bt s i = 92) (h2 : bt s (i + 1) = 42 ∨ bt s (i + 1) = 63 ∨ bt s (i + 1) = 92) : wildS s i m l = wildS s (i + 2) m l := by
  rw [wildS, if_pos (by omega), if_neg (by omega), if_neg (by omega), if_pos hb, if_pos h, if_pos h2]
theorem wild_bad {s : ByteArray} {i : Nat} {m l : Int} (h : i < s.size) (hb : bt s i = 92) (h2 : i + 1 < s.size → ¬ (bt s (i + 1) = 42 ∨ bt s (i + 1) = 63 ∨ bt s (i + 1) = 92)) : wildS s i m l = false := by
  rw [wildS, if_pos h, if_neg (by omega), if_neg (by omega), if_pos hb]
  by_cases h3 : i + 1 < s.size
  · rw [if_pos h3, if_neg (h2 h3)]
  · rw [if_neg h3]
theorem wild_plain {s : ByteArray} {i : Nat} {m l : Int} (h : i < s.size) (h1 : bt s i ≠ 42) (h2 : bt s i ≠ 63) (h3 : bt s i ≠ 92) : wildS s i m l = wildS s (i + 1) m l := by
  conv => lhs; rw [wildS, if_pos h, if_neg h1, if_neg h2, if_neg h3]
theorem wild_end {s : ByteArray} {i : Nat} {m l : Int} (h : s.size ≤ i) : wildS s i m l = (decide (1 < m) || (m == 1 && l != (s.size : Int) - 1)) := by rw [wildS, if_neg (by omega)]
end Go.Proofs.YtkcfgcdlnojaeaaGreatDoor.NodePlain

namespace Go.Proofs.YtkcfgcdlnojaeaaGreatDoor.NodeWild
set_option maxRecDepth 100000
open Go.RowKit Go.PlainAid Base Query NodeTree TextPlain NodePlain

set_option maxHeartbeats 4000000 in
theorem wild_any (s : ByteArray) (w : World) (hs : s.size ≤ 1099511627776) : Calls Tryz.prog 96 #[.string s] w fun e w' => e = .returned (.bool (wildB s)) ∧ Below w.heap.size w w' := by
  go_enter Tryz.func96, Tryz.ntmps96
  go_wp2_with fail
  go_loopw [5, 3, 4] (fun i m l wr => ∃ (k : Nat) (mm ll : Int), k ≤ s.size ∧ 0 ≤ mm ∧ mm ≤ 2 * k ∧ -1 ≤ ll ∧ ll ≤ k ∧ i = .int .i64 k ∧ m = .int .i64 mm ∧ l = .int .i64 ll ∧ Below w.heap.size w wr ∧ wildB s = wildS s k mm ll) (fun i _ _ _ => s.size - (intOf i).toNat)
  case atStart => exact ⟨0, 0, -1, Nat.zero_le _, by omega, by omega, by omega, by omega, rfl, rfl, rfl, (by exact Base.bel), rfl⟩
  case round =>
    obtain ⟨k, mm, ll, hk, hm0, hm1, hl0, hl1, rfl, rfl, rfl, hbel, hp⟩ := hrel
    have HP := Lib.hid hp
    clear hp
    rcases Nat.lt_or_ge k s.size with hlt | hge
    · have hgb := get_bt s
      have r0 := bt_nonneg s k
      have r1 := bt_le s k
      have i2 : (k : Int) < s.size := by omega
      have i3 : (k : Int) < 9223372036854775807 := by omega
      rcases (by omega : bt s k = 42 ∨ (bt s k ≠ 42 ∧ bt s k = 63) ∨ (bt s k ≠ 42 ∧ bt s k ≠ 63 ∧ bt s k = 92) ∨ (bt s k ≠ 42 ∧ bt s k ≠ 63 ∧ bt s k ≠ 92)) with c | ⟨c1, c⟩ | ⟨c1, c2, c⟩ | ⟨c1, c2, c⟩
      · have HE := Lib.hid (wild_star (m := mm) (l := ll) hlt c)
        have b1 : (bt s k == 42) = true := beq_iff_eq.2 c
        clear c
        go_wp2_with fail
        go_roundw
        case rel => exact ⟨k + 1, mm + 1, k, by omega, by omega, by omega, by omega, by omega, by go_num, by go_num, by go_num, hbel, HP.out.trans HE.out⟩
        case measure => simp [intOf]; omega
      · have HE := Lib.hid (wild_gap (m := mm) (l := ll) hlt c)
        have b1 : (bt s k == 42) = false := beq_eq_false_iff_ne.2 c1
        have b2 : (bt s k == 63) = true := beq_iff_eq.2 c
        clear c c1
        go_wp2_with fail
        go_roundw
        case rel => exact ⟨k + 1, mm + 2, ll, by omega, by omega, by omega, by omega, by omega, by go_num, by go_num, by go_num, hbel, HP.out.trans HE.out⟩
        case measure => simp [intOf]; omega
      · have b1 : (bt s k == 42) = false := beq_eq_false_iff_ne.2 c1
        have b2 : (bt s k == 63) = false := beq_eq_false_iff_ne.2 c2
        have b3 : (bt s k == 92) = true := beq_iff_eq.2 c
        have C := Lib.hid c
        clear c c1 c2
        by_cases e1 : k + 1 = s.size
        · have b4 : ((k : Int) + 1 == (s.size : Int)) = true := beq_iff_eq.2 (by omega)
          have HE := Lib.hid (wild_bad (m := mm) (l := ll) hlt C.out (fun h => by omega))
          clear e1
          go_wp2_with fail
          go_ret
          exact ⟨by rw [HP.out, HE.out]; rfl, hbel⟩
        · have b4 : ((k : Int) + 1 == (s.size : Int)) = false := beq_eq_false_iff_ne.2 (by omega)
          have i4 : (k : Int) + 1 < s.size := by omega
          have i5 : (k : Int) + 1 < 9223372036854775807 := by omega
          have i6 : (0 : Int) ≤ (k : Int) + 1 := by omega
          have HE1 := Lib.hid (fun h => wild_bad (s := s) (i := k) (m := mm) (l := ll) hlt C.out h)
          have HE2 := Lib.hid (fun h => wild_esc (s := s) (i := k) (m := mm) (l := ll) (by omega) C.out h)
          have hgb1 := get_bt s (k + 1)
          have q0 := bt_nonneg s (k + 1)
          have q1 := bt_le s (k + 1)
          clear e1
          rcases (by omega : bt s (k + 1) = 42 ∨ (bt s (k + 1) ≠ 42 ∧ bt s (k + 1) = 63) ∨ (bt s (k + 1) ≠ 42 ∧ bt s (k + 1) ≠ 63 ∧ bt s (k + 1) = 92) ∨ (bt s (k + 1) ≠ 42 ∧ bt s (k + 1) ≠ 63 ∧ bt s (k + 1) ≠ 92)) with c | ⟨c1, c⟩ | ⟨c1, c2, c⟩ | ⟨c1, c2, c⟩
          rotate_right 1
          · have HE := Lib.hid (HE1.out fun _ h => by omega)
            have d1 : (bt s (k + 1) != 42) = true := bne_iff_ne.2 c1
            have d2 : (bt s (k + 1) != 63) = true := bne_iff_ne.2 c2
            have d3 : (bt s (k + 1) != 92) = true := bne_iff_ne.2 c
            clear c c1 c2 HE1 HE2
            go_wp2_with fail
            go_ret
            exact ⟨by rw [HP.out, HE.out]; rfl, hbel⟩
          all_goals
            have HE := Lib.hid (HE2.out (by omega))
            clear HE1 HE2
            first
            | (have d1 : (bt s (k + 1) != 42) = false := by rw [c]; rfl)
            | (have d1 : (bt s (k + 1) != 42) = true := bne_iff_ne.2 c1
               have d2 : (bt s (k + 1) != 63) = false := by rw [c]; rfl)
            | (have d1 : (bt s (k + 1) != 42) = true := bne_iff_ne.2 c1
               have d2 : (bt s (k + 1) != 63) = true := bne_iff_ne.2 c2
               have d3 : (bt s (k + 1) != 92) = false := by rw [c]; rfl)
            clear c
            go_wp2_with fail
            go_roundw
            case rel => exact ⟨k + 2, mm, ll, by omega, by omega, by omega, by omega, by omega, by go_num, rfl, rfl, hbel, HP.out.trans HE.out⟩
            case measure => simp [intOf]; omega
      · have HE := Lib.hid (wild_plain (m := mm) (l := ll) hlt c1 c2 c)
        have b1 : (bt s k == 42) = false := beq_eq_false_iff_ne.2 c1
        have b2 : (bt s k == 63) = false := beq_eq_false_iff_ne.2 c2
        have b3 : (bt s k == 92) = false := beq_eq_false_iff_ne.2 c
        clear c c1 c2
        go_wp2_with fail
        go_roundw
        case rel => exact ⟨k + 1, mm, ll, by omega, by omega, by omega, by omega, by omega, by go_num, rfl, rfl, hbel, HP.out.trans HE.out⟩
        case measure => simp [intOf]; omega
    · obtain rfl : k = s.size := by omega
      have HE := Lib.hid (wild_end (s := s) (i := s.size) (m := mm) (l := ll) (Nat.le_refl _))
      have i2 : ¬ ((s.size : Int) < s.size) := by omega
      have key : wildB s = (decide (1 < mm) || (mm == 1 && ll != (s.size : Int) - 1)) := HP.out.trans HE.out
      have HK := Lib.hid key
      clear key
      rcases Decidable.em (1 < mm) with h1 | h1
      · have d1 : decide ((1 : Int) < mm) = true := decide_eq_true h1
        clear h1
        go_wp2_with fail
        go_ret
        exact ⟨by rw [HK.out, d1]; rfl, hbel⟩
      · have d1 : decide ((1 : Int) < mm) = false := decide_eq_false h1
        rcases Decidable.em (mm = 1) with h2 | h2
        · have d2 : (mm == 1) = true := beq_iff_eq.2 h2
          clear h1
          have H2 := Lib.hid h2
          clear h2
          go_wp2_with fail
          go_ret
          exact ⟨by rw [HK.out, d1, d2]; simp, hbel⟩
        · have d2 : (mm == 1) = false := beq_eq_false_iff_ne.2 h2
          clear h1 h2
          go_wp2_with fail
          go_ret
          exact ⟨by rw [HK.out, d1, d2]; rfl, hbel⟩
end Go.Proofs.YtkcfgcdlnojaeaaGreatDoor.NodeWild

namespace Go.Proofs.YtkcfgcdlnojaeaaGreatDoor.NodeWalk
set_option maxRecDepth 100000
open Go.RowKit Go.PlainAid Base Query NodeTree

def SomeI (w : World) (e : Ending) (w' : World) : Prop := (∃ v : Int, e = .returned (.int .i64 v)) ∧ Below w.heap.size w w'
theorem nrow {w : World} {g : Nat} {t : TypeId} {v0 v1 v2 v3 v4 v5 v6 v7 v8 v9 v10 v11 : Value} (h : Blk w g t #[v0, v1, v2, v3, v4, v5, v6, v7, v8, v9, v10, v11]) : w.cell? ⟨g, 0, none⟩ = some v0 ∧ w.cell? ⟨g, 1, none⟩ = some v1 ∧ w.cell? ⟨g, 2, none⟩ = some v2 ∧ w.cell? ⟨g, 3, none⟩ = some v3 ∧ w.cell? ⟨g, 4, none⟩ = some v4 ∧ w.cell? ⟨g, 5, none⟩ = some v5 ∧ w.cell? ⟨g, 6, none⟩ = some v6 ∧ w.cell? ⟨g, 7, none⟩ = some v7 ∧ w.cell? ⟨g, 8, none⟩ = some v8 ∧ w.cell? ⟨g, 9, none⟩ = some v9 ∧ w.cell? ⟨g, 10, none⟩ = some v10 ∧ w.cell? ⟨g, 11, none⟩ = some v11 :=
  ⟨h.cell 0, h.cell 1, h.cell 2, h.cell 3, h.cell 4, h.cell 5, h.cell 6, h.cell 7, h.cell 8, h.cell 9, h.cell 10, h.cell 11⟩
theorem nfz {w : World} {g : Nat} {t : TypeId} {cs : Array Value} (h : Blk w g t cs) : w.frozen? ⟨g, 0, none⟩ = false ∧ w.frozen? ⟨g, 1, none⟩ = false ∧ w.frozen? ⟨g, 2, none⟩ = false ∧ w.frozen? ⟨g, 3, none⟩ = false ∧ w.frozen? ⟨g, 4, none⟩ = false ∧ w.frozen? ⟨g, 5, none⟩ = false ∧ w.frozen? ⟨g, 6, none⟩ = false ∧ w.frozen? ⟨g, 7, none⟩ = false ∧ w.frozen? ⟨g, 8, none⟩ = false ∧ w.frozen? ⟨g, 9, none⟩ = false ∧ w.frozen? ⟨g, 10, none⟩ = false ∧ w.frozen? ⟨g, 11, none⟩ = false :=
  ⟨h.frozen 0, h.frozen 1, h.frozen 2, h.frozen 3, h.frozen 4, h.frozen 5, h.frozen 6, h.frozen 7, h.frozen 8, h.frozen 9, h.frozen 10, h.frozen 11⟩

set_option maxHeartbeats 2000000 in
theorem left_any (q : Nod) : ∀ (cs : List Value) (B : Nat) (w : World) (m : Int), NVal w B cs q → B ≤ w.heap.size →
    Calls Tryz.prog 56 #[.agg cs.toArray, .int .i64 m] w (SomeI w) := by
  induction q using Nod.ind with
  | h q ih =>
    intro cs B w m hq hB
    obtain ⟨hd, ks, A1, A2, c1, c2, kc, hw, hk, h1, h2, h3⟩ := hq
    simp only [Nod.kids] at ih
    obtain ⟨W1, hW1⟩ : ∃ W, W = w.alloc (.cells (ncells hd ks.length A1 A2 c1 c2) 39) := ⟨_, rfl⟩
    have K1 : Blk W1 w.heap.size 39 (ncells hd ks.length A1 A2 c1 c2) := by rw [hW1]; exact Blk.new w _ _
    have hsz : w.heap.size + 1 = W1.heap.size := by rw [hW1]; simp
    have hbW : Below w.heap.size w W1 := by rw [hW1]; exact Base.bel
    have HW := Lib.hid hW1
    have HZ := Lib.hid hsz
    unfold ncells at K1 HW
    clear hW1 hsz
    go_enter Tryz.func56, Tryz.ntmps56
    go_wp2_with fail
    go_loopw [5, 1] (fun i s wr => ∃ k : Nat, ∃ r : Int, k ≤ ks.length ∧ i = .int .i64 k ∧ s = .int .i64 r ∧ Below W1.heap.size W1 wr) (fun i _ _ => ks.length - (intOf i).toNat)
    case atStart => exact ⟨0, _, Nat.zero_le _, rfl, rfl, (by rw [HW.out]; exact Below.refl _ _)⟩
    case round =>
      obtain ⟨k, r, hk', rfl, rfl, hbel⟩ := hrel
      have hkl : ks.length ≤ maxLen := hk
      have hml : maxLen = 9223372036854775807 := rfl
      have c11 : wr.cell? ⟨w.heap.size, 11, none⟩ = some (.slice A2 ks.length c2) := (K1.below hbel (by have := HZ.out; omega)).cell 11
      have hbw := bchain hbW hbel
      rcases Nat.lt_or_ge k ks.length with hlt | hge
      · rcases (by omega : 0 ≤ r ∨ r < 0) with hr | hr
        · have hd1 : decide (0 ≤ r) = true := decide_eq_true hr
          obtain ⟨g, o, rfl, hg, hc⟩ := h2 (by intro h; subst h; simp at hlt)
          obtain ⟨x, hx⟩ : ∃ x, ks[k]? = some x := ⟨_, List.getElem?_eq_getElem hlt⟩
          have hq := (h3 k x hx).kept hbw hB
          obtain ⟨B1, B2, d1, d2, e, x0, x1, x2, x3, x4, x5, x6, x7, x8, x9, x10, x11⟩ := nkid_cells hq (fun j u hu => (hbw.cell (p := ⟨g, o + k * 12 + j, none⟩) (Nat.lt_of_lt_of_le hg hB)).trans (hc k hlt j u hu))
          have IH := Lib.hid (fun W m (hW : Below w.heap.size w W) => ih x (List.mem_of_getElem? hx) _ B W m ((h3 k x hx).kept hW hB) (Nat.le_trans hB hW.size))
          rw [e] at IH
          unfold ncells at IH
          have hlt2 : (k : Int) < 9223372036854775807 := by omega
          have i1 : (k : Int) < (ks.length : Int) := by omega
          have HBW := Lib.hid hbw
          clear hc h3 h2 ih hq e hx h1 hw hr hbw hkl hml hk
          go_wp2_with fail
          go_at_call 56
          refine (IH.out _ _ HBW.out).mono ?_
          rintro e w2 ⟨⟨r2, rfl⟩, hb2⟩
          clear IH x0 x1 x2 x3 x4 x5 x6 x7 x8 x9 x10 x11
          go_wp2_with fail
          go_roundw
          case rel => exact ⟨k + 1, _, by omega, by go_num, rfl, bchain hbel hb2⟩
          case measure => simp [intOf]; omega
        · have hd1 : decide (0 ≤ r) = false := decide_eq_false (by omega)
          have i1 : (k : Int) < (ks.length : Int) := by omega
          clear hr ih h1 h2 h3 hw
          go_wp2_with fail
          go_ret
          exact ⟨⟨_, rfl⟩, hbw⟩
      · have i1 : ¬ ((k : Int) < (ks.length : Int)) := by omega
        clear ih h1 h2 h3 hw
        go_wp2_with fail
        go_ret
        exact ⟨⟨_, rfl⟩, hbw⟩

theorem nsizes_take_succ {ks : List Nod} {i : Nat} {k : Nod} (h : ks[i]? = some k) : nsizes (ks.take (i + 1)) = nsizes (ks.take i) + k.size := by
  induction ks generalizing i with
  | nil => simp at h
  | cons x r ih =>
    cases i with
    | zero => simp at h; subst h; simp [nsizes]
    | succ i =>
      simp at h
      simp only [List.take_succ_cons, nsizes]
      rw [ih h]; omega
theorem wrap64_add (a b : Int) : wrap64 (wrap64 a + wrap64 b) = wrap64 (a + b) := by unfold wrap64; omega
theorem size_wrap (s x : Nat) : wrap64 (wrap64 (1 + (s : Int)) + wrap64 (x : Int)) = wrap64 ((1 + (s + x) : Nat) : Int) := by
  rw [wrap64_add]
  congr 1
  omega
set_option maxHeartbeats 2000000 in
theorem nsize_any (q : Nod) : ∀ (cs : List Value) (B : Nat) (w : World), NVal w B cs q → B ≤ w.heap.size →
    Calls Tryz.prog 21 #[.agg cs.toArray] w fun e w' => e = .returned (.int .i64 (wrap64 q.size)) ∧ Below w.heap.size w w' := by
  induction q using Nod.ind with
  | h q ih =>
    intro cs B w hq hB
    obtain ⟨hd, ks, A1, A2, c1, c2, kc, hw, hk, h1, h2, h3⟩ := hq
    simp only [Nod.kids] at ih
    go_enter Tryz.func21, Tryz.ntmps21
    go_wp2_with fail
    go_loopw [9, 3] (fun i s wr => ∃ k : Nat, k ≤ ks.length ∧ i = .int .i64 k ∧ s = .int .i64 (wrap64 ((1 + nsizes (ks.take k) : Nat) : Int)) ∧ Below w.heap.size w wr) (fun i _ _ => ks.length - (intOf i).toNat)
    case atStart => exact ⟨0, Nat.zero_le _, rfl, by simp only [List.take_zero, nsizes, Nat.add_zero]; kernel_rfl, (by exact Base.bel)⟩
    case round =>
      obtain ⟨k, hk', rfl, rfl, hbel⟩ := hrel
      have hkl : ks.length ≤ maxLen := hk
      have hml : maxLen = 9223372036854775807 := rfl
      rcases Nat.lt_or_ge k ks.length with hlt | hge
      · obtain ⟨g, o, rfl, hg, hc⟩ := h2 (by intro h; subst h; simp at hlt)
        obtain ⟨x, hx⟩ : ∃ x, ks[k]? = some x := ⟨_, List.getElem?_eq_getElem hlt⟩
        have hq := (h3 k x hx).kept hbel hB
        obtain ⟨B1, B2, d1, d2, e, x0, x1, x2, x3, x4, x5, x6, x7, x8, x9, x10, x11⟩ := nkid_cells hq (fun j u hu => (hbel.cell (p := ⟨g, o + k * 12 + j, none⟩) (Nat.lt_of_lt_of_le hg hB)).trans (hc k hlt j u hu))
        have IH := Lib.hid (fun W (hW : Below w.heap.size w W) => ih x (List.mem_of_getElem? hx) _ B W ((h3 k x hx).kept hW hB) (Nat.le_trans hB hW.size))
        rw [e] at IH
        unfold ncells at IH
        have hlt2 : (k : Int) < 9223372036854775807 := by omega
        have hs := nsizes_take_succ hx
        clear hc h3 h2 ih hq e hx h1 hw
        go_wp2_with (go_at_call 21; refine (IH.out _ (by exact Base.bel)).mono ?_; rintro e w2 ⟨rfl, hb2⟩)
        go_roundw
        case rel =>
          refine ⟨k + 1, by omega, by go_num, ?_, (by exact Base.bel)⟩
          rw [hs]
          exact congrArg _ (size_wrap _ _)
        case measure => simp [intOf]; omega
      · obtain rfl : k = ks.length := by omega
        go_wp2
        go_ret
        rw [List.take_length]
        exact ⟨rfl, hbel⟩
end Go.Proofs.YtkcfgcdlnojaeaaGreatDoor.NodeWalk

namespace Go.Proofs.YtkcfgcdlnojaeaaGreatDoor.Small
set_option maxRecDepth 100000
open Go.RowKit Go.PlainAid Base Query NodeTree NodeWalk

def SomeB (w : World) (e : Ending) (w' : World) : Prop := (∃ b : Bool, e = .returned (.bool b)) ∧ Below w.heap.size w w'
theorem nod_cells {w : World} {B : Nat} {cs : List Value} {q : Nod} (h : NVal w B cs q) : ∃ k fn T n R, cs.toArray = nodeV k fn T n R := by
  cases h with
  | mk hd ks A1 A2 c1 c2 kc hw hk h1 h2 h3 => exact ⟨_, _, _, _, ⟨hd.lo, hd.hi, A1, hd.occur.length, c1, A2, ks.length, c2⟩, rfl⟩
set_option maxHeartbeats 1000000 in
theorem few_any (q : Nod) (cs : List Value) (B : Nat) (w : World) (m : Int) (hq : NVal w B cs q) (hB : B ≤ w.heap.size) : Calls Tryz.prog 22 #[.agg cs.toArray, .int .i64 m] w (SomeB w) := by
  obtain ⟨k, fn, T, n, R, e⟩ := nod_cells hq
  have LA := Lib.hid (fun W (hW : Below w.heap.size w W) => left_any q cs B W m (hq.kept hW hB) (Nat.le_trans hB hW.size))
  rw [e] at LA ⊢
  unfold nodeV at LA ⊢
  clear hq hB e
  go_enter Tryz.func22, Tryz.ntmps22
  go_wp2_with (go_at_call 56; refine (LA.out _ (by exact Base.bel)).mono ?_; rintro e w2 ⟨⟨v, rfl⟩, hb2⟩)
  go_ret
  exact ⟨⟨_, rfl⟩, bchain (by exact Base.bel) hb2⟩
set_option maxHeartbeats 1000000 in
theorem small_any (q : Nod) (cs : List Value) (B : Nat) (w : World) (hq : NVal w B cs q) (hB : B ≤ w.heap.size) : Calls Tryz.prog 15 #[.agg cs.toArray] w (SomeB w) := by
  obtain ⟨k, fn, T, n, R, e⟩ := nod_cells hq
  have LA := Lib.hid (fun W (hW : Below w.heap.size w W) => few_any q cs B W 4000 (hq.kept hW hB) (Nat.le_trans hB hW.size))
  rw [e] at LA ⊢
  obtain ⟨W1, hW1⟩ : ∃ W, W = w.alloc (.cells (nodeV k fn T n R) 39) := ⟨_, rfl⟩
  have K1 : Blk W1 w.heap.size 39 (nodeV k fn T n R) := by rw [hW1]; exact Blk.new w _ _
  have hbW : Below w.heap.size w W1 := by rw [hW1]; exact Base.bel
  have hlt : w.heap.size < W1.heap.size := by rw [hW1]; simp
  have HW := Lib.hid hW1
  unfold nodeV at LA HW ⊢
  clear hq hB e hW1
  go_enter Tryz.func15, Tryz.ntmps15
  go_wp2_with (go_at_call 22; refine (LA.out _ (by exact Base.bel)).mono ?_; rintro e w2 ⟨⟨v, rfl⟩, hb2⟩; have hb12 : Below W1.heap.size W1 w2 := (by rw [HW.out]; exact hb2); have n2 : w2.cell? ⟨w.heap.size, 2, none⟩ = some (.string T) := (K1.below hb12 hlt).cell 2; cases v)
  all_goals
    go_ret
    exact ⟨⟨_, rfl⟩, bchain hbW hb12⟩
end Go.Proofs.YtkcfgcdlnojaeaaGreatDoor.Small
