/-
  The walks of schema.goodName and schema.goodKind.
  Plain facts on fields: the tokens of a field's values, one behind the other.
  The walk of schema.Check over any schema.
-/
import Derived.Test.YtkcfgcdlnojaeaaGreatDoorDPlains
import Derived.Test.YtkcfgcdlnojaeaaGreatDoorBase
import Derived.Test.YtkcfgcdlnojaeaaGreatDoorChecked
import Derived.Test.YtkcfgcdlnojaeaaGreatDoorDChains
import Derived.Test.YtkcfgcdlnojaeaaGreatDoorDQry
import Derived.Maps.OwnSet
import Derived.Maps.OwnOps
import Derived.StringKeys
set_option linter.unusedVariables false
set_option linter.unusedSimpArgs false
namespace Go.Proofs.YtkcfgcdlnojaeaaGreatDoor.GoodName
set_option maxRecDepth 100000
open Go.RowKit Go.PlainAid FoldPlain Base

def okAt (s : ByteArray) (i : Nat) : Bool := (decide (97 ≤ bt s i) && decide (bt s i ≤ 122)) || (decide (i ≠ 0) && (bt s i == 95 || (decide (48 ≤ bt s i) && decide (bt s i ≤ 57))))
def okFrom (s : ByteArray) : Nat → Nat → Bool
  | _, 0 => true
  | i, n + 1 => okAt s i && okFrom s (i + 1) n
def nameB (s : ByteArray) : Bool := decide (1 ≤ s.size) && decide (s.size ≤ 32) && okFrom s 0 s.size
def kindB (kd : Int) (a b c : Bool) : Bool := kd == 1 || ((kd == 2 || kd == 3) && !a && !b && !c)

theorem okAt_iff (s : ByteArray) (i : Nat) : okAt s i = true ↔ (97 ≤ bt s i ∧ bt s i ≤ 122) ∨ (i ≠ 0 ∧ (bt s i = 95 ∨ (48 ≤ bt s i ∧ bt s i ≤ 57))) := by
  simp [okAt]
theorem okFrom_step {s : ByteArray} {k : Nat} {r : Bool} (hk : k < s.size) (h : r = okFrom s k (s.size - k)) : r = (okAt s k && okFrom s (k + 1) (s.size - (k + 1))) := by
  rw [h, show s.size - k = (s.size - (k + 1)) + 1 by omega]
  rfl
theorem okFrom_end {s : ByteArray} {r : Bool} (h : r = okFrom s s.size (s.size - s.size)) : r = true := by
  rw [h, Nat.sub_self]; rfl

set_option maxHeartbeats 2000000 in
theorem goodName_any (s : ByteArray) (w : World) (hs : s.size ≤ 9223372036854775807) :
    Calls Tryz.prog 52 #[.string s] w fun e w' => e = .returned (.bool (nameB s)) ∧ w' = w := by
  rcases (by omega : s.size = 0 ∨ 32 < s.size ∨ (1 ≤ s.size ∧ s.size ≤ 32)) with h | h | ⟨h1, h2⟩
  · have hr : nameB s = false := by simp [nameB, h]
    rw [hr]
    go_enter Tryz.func52, Tryz.ntmps52
    have hd : decide ((s.size : Int) < 1) = true := decide_eq_true (by omega)
    clear hr h
    go_wp2_with fail
    go_ret
    exact ⟨rfl, rfl⟩
  · have hr : nameB s = false := by
      unfold nameB; rw [show decide (s.size ≤ 32) = false from decide_eq_false (by omega)]; simp
    rw [hr]
    have hd : decide ((s.size : Int) < 1) = false := decide_eq_false (by omega)
    have hd2 : decide ((32 : Int) < (s.size : Int)) = true := decide_eq_true (by omega)
    go_enter Tryz.func52, Tryz.ntmps52
    clear hr h
    go_wp2_with fail
    go_ret
    exact ⟨rfl, rfl⟩
  · obtain ⟨r, hr⟩ : ∃ r, r = nameB s := ⟨_, rfl⟩
    have hr2 : r = okFrom s 0 s.size := by rw [hr]; unfold nameB; rw [decide_eq_true h1, decide_eq_true h2]; rfl
    rw [← hr]
    have HR := Lib.hid hr2
    clear hr hr2
    have hd : decide ((s.size : Int) < 1) = false := decide_eq_false (by omega)
    have hd2 : decide ((32 : Int) < (s.size : Int)) = false := decide_eq_false (by omega)
    go_enter Tryz.func52, Tryz.ntmps52
    go_wp2_with fail
    go_loop [16] (fun i => ∃ k : Nat, k ≤ s.size ∧ i = .int .i64 k ∧ Hid (r = okFrom s k (s.size - k))) (fun i => s.size - (intOf i).toNat)
    case atStart => exact ⟨0, Nat.zero_le _, rfl, Lib.hid (by simpa using HR.out)⟩
    case round =>
      obtain ⟨k, hk, rfl, hst⟩ := hrel
      by_cases hlt : k < s.size
      · have HS := Lib.hid (okFrom_step hlt hst.out)
        have HO := Lib.hid (okAt_iff s k)
        have hb := get_bt s
        have r0 := bt_nonneg s k
        have r1 := bt_le s k
        clear hst
        go_wp2_with fail
        all_goals first
          | (go_ret
             have hno : okAt s k = false := by
               rw [← Bool.not_eq_true, HO.out]; omega
             have := HS.out
             rw [hno] at this
             rw [this]
             exact ⟨rfl, rfl⟩)
          | (go_round
             case rel =>
               have hyes : okAt s k = true := by rw [HO.out]; omega
               refine ⟨k + 1, by omega, by go_num, Lib.hid ?_⟩
               have := HS.out
               rw [hyes] at this
               exact this
             case measure => simp [intOf]; omega)
          | skip
      · obtain rfl : k = s.size := by omega
        have HE := Lib.hid (okFrom_end hst.out)
        clear hst HR
        go_wp2_with fail
        go_ret
        exact ⟨by rw [HE.out]; rfl, rfl⟩

set_option maxHeartbeats 2000000 in
theorem goodKind_any (nm : ByteArray) (kd : Int) (a b c : Bool) (w : World) :
    Calls Tryz.prog 53 #[.agg #[.string nm, .int .i64 kd, .bool a, .bool b, .bool c]] w fun e w' => e = .returned (.bool (kindB kd a b c)) ∧ Below w.heap.size w w' := by
  have HK := Lib.hid (show kindB kd a b c = (kd == 1 || ((kd == 2 || kd == 3) && !a && !b && !c)) from rfl)
  go_enter Tryz.func53, Tryz.ntmps53
  cases a <;> cases b <;> cases c <;> go_wp2_with fail
  all_goals
    go_ret
    refine ⟨?_, (by exact Base.bel)⟩
    rw [HK.out]
    simp_all
end Go.Proofs.YtkcfgcdlnojaeaaGreatDoor.GoodName

namespace Go.Proofs.YtkcfgcdlnojaeaaGreatDoor.FieldPlain
set_option maxRecDepth 100000
open Go.PlainAid WordPlain ChainPlain NumPlain OfAny OpenField

structure Val where
  nm : ByteArray
  text : ByteArray
instance : Inhabited Val := ⟨⟨ByteArray.empty, ByteArray.empty⟩⟩
def valC (v : Val) : List Value := [.string v.nm, .string v.text]
def valCells : List Val → List Value
  | [] => []
  | v :: r => valC v ++ valCells r
theorem valCells_len : ∀ l : List Val, (valCells l).length = l.length * 2
  | [] => rfl
  | v :: r => by simp only [valCells, List.length_append, valCells_len r, valC, List.length_cons, List.length_nil]; omega
theorem valCells_at : ∀ (l : List Val) (k j : Nat) (v : Val), l[k]? = some v → j < 2 → (valCells l)[k * 2 + j]? = (valC v)[j]?
  | [], _, _, _, h, _ => by simp at h
  | x :: r, 0, j, v, h, hj => by
    simp only [List.getElem?_cons_zero, Option.some.injEq] at h
    subst h
    simp only [valCells]
    rw [List.getElem?_append_left (by simp [valC]; omega)]
    simp
  | x :: r, k + 1, j, v, h, hj => by
    simp only [List.getElem?_cons_succ] at h
    simp only [valCells]
    rw [List.getElem?_append_right (by simp [valC]; omega), ← valCells_at r k j v h hj]
    congr 1
    simp [valC]; omega

def fldCells : List Fld → List Value
  | [] => []
  | f :: r => fldC f ++ fldCells r
theorem fldCells_len : ∀ l : List Fld, (fldCells l).length = l.length * 5
  | [] => rfl
  | v :: r => by simp only [fldCells, List.length_append, fldCells_len r, fldC, List.length_cons, List.length_nil]; omega
theorem fldCells_at : ∀ (l : List Fld) (k j : Nat) (v : Fld), l[k]? = some v → j < 5 → (fldCells l)[k * 5 + j]? = (fldC v)[j]?
  | [], _, _, _, h, _ => by simp at h
  | x :: r, 0, j, v, h, hj => by
    simp only [List.getElem?_cons_zero, Option.some.injEq] at h
    subst h
    simp only [fldCells]
    rw [List.getElem?_append_left (by simp [fldC]; omega)]
    simp
  | x :: r, k + 1, j, v, h, hj => by
    simp only [List.getElem?_cons_succ] at h
    simp only [fldCells]
    rw [List.getElem?_append_right (by simp [fldC]; omega), ← fldCells_at r k j v h hj]
    congr 1
    simp [fldC]; omega

def shT (i : Nat) (b : Int) (t : Tok) : Tok := ⟨t.text, i, t.pos + b, t.start, t.stop⟩
def ofF (f : Fld) (s : ByteArray) : List Tok := ofT f.kd f.fold f.stop f.stem s
def wordsN (f : Fld) (s : ByteArray) : Nat := if f.kd = 1 then (words s).length else 1

def fst (f : Fld) (vs : List Val) : Nat → List Tok × Nat
  | 0 => ([], 0)
  | k + 1 =>
    match vs[k]? with
    | none => fst f vs k
    | some v => if v.nm = f.nm then ((fst f vs k).1 ++ (ofF f v.text).map (shT k (fst f vs k).2), (fst f vs k).2 + (wordsN f v.text + 16)) else fst f vs k
theorem fst_yes {f : Fld} {vs : List Val} {k : Nat} {v : Val} (h : vs[k]? = some v) (hn : v.nm = f.nm) :
    fst f vs (k + 1) = ((fst f vs k).1 ++ (ofF f v.text).map (shT k (fst f vs k).2), (fst f vs k).2 + (wordsN f v.text + 16)) := by
  rw [fst, h]; simp only; rw [if_pos hn]
theorem fst_no {f : Fld} {vs : List Val} {k : Nat} {v : Val} (h : vs[k]? = some v) (hn : v.nm ≠ f.nm) : fst f vs (k + 1) = fst f vs k := by
  rw [fst, h]; simp only; rw [if_neg hn]

def fieldT (fs : List Fld) (i : Int) (vs : List Val) : List Tok :=
  if 0 ≤ i ∧ i < fs.length then (match fs[i.toNat]? with | some f => (fst f vs vs.length).1 | none => []) else []
theorem field_out {fs : List Fld} {i : Int} {vs : List Val} (h : ¬ (0 ≤ i ∧ i < fs.length)) : fieldT fs i vs = [] := by unfold fieldT; rw [if_neg h]
theorem field_in {fs : List Fld} {k : Nat} {f : Fld} {vs : List Val} (h : fs[k]? = some f) : fieldT fs k vs = (fst f vs vs.length).1 := by
  have hk := (List.getElem?_eq_some_iff.1 h).1
  unfold fieldT; rw [if_pos (by omega)]
  simp [h]

def vsum : List Val → Nat
  | [] => 0
  | v :: r => v.nm.size + v.text.size + 3 + vsum r
theorem vsum_append (a b : List Val) : vsum (a ++ b) = vsum a + vsum b := by
  induction a with
  | nil => simp [vsum]
  | cons v r ih => simp only [List.cons_append, vsum, ih]; omega
theorem vsum_take {vs : List Val} {k : Nat} {v : Val} (h : vs[k]? = some v) : vsum (vs.take (k + 1)) = vsum (vs.take k) + (v.nm.size + v.text.size + 3) := by
  rw [take_succ_ h, vsum_append]; simp [vsum]
theorem vsum_take_le (vs : List Val) (k : Nat) : vsum (vs.take k) ≤ vsum vs := by
  conv => rhs; rw [← List.take_append_drop k vs, vsum_append]
  omega
theorem vsum_len (vs : List Val) : vs.length * 3 ≤ vsum vs := by
  induction vs with
  | nil => simp [vsum]
  | cons v r ih => simp only [vsum, List.length_cons]; omega
theorem vsum_text {vs : List Val} {k : Nat} {v : Val} (h : vs[k]? = some v) : v.text.size + 3 ≤ vsum vs := by
  have := vsum_take h
  have := vsum_take_le vs (k + 1)
  omega

theorem wordsN_le (f : Fld) (s : ByteArray) : wordsN f s ≤ s.size + 1 := by
  unfold wordsN; split
  · exact words_len s
  · omega
theorem ofF_len (f : Fld) (s : ByteArray) : (ofF f s).length ≤ s.size + 1 := of_len _ _ _ _ _

theorem fst_len (f : Fld) (vs : List Val) (k : Nat) (hk : k ≤ vs.length) : (fst f vs k).1.length ≤ vsum (vs.take k) := by
  induction k with
  | zero => simp [fst]
  | succ k ih =>
    obtain ⟨v, hv⟩ : ∃ v, vs[k]? = some v := ⟨_, List.getElem?_eq_getElem (by omega)⟩
    have h1 := vsum_take hv
    have h2 := ih (by omega)
    have h3 := ofF_len f v.text
    by_cases hn : v.nm = f.nm
    · rw [fst_yes hv hn]; simp only [List.length_append, List.length_map]; omega
    · rw [fst_no hv hn]; omega
theorem fst_base (f : Fld) (vs : List Val) (k : Nat) (hk : k ≤ vs.length) : (fst f vs k).2 ≤ 17 * vsum (vs.take k) := by
  induction k with
  | zero => simp [fst]
  | succ k ih =>
    obtain ⟨v, hv⟩ : ∃ v, vs[k]? = some v := ⟨_, List.getElem?_eq_getElem (by omega)⟩
    have h1 := vsum_take hv
    have h2 := ih (by omega)
    have h3 := wordsN_le f v.text
    by_cases hn : v.nm = f.nm
    · rw [fst_yes hv hn]; simp only; omega
    · rw [fst_no hv hn]; omega

theorem wst_pos (s : ByteArray) : ∀ k (n : Nat) (t : Tok), (wst s k).1[n]? = some t → t.pos = n := by
  intro k
  induction k with
  | zero => intro n t h; simp [wst] at h
  | succ k ih =>
    intro n t h
    cases hi : inW s k <;> cases h2 : (wst s k).2
    · rw [wst_out_none hi h2] at h; exact ih n t h
    · rw [wst_out_some hi h2] at h
      simp only at h
      rcases Nat.lt_trichotomy n (wst s k).1.length with hn | hn | hn
      · rw [List.getElem?_append_left hn] at h; exact ih n t h
      · rw [hn, List.getElem?_append_right (Nat.le_refl _), Nat.sub_self] at h
        simp only [List.getElem?_cons_zero, Option.some.injEq] at h
        subst h; exact congrArg _ hn.symm
      · rw [List.getElem?_eq_none (by simp; omega)] at h; cases h
    · rw [wst_in_none hi h2] at h; exact ih n t h
    · rw [wst_in_some hi h2] at h; exact ih n t h
theorem words_pos {s : ByteArray} {n : Nat} {t : Tok} (h : (words s)[n]? = some t) : t.pos = n := wst_pos s _ n t h
theorem ofF_pos {f : Fld} {s : ByteArray} {t : Tok} (h : t ∈ ofF f s) : 0 ≤ t.pos ∧ t.pos ≤ s.size + 1 := by
  unfold ofF ofT at h
  split at h
  · unfold textT passed at h
    obtain ⟨u, hu, hp⟩ := List.mem_filterMap.1 h
    obtain ⟨n, hn, e⟩ := List.getElem_of_mem hu
    have := words_pos (s := s) (n := n) (t := u) (by rw [List.getElem?_eq_getElem hn, e])
    have hl := words_len s
    unfold passT at hp
    split at hp
    · obtain rfl := Option.some.inj hp
      simp only [withT]; omega
    · cases hp
  · split at h
    · split at h
      · obtain rfl := List.mem_singleton.1 h; simp [loneT]; omega
      · cases h
    · split at h
      · split at h
        · obtain rfl := List.mem_singleton.1 h; simp [loneT]; omega
        · cases h
      · cases h
theorem map_at {f : Fld} {s : ByteArray} {k i : Nat} {b : Int} {t : Tok} (h : (ofF f s)[k]? = some t) : ((ofF f s).map (shT i b)).take (k + 1) = ((ofF f s).map (shT i b)).take k ++ [shT i b t] :=
  take_succ_ (by rw [List.getElem?_map, h]; rfl)
end Go.Proofs.YtkcfgcdlnojaeaaGreatDoor.FieldPlain

namespace Go.Proofs.YtkcfgcdlnojaeaaGreatDoor.SchemaCheck
set_option maxRecDepth 100000
open Go.RowKit Go.PlainAid Go.Maps FoldPlain Base GoodName OpenField FieldPlain

def fldB (f : Fld) : Bool := nameB f.nm && kindB f.kd f.fold f.stop f.stem
def goodFrom : List ByteArray → List Fld → Bool
  | _, [] => true
  | seen, f :: r => !(seen.any fun x => decide (x = f.nm)) && fldB f && goodFrom (seen ++ [f.nm]) r
def schemaB (fs : List Fld) : Bool := decide (1 ≤ fs.length) && decide (fs.length ≤ 16) && goodFrom [] fs

def names (fs : List Fld) (k : Nat) : List ByteArray := (fs.take k).map Fld.nm
theorem names_succ {fs : List Fld} {k : Nat} {f : Fld} (h : fs[k]? = some f) : names fs (k + 1) = names fs k ++ [f.nm] := by
  unfold names; rw [List.take_add_one, h]; simp
theorem good_step {fs : List Fld} {k : Nat} {f : Fld} {r : Bool} (h : fs[k]? = some f) (hr : r = goodFrom (names fs k) (fs.drop k)) :
    r = (!((names fs k).any fun x => decide (x = f.nm)) && fldB f && goodFrom (names fs (k + 1)) (fs.drop (k + 1))) := by
  have hlt := (List.getElem?_eq_some_iff.1 h).1
  rw [hr, List.drop_eq_getElem_cons hlt, names_succ h]
  rw [List.getElem?_eq_getElem hlt] at h
  rw [Option.some.inj h]
  rfl
theorem good_end {fs : List Fld} {r : Bool} (hr : r = goodFrom (names fs fs.length) (fs.drop fs.length)) : r = true := by
  rw [hr, List.drop_length]; rfl

def klit (s : ByteArray) : Lit := .string s.data.toList
theorem klit_inj {a b : ByteArray} (h : klit a = klit b) : a = b := by
  unfold klit at h
  have h := Lit.string.inj h
  cases a; cases b
  simp only [ByteArray.mk.injEq]
  exact Array.toList_inj.1 h
theorem key_str (s : ByteArray) (hs : s.size ≤ maxLen) : keyOf Tryz.prog 9 (.string s) = some (klit s) := Go.WideMaps.keyOf_string_mk Tryz.underlying9 hs
theorem lawS : Keyed Tryz.prog 9 := string_keyed Tryz.underlying9
theorem zeroI (w : World) : (zeroValue 3).run Tryz.prog w = .ok (.int .i64 0) w := by kernel_rfl
def Holds (D : DataW Unit) (l : List ByteArray) : Prop := ∀ s : ByteArray, Maps.has D (klit s) = l.any fun x => decide (x = s)
theorem holds_put {D : DataW Unit} {l : List ByteArray} {d : DataW Unit} (hD : IsMap D) (h : Holds D l) (s : ByteArray) : Holds (D.put (klit s) d) (l ++ [s]) := fun x => by
  by_cases e : x = s
  · subst e
    rw [has_put_same hD (by exact trivial), List.any_append]
    simp
  · rw [has_put_other (fun h => e (klit_inj h)), h x, List.any_append]
    simp [show ¬ s = x from fun h => e h.symm]
theorem map_below {w w' : World} {b n : Nat} {D : DataW Unit} (h : w.ownsMap Tryz.prog 9 (plainElem Tryz.prog 3) b n D) (hb : Below w.heap.size w w') : w'.ownsMap Tryz.prog 9 (plainElem Tryz.prog 3) b n D := by
  obtain ⟨es, clock, h1, F, h2, h3⟩ := h
  have hlt : b < w.heap.size := (Array.getElem?_eq_some_iff.1 h1).1
  exact ⟨es, clock, (hb.block b hlt).trans h1, F, h2, h3⟩
theorem run_makeMapN (n : Int) (w : World) : (Instr.makeMap 93 (some (.int .i64 n))).run Tryz.prog w = .ok (.map (some w.heap.size)) (w.alloc (.map #[] 0)) := by rfl

def errIf (b : Bool) (ev : Value) : Value := if b then .nilIface else ev

set_option maxHeartbeats 4000000 in
theorem schemaCheck_any (fs : List Fld) (A : Option Addr) (c B : Nat) (ev : Value) (w : World) (hB : B ≤ w.heap.size) (h1 : Slc w B A (fldCells fs)) (hn : ∀ f ∈ fs, f.nm.size ≤ 9223372036854775807) (hlen : fs.length ≤ 9223372036854775807)
    (he : w.cell? ⟨0, 0, none⟩ = some ev) (h0 : 0 < w.heap.size) :
    Calls Tryz.prog 17 #[.agg #[.slice A fs.length c]] w fun e w' => e = .returned (errIf (schemaB fs) ev) ∧ Below w.heap.size w w' := by
  by_cases hl : 1 ≤ fs.length ∧ fs.length ≤ 16
  case neg =>
    have hr : schemaB fs = false := by
      unfold schemaB
      rcases (by omega : ¬ 1 ≤ fs.length ∨ ¬ fs.length ≤ 16) with h | h
      · rw [decide_eq_false h]; rfl
      · rw [decide_eq_false h, Bool.and_false]; rfl
    rw [hr]
    have HC := Lib.hid hl
    clear hr hl h1 hn
    go_enter Tryz.func17, Tryz.ntmps17
    have he2 : ∀ o, (w.alloc o).cell? ⟨0, 0, none⟩ = some ev := fun o => (((Below.refl w.heap.size w).alloc (Nat.le_refl _) o).cell (p := ⟨0, 0, none⟩) h0).trans he
    go_wp2_with fail
    all_goals first | (go_ret; exact ⟨rfl, (by exact Base.bel)⟩) | (exfalso; have := HC.out; omega) | (exfalso; simp_all; done)
  have hr : schemaB fs = goodFrom (names fs 0) (fs.drop 0) := by
    unfold schemaB names; rw [decide_eq_true hl.1, decide_eq_true hl.2]; rfl
  generalize schemaB fs = r at hr ⊢
  have HR := Lib.hid hr
  obtain ⟨l1, l2⟩ := hl
  clear hr
  have hmm := run_makeMapN
  have hmade : ((w.alloc (.cells #[.slice A fs.length c] 36)).alloc (.map #[] 0)).ownsMap Tryz.prog 9 (plainElem Tryz.prog 3) (w.heap.size + 1) 0 (.map [] : DataW Unit) := by
    have := World.ownsMap_made (H := Unit) (w.alloc (.cells #[.slice A fs.length c] 36)) Tryz.prog 9 (plainElem Tryz.prog 3)
    rwa [World.size_alloc] at this
  have hd1 : decide ((fs.length : Int) < 1) = false := decide_eq_false (by omega)
  have hd2 : decide ((16 : Int) < (fs.length : Int)) = false := decide_eq_false (by omega)
  go_enter Tryz.func17, Tryz.ntmps17
  go_wp2_with fail
  clear hd1 hd2
  go_loopw [26] (fun i wr => ∃ (k : Nat) (D : DataW Unit), k ≤ fs.length ∧ i = .int .i64 k ∧ wr.ownsMap Tryz.prog 9 (plainElem Tryz.prog 3) (w.heap.size + 1) k D ∧ Hid (Holds D (names fs k)) ∧ Hid (r = goodFrom (names fs k) (fs.drop k)) ∧ Below w.heap.size w wr) (fun i _ => fs.length - (intOf i).toNat)
  case atStart => exact ⟨0, .map [], Nat.zero_le _, rfl, hmade, Lib.hid (fun s => rfl), HR, (by exact Base.bel)⟩
  case round =>
    obtain ⟨k, D, hk, rfl, hown, hH, hst, hbel⟩ := hrel
    have hg : wr.cell? ⟨0, 0, none⟩ = some ev := (hbel.cell (p := ⟨0, 0, none⟩) h0).trans he
    rcases Nat.lt_or_ge k fs.length with hlt | hge
    · obtain ⟨f, hf⟩ : ∃ f, fs[k]? = some f := ⟨_, List.getElem?_eq_getElem hlt⟩
      have hnm := hn f (List.mem_of_getElem? hf)
      obtain ⟨g, o, rfl, hgb, hc⟩ := (h1.below hbel hB) (by intro e; have := congrArg List.length e; rw [fldCells_len] at this; simp at this; omega)
      have q := fun j (hj : j < 5) => fldCells_at fs k j f hf hj
      have x0 : wr.cell? ⟨g, o + k * 5, none⟩ = some (.string f.nm) := hc (k * 5 + 0) _ (q 0 (by omega))
      have x1 : wr.cell? ⟨g, o + k * 5 + 1, none⟩ = some (.int .i64 f.kd) := by have := hc (k * 5 + 1) _ (q 1 (by omega)); rwa [← Nat.add_assoc] at this
      have x2 : wr.cell? ⟨g, o + k * 5 + 2, none⟩ = some (.bool f.fold) := by have := hc (k * 5 + 2) _ (q 2 (by omega)); rwa [← Nat.add_assoc] at this
      have x3 : wr.cell? ⟨g, o + k * 5 + 3, none⟩ = some (.bool f.stop) := by have := hc (k * 5 + 3) _ (q 3 (by omega)); rwa [← Nat.add_assoc] at this
      have x4 : wr.cell? ⟨g, o + k * 5 + 4, none⟩ = some (.bool f.stem) := by have := hc (k * 5 + 4) _ (q 4 (by omega)); rwa [← Nat.add_assoc] at this
      have HS := Lib.hid (good_step hf hst.out)
      have HF := Lib.hid hf
      have hkey := key_str f.nm hnm
      have hhas := hH.out f.nm
      obtain ⟨hs, hhs⟩ : ∃ b, b = (names fs k).any fun x => decide (x = f.nm) := ⟨_, rfl⟩
      rw [← hhs] at hhas
      have HB := Lib.hid hhs
      have HH := Lib.hid hH.out
      have HHas := Lib.hid hhas
      obtain ⟨nb, hnb⟩ : ∃ b, b = nameB f.nm := ⟨_, rfl⟩
      obtain ⟨kb, hkb⟩ : ∃ b, b = kindB f.kd f.fold f.stop f.stem := ⟨_, rfl⟩
      have GN := Lib.hid (fun W => (hnb ▸ goodName_any f.nm W hnm : Calls Tryz.prog 52 #[.string f.nm] W fun e w' => e = .returned (.bool nb) ∧ w' = W))
      have GK := Lib.hid (fun W => (hkb ▸ goodKind_any f.nm f.kd f.fold f.stop f.stem W : Calls Tryz.prog 53 #[.agg #[.string f.nm, .int .i64 f.kd, .bool f.fold, .bool f.stop, .bool f.stem]] W fun e w' => e = .returned (.bool kb) ∧ Below W.heap.size W w'))
      have HNB := Lib.hid (show fldB f = (nb && kb) by rw [hnb, hkb]; rfl)
      have i3 : (k : Int) < 9223372036854775807 := by omega
      obtain ⟨cv, hrun⟩ : ∃ c : Int, (Instr.lookup 93 (.map (some (w.heap.size + 1))) (.string f.nm) true).run Tryz.prog (wr.alloc (.cells #[.string f.nm, .int .i64 f.kd, .bool f.fold, .bool f.stop, .bool f.stem] 67)) = .ok (.tuple #[.int .i64 c, .bool hs]) (wr.alloc (.cells #[.string f.nm, .int .i64 f.kd, .bool f.fold, .bool f.stop, .bool f.stem] 67)) := by
        obtain ⟨v, ps, hrun, hv⟩ := (hown.alloc (.cells #[.string f.nm, .int .i64 f.kd, .bool f.fold, .bool f.stop, .bool f.stem] 67)).look_ok lawS Tryz.underlying93 (zeroI _) (plainElem_int Tryz.underlying3 (by decide)) hkey
        obtain ⟨c, rfl, _⟩ := plainElem_int_inv Tryz.underlying3 hv
        exact ⟨c, by rw [← hhas]; exact hrun⟩
      clear hc q hst hf hH hhs hhas hnb hkb h1 hn hmm hmade HR
      have hg2 : ∀ o, (wr.alloc o).cell? ⟨0, 0, none⟩ = some ev := fun o => (((Below.refl wr.heap.size wr).alloc (Nat.le_refl _) o).cell (p := ⟨0, 0, none⟩) (Nat.lt_of_lt_of_le h0 hbel.size)).trans hg
      cases hs
      case true =>
        have hr : r = false := by rw [HS.out, ← HB.out]; rfl
        subst hr
        clear i3 hk
        go_wp2_with fail
        go_ret
        exact ⟨rfl, (by exact Base.bel)⟩
      cases nb
      case false =>
        have hr : r = false := by rw [HS.out, HNB.out, Bool.false_and, Bool.and_false, Bool.false_and]
        subst hr
        clear i3 hk
        go_wp2_with (go_at_call 52; refine (GN.out _).mono ?_; rintro e w2 ⟨rfl, rfl⟩)
        go_ret
        exact ⟨rfl, (by exact Base.bel)⟩
      cases kb
      case false =>
        have hr : r = false := by rw [HS.out, HNB.out, Bool.and_false, Bool.and_false, Bool.false_and]
        subst hr
        clear i3 hk
        go_wp2_with (first | (go_at_call 52; refine (GN.out _).mono ?_; rintro e w2 ⟨rfl, rfl⟩) | (go_at_call 53; refine (GK.out _).mono ?_; rintro e w3 ⟨rfl, hb3⟩; have hg3 : w3.cell? ⟨0, 0, none⟩ = some ev := (hb3.cell (p := ⟨0, 0, none⟩) (by rw [World.size_alloc]; exact Nat.lt_succ_of_lt (Nat.lt_of_lt_of_le h0 hbel.size))).trans ((((Below.refl wr.heap.size wr).alloc (Nat.le_refl _) _).cell (p := ⟨0, 0, none⟩) (Nat.lt_of_lt_of_le h0 hbel.size)).trans hg)))
        go_ret
        exact ⟨rfl, (by exact Base.bel)⟩
      go_wp2_with (first | (go_at_call 52; refine (GN.out _).mono ?_; rintro e w2 ⟨rfl, rfl⟩) | (go_at_call 53; refine (GK.out _).mono ?_; rintro e w3 ⟨rfl, hb3⟩; have hbx := (Blk.new wr 67 #[.string f.nm, .int .i64 f.kd, .bool f.fold, .bool f.stop, .bool f.stem]).below hb3 (by rw [World.size_alloc]; omega); have hx0 : w3.cell? ⟨wr.heap.size, 0, none⟩ = some (.string f.nm) := hbx.cell 0))
      obtain ⟨w4, hrun4, hown4, hgr4⟩ := (map_below (hown.alloc (.cells #[.string f.nm, .int .i64 f.kd, .bool f.fold, .bool f.stop, .bool f.stem] 67)) hb3).update lawS Tryz.underlying93 (by show k < maxLen; unfold maxLen; omega) hkey (plainElem_int (a := (k : Int)) Tryz.underlying3 (WalkArith.wf_i64 (by omega)))
      rw [hrun4]
      clear hrun hrun4
      go_wp2_with fail
      go_roundw
      case rel =>
        refine ⟨k + 1, _, by omega, by go_num, hown4, Lib.hid ?_, Lib.hid ?_, ?_⟩
        · rw [names_succ HF.out]
          exact holds_put (hown.tidy lawS).isMap HH.out f.nm
        · rw [HS.out, HNB.out, ← HB.out]; rfl
        · have hall := bchain (hbel.alloc hbel.size _) hb3
          exact ⟨hgr4.os.trans hall.os, hgr4.tape.trans hall.tape, hgr4.output.trans hall.output, Nat.le_trans hall.size hgr4.size, fun j hj => (hgr4.block j (Nat.lt_of_lt_of_le hj hall.size) (by simp; omega)).trans (hall.block j hj)⟩
      case measure => simp [intOf]; omega
    · obtain rfl : k = fs.length := by omega
      have HE := Lib.hid (good_end hst.out)
      clear hst hH hn HR
      go_wp2_with fail
      go_ret
      exact ⟨by rw [HE.out]; rfl, hbel⟩
end Go.Proofs.YtkcfgcdlnojaeaaGreatDoor.SchemaCheck
