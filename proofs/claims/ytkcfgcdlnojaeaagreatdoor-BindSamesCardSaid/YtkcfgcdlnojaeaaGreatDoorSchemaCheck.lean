/-
  The walk of schema.Check over any schema.
-/
import Derived.Test.YtkcfgcdlnojaeaaGreatDoorGoodName
import Derived.Test.YtkcfgcdlnojaeaaGreatDoorFieldPlain
import Derived.Maps.OwnSet
import Derived.Maps.OwnOps
import Derived.StringKeys
namespace Go.Proofs.YtkcfgcdlnojaeaaGreatDoor.SchemaCheck
set_option maxRecDepth 100000
open Go.RowKit Go.PlainAid Go.Maps FoldPlain Base GoodName OpenField FieldPlain

def fldB (f : Fld) : Bool := nameB f.nm && kindB f.kd f.fold f.stop f.stem
def goodFrom : List ByteArray → List Fld → Bool
  | _, [] => true
  | seen, f :: r => !(seen.any fun x => decide (x = f.nm)) && fldB f && goodFrom (seen ++ [f.nm]) r
/-- Is the schema good? -/
def schemaB (fs : List Fld) : Bool := decide (1 ≤ fs.length) && decide (fs.length ≤ 16) && goodFrom [] fs

def names (fs : List Fld) (k : Nat) : List ByteArray := (fs.take k).map Fld.nm
theorem names_succ {fs : List Fld} {k : Nat} {f : Fld} (h : fs[k]? = some f) : names fs (k + 1) = names fs k ++ [f.nm] := by
  unfold names; rw [List.take_add_one, h]; simp
theorem good_step {fs : List Fld} {k : Nat} {f : Fld} {r : Bool} (h : fs[k]? = some f) (hr : r = goodFrom (names fs k) (fs.drop k)) :
    r = (!((names fs k).any fun x => decide (x = f.nm)) && fldB f && goodFrom (names fs (k + 1)) (fs.drop (k + 1))) := by
  have hlt := (List.getElem?_eq_some_iff.1 h).1
  rw [hr, List.drop_eq_getElem_cons hlt, names_succ h]
  rw [List.getElem?_eq_getElem hlt] at h
  rw [Option.some.inj h]
  rfl
theorem good_end {fs : List Fld} {r : Bool} (hr : r = goodFrom (names fs fs.length) (fs.drop fs.length)) : r = true := by
  rw [hr, List.drop_length]; rfl

/-- A string as a key. -/
def klit (s : ByteArray) : Lit := .string s.data.toList
theorem klit_inj {a b : ByteArray} (h : klit a = klit b) : a = b := by
  unfold klit at h
  have h := Lit.string.inj h
  cases a; cases b
  simp only [ByteArray.mk.injEq]
  exact Array.toList_inj.1 h
theorem key_str (s : ByteArray) (hs : s.size ≤ maxLen) : keyOf Tryz.prog 9 (.string s) = some (klit s) := Go.WideMaps.keyOf_string_mk Tryz.underlying9 hs
theorem lawS : Keyed Tryz.prog 9 := string_keyed Tryz.underlying9
theorem zeroI (w : World) : (zeroValue 3).run Tryz.prog w = .ok (.int .i64 0) w := by kernel_rfl
/-- The map holds these names. -/
def Holds (D : DataW Unit) (l : List ByteArray) : Prop := ∀ s : ByteArray, Maps.has D (klit s) = l.any fun x => decide (x = s)
theorem holds_put {D : DataW Unit} {l : List ByteArray} {d : DataW Unit} (hD : IsMap D) (h : Holds D l) (s : ByteArray) : Holds (D.put (klit s) d) (l ++ [s]) := fun x => by
  by_cases e : x = s
  · subst e
    rw [has_put_same hD (by exact trivial), List.any_append]
    simp
  · rw [has_put_other (fun h => e (klit_inj h)), h x, List.any_append]
    simp [show ¬ s = x from fun h => e h.symm]
theorem map_below {w w' : World} {b n : Nat} {D : DataW Unit} (h : w.ownsMap Tryz.prog 9 (plainElem Tryz.prog 3) b n D) (hb : Below w.heap.size w w') : w'.ownsMap Tryz.prog 9 (plainElem Tryz.prog 3) b n D := by
  obtain ⟨es, clock, h1, F, h2, h3⟩ := h
  have hlt : b < w.heap.size := (Array.getElem?_eq_some_iff.1 h1).1
  exact ⟨es, clock, (hb.block b hlt).trans h1, F, h2, h3⟩
theorem run_makeMapN (n : Int) (w : World) : (Instr.makeMap 93 (some (.int .i64 n))).run Tryz.prog w = .ok (.map (some w.heap.size)) (w.alloc (.map #[] 0)) := by rfl

/-- Nil, or the error. -/
def errIf (b : Bool) (ev : Value) : Value := if b then .nilIface else ev

set_option maxHeartbeats 4000000 in
theorem schemaCheck_any (fs : List Fld) (A : Option Addr) (c B : Nat) (ev : Value) (w : World) (hB : B ≤ w.heap.size) (h1 : Slc w B A (fldCells fs)) (hn : ∀ f ∈ fs, f.nm.size ≤ 9223372036854775807) (hlen : fs.length ≤ 9223372036854775807)
    (he : w.cell? ⟨0, 0, none⟩ = some ev) (h0 : 0 < w.heap.size) :
    Calls Tryz.prog 17 #[.agg #[.slice A fs.length c]] w fun e w' => e = .returned (errIf (schemaB fs) ev) ∧ Below w.heap.size w w' := by
  by_cases hl : 1 ≤ fs.length ∧ fs.length ≤ 16
  case neg =>
    have hr : schemaB fs = false := by
      unfold schemaB
      rcases (by omega : ¬ 1 ≤ fs.length ∨ ¬ fs.length ≤ 16) with h | h
      · rw [decide_eq_false h]; rfl
      · rw [decide_eq_false h, Bool.and_false]; rfl
    rw [hr]
    have HC := Lib.hid hl
    clear hr hl h1 hn
    go_enter Tryz.func17, Tryz.ntmps17
    have he2 : ∀ o, (w.alloc o).cell? ⟨0, 0, none⟩ = some ev := fun o => (((Below.refl w.heap.size w).alloc (Nat.le_refl _) o).cell (p := ⟨0, 0, none⟩) h0).trans he
    go_wp2_with fail
    all_goals first | (go_ret; exact ⟨rfl, (by (repeat (first | exact Below.refl _ _ | assumption | refine balloc ?_ _ | refine bdrew ?_ | refine bdrewN ?_ _ | refine bchain ?_ (by assumption))))⟩) | (exfalso; have := HC.out; omega) | (exfalso; simp_all; done)
  have hr : schemaB fs = goodFrom (names fs 0) (fs.drop 0) := by
    unfold schemaB names; rw [decide_eq_true hl.1, decide_eq_true hl.2]; rfl
  generalize schemaB fs = r at hr ⊢
  have HR := Lib.hid hr
  obtain ⟨l1, l2⟩ := hl
  clear hr
  have hmm := run_makeMapN
  have hmade : ((w.alloc (.cells #[.slice A fs.length c] 36)).alloc (.map #[] 0)).ownsMap Tryz.prog 9 (plainElem Tryz.prog 3) (w.heap.size + 1) 0 (.map [] : DataW Unit) := by
    have := World.ownsMap_made (H := Unit) (w.alloc (.cells #[.slice A fs.length c] 36)) Tryz.prog 9 (plainElem Tryz.prog 3)
    rwa [World.size_alloc] at this
  have hd1 : decide ((fs.length : Int) < 1) = false := decide_eq_false (by omega)
  have hd2 : decide ((16 : Int) < (fs.length : Int)) = false := decide_eq_false (by omega)
  go_enter Tryz.func17, Tryz.ntmps17
  go_wp2_with fail
  clear hd1 hd2
  go_loopw [26] (fun i wr => ∃ (k : Nat) (D : DataW Unit), k ≤ fs.length ∧ i = .int .i64 k ∧ wr.ownsMap Tryz.prog 9 (plainElem Tryz.prog 3) (w.heap.size + 1) k D ∧ Hid (Holds D (names fs k)) ∧ Hid (r = goodFrom (names fs k) (fs.drop k)) ∧ Below w.heap.size w wr) (fun i _ => fs.length - (intOf i).toNat)
  case atStart => exact ⟨0, .map [], Nat.zero_le _, rfl, hmade, Lib.hid (fun s => rfl), HR, (by (repeat (first | exact Below.refl _ _ | assumption | refine balloc ?_ _ | refine bdrew ?_ | refine bdrewN ?_ _ | refine bchain ?_ (by assumption))))⟩
  case round =>
    obtain ⟨k, D, hk, rfl, hown, hH, hst, hbel⟩ := hrel
    have hg : wr.cell? ⟨0, 0, none⟩ = some ev := (hbel.cell (p := ⟨0, 0, none⟩) h0).trans he
    rcases Nat.lt_or_ge k fs.length with hlt | hge
    · obtain ⟨f, hf⟩ : ∃ f, fs[k]? = some f := ⟨_, List.getElem?_eq_getElem hlt⟩
      have hnm := hn f (List.mem_of_getElem? hf)
      obtain ⟨g, o, rfl, hgb, hc⟩ := (h1.below hbel hB) (by intro e; have := congrArg List.length e; rw [fldCells_len] at this; simp at this; omega)
      have q := fun j (hj : j < 5) => fldCells_at fs k j f hf hj
      have x0 : wr.cell? ⟨g, o + k * 5, none⟩ = some (.string f.nm) := hc (k * 5 + 0) _ (q 0 (by omega))
      have x1 : wr.cell? ⟨g, o + k * 5 + 1, none⟩ = some (.int .i64 f.kd) := by have := hc (k * 5 + 1) _ (q 1 (by omega)); rwa [← Nat.add_assoc] at this
      have x2 : wr.cell? ⟨g, o + k * 5 + 2, none⟩ = some (.bool f.fold) := by have := hc (k * 5 + 2) _ (q 2 (by omega)); rwa [← Nat.add_assoc] at this
      have x3 : wr.cell? ⟨g, o + k * 5 + 3, none⟩ = some (.bool f.stop) := by have := hc (k * 5 + 3) _ (q 3 (by omega)); rwa [← Nat.add_assoc] at this
      have x4 : wr.cell? ⟨g, o + k * 5 + 4, none⟩ = some (.bool f.stem) := by have := hc (k * 5 + 4) _ (q 4 (by omega)); rwa [← Nat.add_assoc] at this
      have HS := Lib.hid (good_step hf hst.out)
      have HF := Lib.hid hf
      have hkey := key_str f.nm hnm
      have hhas := hH.out f.nm
      obtain ⟨hs, hhs⟩ : ∃ b, b = (names fs k).any fun x => decide (x = f.nm) := ⟨_, rfl⟩
      rw [← hhs] at hhas
      have HB := Lib.hid hhs
      have HH := Lib.hid hH.out
      have HHas := Lib.hid hhas
      obtain ⟨nb, hnb⟩ : ∃ b, b = nameB f.nm := ⟨_, rfl⟩
      obtain ⟨kb, hkb⟩ : ∃ b, b = kindB f.kd f.fold f.stop f.stem := ⟨_, rfl⟩
      have GN := Lib.hid (fun W => (hnb ▸ goodName_any f.nm W hnm : Calls Tryz.prog 52 #[.string f.nm] W fun e w' => e = .returned (.bool nb) ∧ w' = W))
      have GK := Lib.hid (fun W => (hkb ▸ goodKind_any f.nm f.kd f.fold f.stop f.stem W : Calls Tryz.prog 53 #[.agg #[.string f.nm, .int .i64 f.kd, .bool f.fold, .bool f.stop, .bool f.stem]] W fun e w' => e = .returned (.bool kb) ∧ Below W.heap.size W w'))
      have HNB := Lib.hid (show fldB f = (nb && kb) by rw [hnb, hkb]; rfl)
      have i3 : (k : Int) < 9223372036854775807 := by omega
      obtain ⟨cv, hrun⟩ : ∃ c : Int, (Instr.lookup 93 (.map (some (w.heap.size + 1))) (.string f.nm) true).run Tryz.prog (wr.alloc (.cells #[.string f.nm, .int .i64 f.kd, .bool f.fold, .bool f.stop, .bool f.stem] 67)) = .ok (.tuple #[.int .i64 c, .bool hs]) (wr.alloc (.cells #[.string f.nm, .int .i64 f.kd, .bool f.fold, .bool f.stop, .bool f.stem] 67)) := by
        obtain ⟨v, ps, hrun, hv⟩ := (hown.alloc (.cells #[.string f.nm, .int .i64 f.kd, .bool f.fold, .bool f.stop, .bool f.stem] 67)).look_ok lawS Tryz.underlying93 (zeroI _) (plainElem_int Tryz.underlying3 (by decide)) hkey
        obtain ⟨c, rfl, _⟩ := plainElem_int_inv Tryz.underlying3 hv
        exact ⟨c, by rw [← hhas]; exact hrun⟩
      clear hc q hst hf hH hhs hhas hnb hkb h1 hn hmm hmade HR
      have hg2 : ∀ o, (wr.alloc o).cell? ⟨0, 0, none⟩ = some ev := fun o => (((Below.refl wr.heap.size wr).alloc (Nat.le_refl _) o).cell (p := ⟨0, 0, none⟩) (Nat.lt_of_lt_of_le h0 hbel.size)).trans hg
      cases hs
      case true =>
        have hr : r = false := by rw [HS.out, ← HB.out]; rfl
        subst hr
        clear i3 hk
        go_wp2_with fail
        go_ret
        exact ⟨rfl, (by (repeat (first | exact Below.refl _ _ | assumption | refine balloc ?_ _ | refine bdrew ?_ | refine bdrewN ?_ _ | refine bchain ?_ (by assumption))))⟩
      cases nb
      case false =>
        have hr : r = false := by rw [HS.out, HNB.out, Bool.false_and, Bool.and_false, Bool.false_and]
        subst hr
        clear i3 hk
        go_wp2_with (go_at_call 52; refine (GN.out _).mono ?_; rintro e w2 ⟨rfl, rfl⟩)
        go_ret
        exact ⟨rfl, (by (repeat (first | exact Below.refl _ _ | assumption | refine balloc ?_ _ | refine bdrew ?_ | refine bdrewN ?_ _ | refine bchain ?_ (by assumption))))⟩
      cases kb
      case false =>
        have hr : r = false := by rw [HS.out, HNB.out, Bool.and_false, Bool.and_false, Bool.false_and]
        subst hr
        clear i3 hk
        go_wp2_with (first | (go_at_call 52; refine (GN.out _).mono ?_; rintro e w2 ⟨rfl, rfl⟩) | (go_at_call 53; refine (GK.out _).mono ?_; rintro e w3 ⟨rfl, hb3⟩; have hg3 : w3.cell? ⟨0, 0, none⟩ = some ev := (hb3.cell (p := ⟨0, 0, none⟩) (by rw [World.size_alloc]; exact Nat.lt_succ_of_lt (Nat.lt_of_lt_of_le h0 hbel.size))).trans ((((Below.refl wr.heap.size wr).alloc (Nat.le_refl _) _).cell (p := ⟨0, 0, none⟩) (Nat.lt_of_lt_of_le h0 hbel.size)).trans hg)))
        go_ret
        exact ⟨rfl, (by (repeat (first | exact Below.refl _ _ | assumption | refine balloc ?_ _ | refine bdrew ?_ | refine bdrewN ?_ _ | refine bchain ?_ (by assumption))))⟩
      go_wp2_with (first | (go_at_call 52; refine (GN.out _).mono ?_; rintro e w2 ⟨rfl, rfl⟩) | (go_at_call 53; refine (GK.out _).mono ?_; rintro e w3 ⟨rfl, hb3⟩; have hbx := (Blk.new wr 67 #[.string f.nm, .int .i64 f.kd, .bool f.fold, .bool f.stop, .bool f.stem]).below hb3 (by rw [World.size_alloc]; omega); have hx0 : w3.cell? ⟨wr.heap.size, 0, none⟩ = some (.string f.nm) := hbx.cell 0))
      obtain ⟨w4, hrun4, hown4, hgr4⟩ := (map_below (hown.alloc (.cells #[.string f.nm, .int .i64 f.kd, .bool f.fold, .bool f.stop, .bool f.stem] 67)) hb3).update lawS Tryz.underlying93 (by show k < maxLen; unfold maxLen; omega) hkey (plainElem_int (a := (k : Int)) Tryz.underlying3 (WalkArith.wf_i64 (by omega)))
      rw [hrun4]
      clear hrun hrun4
      go_wp2_with fail
      go_roundw
      case rel =>
        refine ⟨k + 1, _, by omega, by go_num, hown4, Lib.hid ?_, Lib.hid ?_, ?_⟩
        · rw [names_succ HF.out]
          exact holds_put (hown.tidy lawS).isMap HH.out f.nm
        · rw [HS.out, HNB.out, ← HB.out]; rfl
        · have hall := bchain (hbel.alloc hbel.size _) hb3
          exact ⟨hgr4.os.trans hall.os, hgr4.tape.trans hall.tape, hgr4.output.trans hall.output, Nat.le_trans hall.size hgr4.size, fun j hj => (hgr4.block j (Nat.lt_of_lt_of_le hj hall.size) (by simp; omega)).trans (hall.block j hj)⟩
      case measure => simp [intOf]; omega
    · obtain rfl : k = fs.length := by omega
      have HE := Lib.hid (good_end hst.out)
      clear hst hH hn HR
      go_wp2_with fail
      go_ret
      exact ⟨by rw [HE.out]; rfl, hbel⟩
end Go.Proofs.YtkcfgcdlnojaeaaGreatDoor.SchemaCheck
