/-
  tokens.Field and the reference's Field over any field number.
-/
import Derived.Test.YtmoahflgcojfcaaDoorFieldWalk
import Derived.Test.YtmoahflgcojfcaaDoorRefField
namespace Go.Proofs.YtmoahflgcojfcaaDoor.FieldAny
set_option maxRecDepth 100000
open Go.RowKit Go.PlainAid WordPlain Base App WordBytes WordsWalk StopsWalk ChainPlain OfText NumPlain OfAny OutRow OpenField FieldPlain RefOf FieldWalk RefField

section
variable (fs : List Fld) (i : Int) (vs : List Val) (A1 A2 : Option Addr) (c1 c2 : Nat)

set_option maxHeartbeats 2000000 in
theorem field_none (w : World) (hfl : fs.length ≤ 1048576) (h : ¬ (0 ≤ i ∧ i < fs.length)) :
    Calls Tryd.prog 21 #[.agg #[.slice A1 fs.length c1], .int .i64 i, .slice A2 vs.length c2] w (Toks [] w) := by
  by_cases h1 : i < 0
  · clear h
    go_enter Tryd.func21, Tryd.ntmps21
    go_wp2_with fail
    go_ret
    exact ⟨_, _, rfl, World.ownsRow_nil _ _ _ _, by (repeat (first | exact Below.refl _ _ | assumption | refine balloc ?_ _ | refine bdrew ?_ | refine bdrewN ?_ _ | refine bchain ?_ (by assumption)))⟩
  · have h2 : (fs.length : Int) ≤ i := by omega
    clear h
    go_enter Tryd.func21, Tryd.ntmps21
    go_wp2_with fail
    go_ret
    exact ⟨_, _, rfl, World.ownsRow_nil _ _ _ _, by (repeat (first | exact Below.refl _ _ | assumption | refine balloc ?_ _ | refine bdrew ?_ | refine bdrewN ?_ _ | refine bchain ?_ (by assumption)))⟩

set_option maxHeartbeats 2000000 in
theorem refField_none (w : World) (hfl : fs.length ≤ 1048576) (h : ¬ (0 ≤ i ∧ i < fs.length)) :
    Calls Tryd.prog 22 #[.agg #[.slice A1 fs.length c1], .int .i64 i, .slice A2 vs.length c2] w (RToks [] w) := by
  by_cases h1 : i < 0
  · clear h
    go_enter Tryd.func22, Tryd.ntmps22
    go_wp2_with fail
    go_ret
    exact ⟨_, _, rfl, SlcIn.nil _ _ _ _, by (repeat (first | exact Below.refl _ _ | assumption | refine balloc ?_ _ | refine bdrew ?_ | refine bdrewN ?_ _ | refine bchain ?_ (by assumption)))⟩
  · have h2 : (fs.length : Int) ≤ i := by omega
    clear h
    go_enter Tryd.func22, Tryd.ntmps22
    go_wp2_with fail
    go_ret
    exact ⟨_, _, rfl, SlcIn.nil _ _ _ _, by (repeat (first | exact Below.refl _ _ | assumption | refine balloc ?_ _ | refine bdrew ?_ | refine bdrewN ?_ _ | refine bchain ?_ (by assumption)))⟩

theorem field_any (B : Nat) (w : World) (hB : B ≤ w.heap.size) (ht : Tab w) (h0 : 0 < w.heap.size) (hfl : fs.length ≤ 1048576) (hvs : vsum vs ≤ 1099511627) (h1 : Slc w B A1 (fldCells fs)) (h2 : Slc w B A2 (valCells vs)) :
    Calls Tryd.prog 21 #[.agg #[.slice A1 fs.length c1], .int .i64 i, .slice A2 vs.length c2] w (Toks (fieldT fs i vs) w) := by
  by_cases h : 0 ≤ i ∧ i < fs.length
  · obtain ⟨k, rfl⟩ := Int.eq_ofNat_of_zero_le h.1
    obtain ⟨f, hf⟩ : ∃ f, fs[k]? = some f := ⟨_, List.getElem?_eq_getElem (by omega)⟩
    rw [field_in hf]
    exact field_in_any fs k f vs A1 A2 c1 c2 B w hB ht h0 hf hfl hvs h1 h2
  · rw [field_out h]
    exact field_none fs i vs A1 A2 c1 c2 w hfl h
theorem refField_any (B : Nat) (w : World) (hB : B ≤ w.heap.size) (ht : Tab w) (h0 : 0 < w.heap.size) (hfl : fs.length ≤ 1048576) (hvs : vsum vs ≤ 1099511627) (h1 : Slc w B A1 (fldCells fs)) (h2 : Slc w B A2 (valCells vs)) :
    Calls Tryd.prog 22 #[.agg #[.slice A1 fs.length c1], .int .i64 i, .slice A2 vs.length c2] w (RToks (fieldT fs i vs) w) := by
  by_cases h : 0 ≤ i ∧ i < fs.length
  · obtain ⟨k, rfl⟩ := Int.eq_ofNat_of_zero_le h.1
    obtain ⟨f, hf⟩ : ∃ f, fs[k]? = some f := ⟨_, List.getElem?_eq_getElem (by omega)⟩
    rw [field_in hf]
    exact field_in_ref fs k f vs A1 A2 c1 c2 B w hB ht h0 hf hfl hvs h1 h2
  · rw [field_out h]
    exact refField_none fs i vs A1 A2 c1 c2 w hfl h
theorem fieldT_len (hvs : vsum vs ≤ 1099511627) : (fieldT fs i vs).length ≤ 1099511627 := by
  unfold fieldT
  split
  · split
    · have := fst_len (by assumption) vs vs.length (Nat.le_refl _)
      rw [List.take_length] at this
      omega
    · simp
  · simp
end

/-- A slice of these tokens. -/
def TokV (ts : List Tok) (v : Value) (w : World) : Prop := ∃ A c, v = .slice A ts.length c ∧ Slc w w.heap.size A (tokCells ts)
theorem tokV_stable {ts : List Tok} (v : Value) (w w' : World) (hb : Below w.heap.size w w') (h : TokV ts v w) : TokV ts v w' := by
  obtain ⟨A, c, e, hs⟩ := h
  exact ⟨A, c, e, (hs.below hb (Nat.le_refl _)).mono hb.size⟩
end Go.Proofs.YtmoahflgcojfcaaDoor.FieldAny
