/-
  The walk of schema.Find over any schema and name.
-/
import Derived.Test.YtkcfgcdlnojaeaaGreatDoorDSchema
import Derived.Deep.Cut
set_option linter.unusedVariables false
set_option linter.unusedSimpArgs false
namespace Go.Proofs.YtkcfgcdlnojaeaaGreatDoor.SchFind
set_option maxRecDepth 100000
open Go.RowKit Go.PlainAid FoldPlain Base OpenField FieldPlain

def findF (nm : ByteArray) : List Fld → Nat → Option Nat
  | [], _ => none
  | f :: r, k => if f.nm = nm then some k else findF nm r (k + 1)
def findS (fs : List Fld) (nm : ByteArray) : Option Nat := findF nm fs 0
theorem find_step {fs : List Fld} {nm : ByteArray} {k : Nat} {f : Fld} {r : Option Nat} (h : fs[k]? = some f) (hr : r = findF nm (fs.drop k) k) : r = if f.nm = nm then some k else findF nm (fs.drop (k + 1)) (k + 1) := by
  have hlt := (List.getElem?_eq_some_iff.1 h).1
  rw [hr, List.drop_eq_getElem_cons hlt]
  rw [List.getElem?_eq_getElem hlt] at h
  rw [Option.some.inj h]
  rfl
theorem find_end {fs : List Fld} {nm : ByteArray} {r : Option Nat} (hr : r = findF nm (fs.drop fs.length) fs.length) : r = none := by
  rw [hr, List.drop_length]; rfl
theorem fa_ba {a b : ByteArray} (h : a.toList = b.toList) : a = b := by
  rw [ByteArray.toList_eq, ByteArray.toList_eq] at h
  cases a; cases b
  simp only [ByteArray.mk.injEq]
  exact Array.toList_inj.1 h

set_option maxHeartbeats 2000000 in
theorem find_any (fs : List Fld) (nm : ByteArray) (A : Option Addr) (c B : Nat) (w : World) (hB : B ≤ w.heap.size) (h1 : Slc w B A (fldCells fs)) (hlen : fs.length ≤ 9223372036854775807) :
    Calls Tryz.prog 94 #[.agg #[.slice A fs.length c], .string nm] w fun e w' => e = .returned (.tuple #[.int .i64 ((findS fs nm).getD 0 : Nat), .bool (findS fs nm).isSome]) ∧ Below w.heap.size w w' := by
  obtain ⟨R, hR⟩ : ∃ R, R = findF nm (fs.drop 0) 0 := ⟨_, rfl⟩
  have hR' : findS fs nm = R := hR.symm
  rw [hR']
  have HR := Lib.hid hR
  clear hR hR'
  go_enter Tryz.func94, Tryz.ntmps94
  go_wp2_with fail
  go_loopw [11] (fun i wr => ∃ k : Nat, k ≤ fs.length ∧ i = .int .i64 k ∧ Hid (R = findF nm (fs.drop k) k) ∧ Below w.heap.size w wr) (fun i _ => fs.length - (intOf i).toNat)
  case atStart => exact ⟨0, Nat.zero_le _, rfl, HR, (by exact Base.bel)⟩
  case round =>
    obtain ⟨k, hk, rfl, hst, hbel⟩ := hrel
    rcases Nat.lt_or_ge k fs.length with hlt | hge
    · obtain ⟨f, hf⟩ : ∃ f, fs[k]? = some f := ⟨_, List.getElem?_eq_getElem hlt⟩
      obtain ⟨g, o, rfl, hgb, hc⟩ := (h1.below hbel hB) (by intro e; have := congrArg List.length e; rw [fldCells_len] at this; simp at this; omega)
      have q := fun j (hj : j < 5) => fldCells_at fs k j f hf hj
      have x0 : wr.cell? ⟨g, o + k * 5, none⟩ = some (.string f.nm) := hc (k * 5 + 0) _ (q 0 (by omega))
      have x1 : wr.cell? ⟨g, o + k * 5 + 1, none⟩ = some (.int .i64 f.kd) := by have := hc (k * 5 + 1) _ (q 1 (by omega)); rwa [← Nat.add_assoc] at this
      have x2 : wr.cell? ⟨g, o + k * 5 + 2, none⟩ = some (.bool f.fold) := by have := hc (k * 5 + 2) _ (q 2 (by omega)); rwa [← Nat.add_assoc] at this
      have x3 : wr.cell? ⟨g, o + k * 5 + 3, none⟩ = some (.bool f.stop) := by have := hc (k * 5 + 3) _ (q 3 (by omega)); rwa [← Nat.add_assoc] at this
      have x4 : wr.cell? ⟨g, o + k * 5 + 4, none⟩ = some (.bool f.stem) := by have := hc (k * 5 + 4) _ (q 4 (by omega)); rwa [← Nat.add_assoc] at this
      have HS := Lib.hid (find_step hf hst.out)
      have i2 : (k : Int) < (fs.length : Int) := by omega
      have i3 : (k : Int) < 9223372036854775807 := by omega
      have HB := Lib.hid hbel
      clear hc q hf hst h1 HR
      rcases Classical.em (f.nm = nm) with he | he
      · have hr := Lib.hid (HS.out.trans (if_pos he))
        have e1 : (f.nm.toList == nm.toList) = true := by rw [he]; simp
        clear he
        go_wp2_with fail
        go_ret2
        rw [hr.out]
        exact ⟨rfl, (by exact Base.bel)⟩
      · have hr := Lib.hid (HS.out.trans (if_neg he))
        have e1 : (f.nm.toList == nm.toList) = false := beq_eq_false_iff_ne.2 fun h => he (fa_ba h)
        clear he
        go_wp2_with fail
        go_roundw
        case rel => exact ⟨k + 1, by omega, by go_num, hr, (by exact Base.bel)⟩
        case measure => simp [intOf]; omega
    · obtain rfl : k = fs.length := by omega
      have HE := Lib.hid (find_end hst.out)
      clear hst h1 HR
      go_wp2_with fail
      go_ret2
      rw [HE.out]
      exact ⟨rfl, hbel⟩
end Go.Proofs.YtkcfgcdlnojaeaaGreatDoor.SchFind
