/-
  The walk of SegmentKeys.
-/
import Derived.Test.YtnlgenjfijpcpaaChecked
import Derived.Test.YtnlgenjfijpcpaaBase
namespace Go.Proofs.Ytnlgenjfijpcpaa.SegmentKeysWalk
open Go.RowKit Go.PlainAid Base

/-- The byte of a field's number. -/
def kb (f : Int) : UInt8 := UInt8.ofNat (f % 256).toNat
def keyS (f : Int) (t : ByteArray) : ByteArray := ⟨[kb f].toArray⟩ ++ t

theorem kb_u8 (f : Int) : IntKind.u8.wrap f = ((kb f).toNat : Int) := by
  rw [IntKind.wrap_u8]
  unfold kb
  simp
  omega

theorem one_back {P : Program} (w : World) {S B E : TypeId} (b : UInt8) (h1 : P.underlying B = some (.slice E)) (h2 : P.underlying E = some (.int .u8)) (h3 : P.underlying S = some .string) :
    (convert B S (.slice (some ⟨w.heap.size, 0, none⟩) 1 1)).run P (w.alloc (.cells #[.int .u8 (b.toNat : Int)] E)) = .ok (.string ⟨[b].toArray⟩) (w.alloc (.cells #[.int .u8 (b.toNat : Int)] E)) :=
  run_convert_bytes_back (P := P) (w.alloc (.cells #[.int .u8 (b.toNat : Int)] E)) B S E ⟨w.heap.size, 0, none⟩ 1 [b] h1 h2 h3 (fun j hj => by
    simp at hj
    subst hj
    rw [Addr.add_lit, World.cell?_alloc_mark]
    rfl)

theorem key_any (f : Int) (t : ByteArray) (w : World) (ht : t.size ≤ 140737488351232) :
    Calls Try.prog 4 #[.int .i64 f, .string t] w fun e w' => e = .returned (.string (keyS f t)) ∧ Below w.heap.size w w' := by
  have hu := kb_u8 f
  have hbk := one_back (P := Try.prog) w (kb f) Try.underlying24 Try.underlying5 Try.underlying9
  have hs1 : (⟨[kb f].toArray⟩ : ByteArray).size ≤ 1 := Nat.le_refl 1
  go_enter Try.func4, Try.ntmps4
  go_wp2
  go_ret
  exact ⟨rfl, (Below.refl _ _).alloc (Nat.le_refl _) _⟩

theorem tmod_at (f : Int) : f.tmod 256 = if 0 ≤ f then f % 256 else - ((-f) % 256) := by
  by_cases h : 0 ≤ f
  · rw [if_pos h, Int.tmod_eq_emod_of_nonneg h]
  · rw [if_neg h]
    have h1 : (-(-f)).tmod 256 = - ((-f).tmod 256) := Int.neg_tmod ..
    rw [Int.neg_neg] at h1
    rw [h1, Int.tmod_eq_emod_of_nonneg (by omega)]

theorem key_ref (f : Int) (t : ByteArray) (w : World) (ht : t.size ≤ 140737488351232) :
    Calls Try.prog 5 #[.int .i64 f, .string t] w fun e w' => e = .returned (.string (keyS f t)) ∧ Below w.heap.size w w' := by
  have hs1 : (⟨[kb f].toArray⟩ : ByteArray).size ≤ 1 := Nat.le_refl 1
  have hbk := one_back (P := Try.prog) w (kb f) Try.underlying24 Try.underlying5 Try.underlying9
  have ht1 := tmod_at f
  have hk : ((kb f).toNat : Int) = f % 256 := by unfold kb; simp; omega
  have hlo : -256 < f.tmod 256 := by split at ht1 <;> omega
  have hhi : f.tmod 256 < 256 := by split at ht1 <;> omega
  by_cases h : f.tmod 256 < 0
  · have e : f.tmod 256 + 256 = ((kb f).toNat : Int) := by split at ht1 <;> omega
    clear ht1 hk
    go_enter Try.func5, Try.ntmps5
    go_wp2
    go_ret
    exact ⟨rfl, (Below.refl _ _).alloc (Nat.le_refl _) _⟩
  · have e : f.tmod 256 = ((kb f).toNat : Int) := by split at ht1 <;> omega
    clear ht1 hk
    rw [← e] at hbk
    clear e
    have h0 : 0 ≤ f.tmod 256 := by omega
    clear h
    go_enter Try.func5, Try.ntmps5
    go_wp2
    go_ret
    exact ⟨rfl, (Below.refl _ _).alloc (Nat.le_refl _) _⟩

theorem key_ab : keyS 3 ⟨#[97, 98]⟩ = ⟨#[3, 97, 98]⟩ := by decide +kernel

theorem walk (a0 : Int) (a1 : ByteArray) (_w0 : (Lit.int .i64 a0).wf = true) (z1 : a1.size ≤ 140737488351232) (w : World) :
    Calls Try.prog 3 #[.int .i64 a0, .string a1] w fun e w' => e = .returned (.bool true) ∧ Below w.heap.size w w' := by
  have HZ := Lib.hid key_ab
  go_enter Try.func3, Try.ntmps3
  go_wp2_with fail
  refine (key_any _ _ _ (by decide)).mono ?_
  rintro e w1 ⟨rfl, hb1⟩
  rw [HZ.out]
  go_wp2_with fail
  refine (key_any _ _ _ z1).mono ?_
  rintro e w2 ⟨rfl, hb2⟩
  go_wp2_with fail
  refine (key_ref _ _ _ z1).mono ?_
  rintro e w3 ⟨rfl, hb3⟩
  go_wp2
  go_ret
  have s1 := hb1.size
  have s2 := hb2.size
  exact ⟨rfl, (hb1.trans (hb2.mono (by omega))).trans (hb3.mono (by omega))⟩
end Go.Proofs.Ytnlgenjfijpcpaa.SegmentKeysWalk
