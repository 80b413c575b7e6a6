/-
  The walks of the small functions under tokens.Stem: endings, double, short, longest, replace.
-/
import Derived.Test.YtmoahflgcojfcaaDoorVowels
import Derived.Lib.Bytealg
namespace Go.Proofs.YtmoahflgcojfcaaDoor.StemWalk
set_option maxRecDepth 100000
open Go.RowKit Go.PlainAid StemPlain Base Vowels

theorem ret_bool {a b : Bool} (h : a = b) : Ending.returned (.bool a) = .returned (.bool b) := by rw [h]
theorem ret_str {a b : ByteArray} (h : a = b) : Ending.returned (.string a) = .returned (.string b) := by rw [h]

theorem sfx_short {s e : ByteArray} (h : ¬ e.size ≤ s.size) : sfx s e = false := by unfold sfx; simp [h]
theorem sfx_long {s e : ByteArray} (h : e.size ≤ s.size) : ((s.extract (s.size - e.size) s.size).toList == e.toList) = sfx s e := by
  unfold sfx; rw [decide_eq_true h, Bool.true_and, ByteArray.toList_eq, ByteArray.toList_eq]

set_option maxHeartbeats 1000000 in
theorem hasSuffix_any (s e : ByteArray) (w : World) (hs : s.size ≤ 281474976710656) (he : e.size ≤ 281474976710656) :
    Calls Tryd.prog 33 #[.string s, .string e] w fun r w' => r = .returned (.bool (sfx s e)) ∧ w' = w := by
  by_cases h : e.size ≤ s.size
  · have HL := Lib.hid (sfx_long h)
    go_enter Tryd.func33, Tryd.ntmps33
    go_wp2
    go_ret
    exact ⟨ret_bool HL.out, rfl⟩
  · have hs := Lib.hid (sfx_short h)
    go_enter Tryd.func33, Tryd.ntmps33
    go_wp2
    go_ret
    exact ⟨ret_bool hs.out.symm, rfl⟩

set_option maxHeartbeats 1000000 in
theorem sl_indexByte (s : ByteArray) (x : Int) (w : World) :
    Calls Tryd.prog 82 #[.string s, .int .u8 x] w fun r w' => r = .returned (.int .i64 (Lib.indexByte s.data.toList x.toNat.toUInt8)) ∧ w' = w := by
  go_enter Tryd.func82, Tryd.ntmps82
  go_wp2
  rw [run_callFunc_extern Tryd.func98 (by kernel_rfl) (by kernel_rfl) (by kernel_rfl) (e := Extern.BytealgIndexByte.indexByte) (by kernel_rfl), Lib.run_indexByteString]
  simp only [Result.andThen]
  rw [Oper.upon_value]
  go_wp2
  go_ret
  exact ⟨rfl, rfl⟩

theorem indexByte_any (s : ByteArray) (x : Int) (w : World) :
    Calls Tryd.prog 62 #[.string s, .int .u8 x] w fun r w' => r = .returned (.int .i64 (Lib.indexByte s.data.toList x.toNat.toUInt8)) ∧ w' = w := by
  go_enter Tryd.func62, Tryd.ntmps62
  go_wp2_with (go_at_call 82; refine (sl_indexByte _ _ _).mono ?_; rintro e w' ⟨rfl, rfl⟩)
  go_ret
  exact ⟨rfl, rfl⟩

theorem ib3_all (a b c : UInt8) (x : UInt8) : 0 ≤ Lib.indexByte [a, b, c] x ↔ (a = x ∨ b = x ∨ c = x) := by
  unfold Lib.indexByte Lib.indexByte Lib.indexByte Lib.indexByte
  by_cases h1 : a = x <;> by_cases h2 : b = x <;> by_cases h3 : c = x <;> simp [h1, h2, h3]

theorem u8_of (x : Int) (h0 : 0 ≤ x) (h1 : x ≤ 255) (n : Nat) (hn : n < 256) : n.toUInt8 = x.toNat.toUInt8 ↔ x = n := by
  rw [← UInt8.toNat_inj]
  simp
  omega

theorem ib_wxy (x : Int) (h0 : 0 ≤ x) (h1 : x ≤ 255) : decide (0 ≤ Lib.indexByte [119, 120, 121] x.toNat.toUInt8) = wxy x := by
  rw [Bool.eq_iff_iff, decide_eq_true_iff, ib3_all]
  have e1 := u8_of x h0 h1 119 (by decide)
  have e2 := u8_of x h0 h1 120 (by decide)
  have e3 := u8_of x h0 h1 121 (by decide)
  have : wxy x = true ↔ (x = 119 ∨ x = 120 ∨ x = 121) := by unfold wxy; simp [or_assoc]
  rw [this]
  exact or_congr e1 (or_congr e2 e3)

theorem ib_lsz (x : Int) (h0 : 0 ≤ x) (h1 : x ≤ 255) : decide (Lib.indexByte [108, 115, 122] x.toNat.toUInt8 < 0) = !lsz x := by
  rw [← decide_eq_decide.2 (Int.not_le), decide_not]
  congr 1
  rw [Bool.eq_iff_iff, decide_eq_true_iff, ib3_all]
  have e1 := u8_of x h0 h1 108 (by decide)
  have e2 := u8_of x h0 h1 115 (by decide)
  have e3 := u8_of x h0 h1 122 (by decide)
  have : lsz x = true ↔ (x = 108 ∨ x = 115 ∨ x = 122) := by unfold lsz; simp [or_assoc]
  rw [this]
  exact or_congr e1 (or_congr e2 e3)

end Go.Proofs.YtmoahflgcojfcaaDoor.StemWalk
