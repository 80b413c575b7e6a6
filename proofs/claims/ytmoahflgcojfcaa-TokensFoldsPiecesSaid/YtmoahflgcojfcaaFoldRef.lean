/-
  The walk of the reference's Fold: it gives foldS; old memory stays.
-/
import Derived.Test.YtmoahflgcojfcaaChecked
import Derived.Test.YtmoahflgcojfcaaFoldPlain
import Derived.Test.YtmoahflgcojfcaaBase
import Derived.Test.YtmoahflgcojfcaaFoldWalk
namespace Go.Proofs.Ytmoahflgcojfcaa.FoldRef
open Go.RowKit Go.PlainAid FoldPlain Base FoldWalk

theorem u8elem : Elem Try.prog 32 5 (.int .u8 0) 1 1 := .mk_ Try.underlying32 (by kernel_rfl) rfl (by decide)

/-- The first k bytes folded. -/
def fl (s : ByteArray) (k : Nat) : List UInt8 := (List.range k).map fun j => UInt8.ofNat (fb s j).toNat

theorem fl_len (s : ByteArray) (k : Nat) : (fl s k).length = k := by simp [fl]
theorem fl_cell (s : ByteArray) (k : Nat) : ((UInt8.ofNat (fb s k).toNat).toNat : Int) = fb s k := by
  have := fb_range s k
  simp
  omega
theorem fl_succ (s : ByteArray) (k : Nat) : byteCells (fl s (k + 1)) = byteCells (fl s k) ++ [.int .u8 (fb s k)] := by
  unfold fl byteCells
  rw [List.range_succ, List.map_append, List.map_append, List.map_singleton, List.map_singleton, fl_cell]
theorem fl_all (s : ByteArray) : (⟨(fl s s.size).toArray⟩ : ByteArray) = foldS s := rfl

set_option maxHeartbeats 1000000 in
theorem fold_ref (s : ByteArray) (w : World) (hs : s.size ≤ 140737488351232) :
    Calls Try.prog 10 #[.string s] w fun e w' => e = .returned (.string (foldS s)) ∧ Below w.heap.size w w' := by
  go_enter Try.func10, Try.ntmps10
  go_wp2
  go_loopw [3, 4] (fun v i wr => ∃ k : Nat, k ≤ s.size ∧ i = .int .i64 k ∧ wr.ownsRow w.heap.size 5 1 v k (byteCells (fl s k)) ∧ Below w.heap.size w wr) (fun _ i _ => s.size - (intOf i).toNat)
  case atStart => exact ⟨0, Nat.zero_le _, rfl, World.ownsRow_lit w #[] 0 (Nat.le_refl _) (by decide) rfl, (Below.refl _ _).alloc (Nat.le_refl _) _⟩
  case round =>
    obtain ⟨k, hk, rfl, hown, hbel⟩ := hrel
    have hsz := hbel.size
    by_cases hlt : k < s.size
    · have hx0 := bt_nonneg s k
      have hx1 := bt_le s k
      have hb := get_bt s
      go_wp2_with (at_builtin; refine wpList_append1 rfl _ _ rfl u8elem hown rfl rfl rfl rfl (by omega) (by unfold maxLen; omega) hsz ?_)
      all_goals (try (exfalso; omega))
      all_goals
        intro v' w1 hown' _ hbel'
        have hbel1 := hbel' _ hbel
        have hfs := fl_succ s k
        first
          | (rw [fb_yes (by (try simp only [bne_iff_ne] at *); omega)] at hfs; rw [← hfs] at hown')
          | (rw [fb_no (by (try simp only [bne_eq_false_iff_eq] at *); omega)] at hfs; rw [← hfs] at hown')
        clear hown hbel hbel' hfs hb
        go_wp2
        go_roundw
        case rel => exact ⟨k + 1, by omega, by go_num, hown', hbel1⟩
        case measure => simp [intOf]; omega
    · obtain rfl : k = s.size := by omega
      have hbk := run_string_own (P := Try.prog) Try.underlying32 Try.underlying5 Try.underlying9 hown
      rw [fl_all] at hbk
      go_wp2
      go_ret
      exact ⟨rfl, hbel⟩
end Go.Proofs.Ytmoahflgcojfcaa.FoldRef
