/-
  The walk of TokensFields.
-/
import Derived.Test.YtmoahflgcojfcaaDoorFieldAny
import Derived.Test.YtmoahflgcojfcaaDoorDWords
import Derived.Test.YtmoahflgcojfcaaDoorLives
import Derived.Test.YtmoahflgcojfcaaDoorRel
namespace Go.Proofs.YtmoahflgcojfcaaDoor.TokensFieldsWalk
set_option maxRecDepth 100000
open Go.RowKit Go.PlainAid WordPlain Base App WordBytes WordsWalk StopsWalk ChainPlain OfText NumPlain OfAny OutRow OpenField FieldPlain RefOf FieldWalk RefField FieldAny SameWalk Lives

set_option maxHeartbeats 4000000 in
theorem walk (fs : List Fld) (i : Int) (vs : List Val) (A1 A2 : Option Addr) (c1 c2 : Nat) (w : World) (ht : Tab w) (h0 : 0 < w.heap.size) (hfl : fs.length ≤ 1048576) (hvs : vsum vs ≤ 1099511627)
    (h1 : Slc w w.heap.size A1 (fldCells fs)) (h2 : Slc w w.heap.size A2 (valCells vs)) :
    Calls Tryd.prog 6 #[.agg #[.slice A1 fs.length c1], .int .i64 i, .slice A2 vs.length c2] w fun e w' => e = .returned (.bool true) ∧ Below w.heap.size w w' := by
  have hTS0 := fieldT_len fs i vs hvs
  obtain ⟨TS, hts⟩ : ∃ TS, TS = fieldT fs i vs := ⟨_, rfl⟩
  have hTS : TS.length ≤ 1099511627776 := by rw [hts]; omega
  have HTS := Lib.hid hts
  clear hts hTS0
  go_enter Tryd.func6, Tryd.ntmps6
  go_wp2_with fail
  go_at_call 12
  refine (lives_any _).mono ?_
  rintro e w1 ⟨rfl, hb1⟩
  have hk1 := (Blk.new w 43 #[.slice A1 fs.length c1]).below hb1 (by simp only [World.size_alloc]; omega)
  have hb1' : Below w.heap.size w w1 := bchain (by (repeat (first | exact Below.refl _ _ | assumption | refine balloc ?_ _ | refine bdrew ?_ | refine bdrewN ?_ _ | refine bchain ?_ (by assumption)))) hb1
  have hs1 := hb1'.size
  have F0 := Lib.hid (fun (wx : World) (hx : Below w1.heap.size w1 wx) => (show wx.cell? ⟨w.heap.size, 0, none⟩ = some (.slice A1 fs.length c1) from ((hk1.below hx hk1.lt).cell 0).trans rfl))
  have FA := Lib.hid (fun (wx : World) (hx : Below w1.heap.size w1 wx) => field_any fs i vs A1 A2 c1 c2 w.heap.size wx (Nat.le_trans hs1 hx.size) (tab_below ht (bchain hb1' hx) h0) (by have := hx.size; omega) hfl hvs (h1.below (bchain hb1' hx) (Nat.le_refl _)) (h2.below (bchain hb1' hx) (Nat.le_refl _)))
  have RA := Lib.hid (fun (wx : World) (hx : Below w1.heap.size w1 wx) => refField_any fs i vs A1 A2 c1 c2 w.heap.size wx (Nat.le_trans hs1 hx.size) (tab_below ht (bchain hb1' hx) h0) (by have := hx.size; omega) hfl hvs (h1.below (bchain hb1' hx) (Nat.le_refl _)) (h2.below (bchain hb1' hx) (Nat.le_refl _)))
  rw [← HTS.out] at FA RA
  clear hk1
  go_wp2_with fail
  refine Rel.wp_region_rel (fun wx => Below w1.heap.size w1 wx) (fun wa wb => Below wa.heap.size wa wb) (by kernel_rfl) (by kernel_rfl) (bdrew (Below.refl _ _)) (fun _ => Below.refl _ _) ?_
  apply Rel.rel_one2 1 [] rfl (by kernel_rfl) (by kernel_rfl)
  case hs =>
    intro wx hx
    have f0 := F0.out wx hx
    try simp only [Act.put, List.setIfInBounds_toArray, List.set_cons_zero, List.set_cons_succ]
    intro KK hK
    go_simp
    exact hK _ _ hx (Below.refl _ _) rfl
  apply Rel.rel_one2 2 [] rfl (by kernel_rfl) (by kernel_rfl)
  case hs =>
    intro wx hx
    try simp only [Act.put, List.setIfInBounds_toArray, List.set_cons_zero, List.set_cons_succ]
    intro KK hK
    go_simp
    exact hK _ _ hx (Below.refl _ _) rfl
  apply Rel.rel_one2 3 [] rfl (by kernel_rfl) (by kernel_rfl)
  case hs =>
    intro wx hx
    try simp only [Act.put, List.setIfInBounds_toArray, List.set_cons_zero, List.set_cons_succ]
    intro KK hK
    go_simp
    exact hK _ _ hx (Below.refl _ _) rfl
  apply Rel.rel_kind2 4 [(0, 9), (1, 10), (2, 11)] (TokV TS) rfl (by kernel_rfl) (by kernel_rfl) (tokV_stable)
  case hs =>
    intro wx hx
    rintro _ rfl _ rfl _ rfl
    have f0 := F0.out wx hx
    try simp only [Act.put, List.setIfInBounds_toArray, List.set_cons_zero, List.set_cons_succ]
    intro KK hK
    go_simp
    go_at_call 21
    refine (FA.out wx hx).mono ?_
    rintro e wy ⟨A', c', rfl, own, hby⟩
    exact hK _ _ (bchain hx hby) hby ⟨A', c', rfl, slc_own own⟩
  apply Rel.rel_one2 5 [] rfl (by kernel_rfl) (by kernel_rfl)
  case hs =>
    intro wx hx
    have f0 := F0.out wx hx
    try simp only [Act.put, List.setIfInBounds_toArray, List.set_cons_zero, List.set_cons_succ]
    intro KK hK
    go_simp
    exact hK _ _ hx (Below.refl _ _) rfl
  apply Rel.rel_one2 6 [] rfl (by kernel_rfl) (by kernel_rfl)
  case hs =>
    intro wx hx
    try simp only [Act.put, List.setIfInBounds_toArray, List.set_cons_zero, List.set_cons_succ]
    intro KK hK
    go_simp
    exact hK _ _ hx (Below.refl _ _) rfl
  apply Rel.rel_one2 7 [] rfl (by kernel_rfl) (by kernel_rfl)
  case hs =>
    intro wx hx
    try simp only [Act.put, List.setIfInBounds_toArray, List.set_cons_zero, List.set_cons_succ]
    intro KK hK
    go_simp
    exact hK _ _ hx (Below.refl _ _) rfl
  apply Rel.rel_kind2 8 [(4, 13), (5, 14), (6, 15)] (TokV TS) rfl (by kernel_rfl) (by kernel_rfl) (tokV_stable)
  case hs =>
    intro wx hx
    rintro _ rfl _ rfl _ rfl
    have f0 := F0.out wx hx
    try simp only [Act.put, List.setIfInBounds_toArray, List.set_cons_zero, List.set_cons_succ]
    intro KK hK
    go_simp
    go_at_call 22
    refine (RA.out wx hx).mono ?_
    rintro e wy ⟨A', c', rfl, own, hby⟩
    exact hK _ _ (bchain hx hby) hby ⟨A', c', rfl, own.slc⟩
  apply Rel.rel_one2 9 [(3, 12), (7, 16)] rfl (by kernel_rfl) (by kernel_rfl)
  case hs =>
    intro wx hx
    rintro _ ⟨A12, c12, rfl, s12⟩ _ ⟨A16, c16, rfl, s16⟩
    have f0 := F0.out wx hx
    try simp only [Act.put, List.setIfInBounds_toArray, List.set_cons_zero, List.set_cons_succ]
    intro KK hK
    go_simp
    go_at_call 18
    refine (same_eq TS _ _ _ _ _ wx (Nat.le_refl _) hTS s12 s16).mono ?_
    rintro e wy ⟨rfl, hby⟩
    exact hK _ _ (bchain hx hby) hby rfl
  apply Rel.rel_one2 10 [(8, 17)] rfl (by kernel_rfl) (by kernel_rfl)
  case hs =>
    intro wx hx
    rintro _ rfl
    try simp only [Act.put, List.setIfInBounds_toArray, List.set_cons_zero, List.set_cons_succ]
    intro KK hK
    go_simp
    exact hK _ _ hx (Below.refl _ _) rfl
  refine Rel.rel_end [(0, 9), (1, 10), (2, 11), (3, 12), (4, 13), (5, 14), (6, 15), (7, 16), (8, 17), (9, 6)] (by kernel_rfl) (by kernel_rfl) ?_
  intro wx hx
  rintro _ rfl _ rfl _ rfl _ ⟨A12, c12, rfl, s12⟩ _ rfl _ rfl _ rfl _ ⟨A16, c16, rfl, s16⟩ _ rfl _ rfl
  try simp only [Act.put, List.setIfInBounds_toArray, List.set_cons_zero, List.set_cons_succ]
  refine Rel.valsD_ret ?_
  go_wp2_with fail
  go_ret
  exact ⟨rfl, bchain hb1' hx⟩
end Go.Proofs.YtmoahflgcojfcaaDoor.TokensFieldsWalk
