/-
  The walks of concordref16's sameTexts and sameInts over any lists.
-/
import Derived.Test.YtkcfgcdlnojaeaaGreatDoorQrySame
set_option linter.unusedVariables false
set_option linter.unusedSimpArgs false
namespace Go.Proofs.YtkcfgcdlnojaeaaGreatDoor.QryLists
set_option maxRecDepth 100000
open Go.RowKit Go.PlainAid Base Query QrySize QrySame

set_option maxHeartbeats 2000000 in
theorem sameTexts_any (l m : List ByteArray) (A1 A2 : Option Addr) (c1 c2 B : Nat) (w : World) (hB : B ≤ w.heap.size) (h1 : Slc w B A1 (strs l)) (h2 : Slc w B A2 (strs m)) (hl : l.length ≤ 9223372036854775807) :
    Calls Tryz.prog 78 #[.slice A1 l.length c1, .slice A2 m.length c2] w (QrySame.Told (l = m) w) := by
  by_cases hm : m.length = l.length
  case neg =>
    have HN := Lib.hid hm
    clear hm h1 h2 hl
    go_enter Tryz.func78, Tryz.ntmps78
    go_wp2_with fail
    all_goals first | (go_ret; exact told_no (fun h => HN.out (by rw [h])) (by (repeat (first | exact Below.refl _ _ | assumption | refine balloc ?_ _ | refine bdrew ?_ | refine bdrewN ?_ _ | refine bchain ?_ (by assumption))))) | skip
    exfalso
    first | (have := (show (l.length : Int) = (m.length : Int) from ‹_›); have := HN.out; omega) | (have := (show ((l.length : Int) != (m.length : Int)) = false from ‹_›); simp only [bne_eq_false_iff_eq] at this; have := HN.out; omega)
  rw [hm]
  have M := Lib.hid hm
  clear hm
  go_enter Tryz.func78, Tryz.ntmps78
  go_wp2_with fail
  go_loopw [13] (fun i wr => ∃ k : Nat, k ≤ l.length ∧ i = .int .i64 k ∧ l.take k = m.take k ∧ Below w.heap.size w wr) (fun i _ => l.length - (intOf i).toNat)
  case atStart => exact ⟨0, Nat.zero_le _, rfl, rfl, (by (repeat (first | exact Below.refl _ _ | assumption | refine balloc ?_ _ | refine bdrew ?_ | refine bdrewN ?_ _ | refine bchain ?_ (by assumption))))⟩
  case round =>
    obtain ⟨k, hk', rfl, ht, hbel⟩ := hrel
    rcases Nat.lt_or_ge k l.length with hlt | hge
    · obtain ⟨s, hs⟩ : ∃ s, l[k]? = some s := ⟨_, List.getElem?_eq_getElem hlt⟩
      obtain ⟨s2, hs2⟩ : ∃ s, m[k]? = some s := ⟨_, List.getElem?_eq_getElem (by have := M.out; omega)⟩
      obtain ⟨p, o, rfl, hp, x1⟩ := slc_at (h1.below hbel hB) (k := k) (by simpa [strs] using hlt)
      obtain ⟨p2, o2, rfl, hp2, y1⟩ := slc_at (h2.below hbel hB) (k := k) (by simpa [strs, M.out] using hlt)
      have x2 : wr.cell? ⟨p, o + k, none⟩ = some (.string s) := by rw [x1]; simp [strs, hs]
      have y2 : wr.cell? ⟨p2, o2 + k, none⟩ = some (.string s2) := by rw [y1]; simp [strs, hs2]
      have i1 : (k : Int) < (l.length : Int) := by omega
      have i3 : (k : Int) < 9223372036854775807 := by omega
      have HT := Lib.hid ht
      have HS := Lib.hid hs
      have HS2 := Lib.hid hs2
      clear x1 y1 hs hs2 ht h1 h2
      by_cases hss : s = s2
      · subst hss
        clear hp hp2
        go_wp2_with fail
        go_quiet (fail)
        go_wp2
        go_roundw
        case rel => exact ⟨k + 1, by omega, by go_num, take_eq_succ HT.out HS.out HS2.out, (by (repeat (first | exact Below.refl _ _ | assumption | refine balloc ?_ _ | refine bdrew ?_ | refine bdrewN ?_ _ | refine bchain ?_ (by assumption))))⟩
        case measure => simp [intOf]; omega
      · have hne : (s.toList == s2.toList) = false := beq_eq_false_iff_ne.2 fun e => hss (ba_eq e)
        go_wp2_with fail
        go_quiet (fail)
        clear hl i1 i3 hk' x2 y2 hlt HT
        go_wp2
        go_ret
        refine told_no (fun h => hss ?_) (by (repeat (first | exact Below.refl _ _ | assumption | refine balloc ?_ _ | refine bdrew ?_ | refine bdrewN ?_ _ | refine bchain ?_ (by assumption))))
        exact Option.some.inj (HS.out.symm.trans ((congrArg (·[k]?) h).trans HS2.out))
    · obtain rfl : k = l.length := by omega
      have HT := Lib.hid (show l = m by rw [List.take_length] at ht; rw [← M.out, List.take_length] at ht; exact ht)
      clear ht hge hk'
      go_wp2_with fail
      go_ret
      exact told_yes HT.out (by (repeat (first | exact Below.refl _ _ | assumption | refine balloc ?_ _ | refine bdrew ?_ | refine bdrewN ?_ _ | refine bchain ?_ (by assumption))))

set_option maxHeartbeats 2000000 in
theorem sameInts_any (l m : List Int) (A1 A2 : Option Addr) (c1 c2 B : Nat) (w : World) (hB : B ≤ w.heap.size) (h1 : Slc w B A1 (ints l)) (h2 : Slc w B A2 (ints m)) (hl : l.length ≤ 9223372036854775807) :
    Calls Tryz.prog 79 #[.slice A1 l.length c1, .slice A2 m.length c2] w (QrySame.Told (l = m) w) := by
  by_cases hm : m.length = l.length
  case neg =>
    have HN := Lib.hid hm
    clear hm h1 h2 hl
    go_enter Tryz.func79, Tryz.ntmps79
    go_wp2_with fail
    all_goals first | (go_ret; exact told_no (fun h => HN.out (by rw [h])) (by (repeat (first | exact Below.refl _ _ | assumption | refine balloc ?_ _ | refine bdrew ?_ | refine bdrewN ?_ _ | refine bchain ?_ (by assumption))))) | skip
    exfalso
    first | (have := (show (l.length : Int) = (m.length : Int) from ‹_›); have := HN.out; omega) | (have := (show ((l.length : Int) != (m.length : Int)) = false from ‹_›); simp only [bne_eq_false_iff_eq] at this; have := HN.out; omega)
  rw [hm]
  have M := Lib.hid hm
  clear hm
  go_enter Tryz.func79, Tryz.ntmps79
  go_wp2_with fail
  go_loopw [13] (fun i wr => ∃ k : Nat, k ≤ l.length ∧ i = .int .i64 k ∧ l.take k = m.take k ∧ Below w.heap.size w wr) (fun i _ => l.length - (intOf i).toNat)
  case atStart => exact ⟨0, Nat.zero_le _, rfl, rfl, (by (repeat (first | exact Below.refl _ _ | assumption | refine balloc ?_ _ | refine bdrew ?_ | refine bdrewN ?_ _ | refine bchain ?_ (by assumption))))⟩
  case round =>
    obtain ⟨k, hk', rfl, ht, hbel⟩ := hrel
    rcases Nat.lt_or_ge k l.length with hlt | hge
    · obtain ⟨s, hs⟩ : ∃ s, l[k]? = some s := ⟨_, List.getElem?_eq_getElem hlt⟩
      obtain ⟨s2, hs2⟩ : ∃ s, m[k]? = some s := ⟨_, List.getElem?_eq_getElem (by have := M.out; omega)⟩
      obtain ⟨p, o, rfl, hp, x1⟩ := slc_at (h1.below hbel hB) (k := k) (by simpa [ints] using hlt)
      obtain ⟨p2, o2, rfl, hp2, y1⟩ := slc_at (h2.below hbel hB) (k := k) (by simpa [ints, M.out] using hlt)
      have x2 : wr.cell? ⟨p, o + k, none⟩ = some (.int .i64 s) := by rw [x1]; simp [ints, hs]
      have y2 : wr.cell? ⟨p2, o2 + k, none⟩ = some (.int .i64 s2) := by rw [y1]; simp [ints, hs2]
      have i1 : (k : Int) < (l.length : Int) := by omega
      have i3 : (k : Int) < 9223372036854775807 := by omega
      have HT := Lib.hid ht
      have HS := Lib.hid hs
      have HS2 := Lib.hid hs2
      clear x1 y1 hs hs2 ht h1 h2
      by_cases hss : s = s2
      · subst hss
        clear hp hp2
        go_wp2_with fail
        go_quiet (fail)
        go_wp2
        go_roundw
        case rel => exact ⟨k + 1, by omega, by go_num, take_eq_succ HT.out HS.out HS2.out, (by (repeat (first | exact Below.refl _ _ | assumption | refine balloc ?_ _ | refine bdrew ?_ | refine bdrewN ?_ _ | refine bchain ?_ (by assumption))))⟩
        case measure => simp [intOf]; omega
      · have hne : (s == s2) = false := beq_eq_false_iff_ne.2 hss
        go_wp2_with fail
        go_quiet (fail)
        clear hl i1 i3 hk' x2 y2 hlt HT
        go_wp2
        go_ret
        refine told_no (fun h => hss ?_) (by (repeat (first | exact Below.refl _ _ | assumption | refine balloc ?_ _ | refine bdrew ?_ | refine bdrewN ?_ _ | refine bchain ?_ (by assumption))))
        exact Option.some.inj (HS.out.symm.trans ((congrArg (·[k]?) h).trans HS2.out))
    · obtain rfl : k = l.length := by omega
      have HT := Lib.hid (show l = m by rw [List.take_length] at ht; rw [← M.out, List.take_length] at ht; exact ht)
      clear ht hge hk'
      go_wp2_with fail
      go_ret
      exact told_yes HT.out (by (repeat (first | exact Below.refl _ _ | assumption | refine balloc ?_ _ | refine bdrew ?_ | refine bdrewN ?_ _ | refine bchain ?_ (by assumption))))
end Go.Proofs.YtkcfgcdlnojaeaaGreatDoor.QryLists
