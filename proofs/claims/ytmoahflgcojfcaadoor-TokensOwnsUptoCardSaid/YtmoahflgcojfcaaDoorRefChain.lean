/-
  The walks of the reference's IsStop and chained.
-/
import Derived.Test.YtmoahflgcojfcaaDoorChainLaw
import Derived.Test.YtmoahflgcojfcaaDoorDFolds
import Derived.Test.YtmoahflgcojfcaaDoorRefStem
import Derived.Deep.DeepCutAuto
namespace Go.Proofs.YtmoahflgcojfcaaDoor.RefChain
set_option maxRecDepth 100000
open Go.RowKit Go.PlainAid WordPlain StemPlain FoldPlain FoldRef Base StopsPlain StopsWalk ChainPlain PluralPlain ChainLaw RefStem

theorem str_eq (s x : ByteArray) : (s.toList == x.toList) = true ↔ s = x := by
  rw [ByteArray.toList_eq, ByteArray.toList_eq]
  constructor
  · intro h
    have h1 : s.data.toList = x.data.toList := eq_of_beq h
    have h2 : s.data = x.data := Array.toList_inj.1 h1
    cases s; cases x; simp only at h2; rw [h2]
  · rintro rfl; simp

set_option maxHeartbeats 2000000 in
theorem isStop_ref (x : ByteArray) (w : World) : Calls Tryd.prog 65 #[.string x] w fun e w' => e = .returned (.bool (isStopB x)) ∧ Below w.heap.size w w' := by
  have F := Lib.hid (refStops_any w)
  have HN := Lib.hid stopStrs_len
  have hn0 : stopWords.length ≤ 100 := by rw [stop_len]; decide
  go_enter Tryd.func65, Tryd.ntmps65
  go_wp2_with fail
  go_at_call 10
  refine F.out.mono ?_
  rintro e w1 ⟨g, rfl, hown, hb1⟩
  have hcell := Lib.hid (fun j hj => stop_cell hown j hj)
  clear hown
  rw [← HN.out] at hn0 ⊢
  generalize hN : stopStrs.length = N at *
  have HNN := Lib.hid hN
  clear hN
  go_wp2_with fail
  go_loop [7] (fun i => ∃ j : Nat, j ≤ N ∧ i = .int .i64 j ∧ Hid (∀ k, k < j → stopStrs[k]? ≠ some x)) (fun i => N - (intOf i).toNat)
  case atStart => exact ⟨0, Nat.zero_le _, rfl, Lib.hid (fun k hk => by omega)⟩
  case round =>
    obtain ⟨j, hj, rfl, hno⟩ := hrel
    by_cases hlt : j < N
    · obtain ⟨s, hs⟩ : ∃ s, stopStrs[j]? = some s := ⟨_, List.getElem?_eq_getElem (by rw [HNN.out]; exact hlt)⟩
      have hc : w1.cell? ⟨g, j, none⟩ = some (.string s) := by
        have := hcell.out j hlt
        rw [Nat.zero_add, List.getD_eq_getElem?_getD, hs] at this
        exact this
      have HS := Lib.hid hs
      clear hs
      by_cases he : s = x
      · have hb : (s.toList == x.toList) = true := (str_eq s x).2 he
        have hr : isStopB x = true := (isStopB_iff x).2 (by rw [← he]; exact List.mem_of_getElem? HS.out)
        have HR := Lib.hid hr
        clear hr he
        go_wp2_with fail
        go_ret
        exact ⟨by rw [HR.out]; rfl, hb1⟩
      · have hb : (s.toList == x.toList) = false := by rw [← Bool.not_eq_true, str_eq]; exact he
        have hn := Lib.hid (fun k (hk : k < j + 1) => show stopStrs[k]? ≠ some x from by
          rcases Nat.lt_succ_iff_lt_or_eq.1 hk with h | rfl
          · exact hno.out k h
          · rw [HS.out]; intro h; exact he (Option.some.inj h))
        clear he
        go_wp2_with fail
        go_round
        case rel => exact ⟨j + 1, by omega, by go_num, hn⟩
        case measure => simp [intOf]; omega
    · obtain rfl : j = N := by omega
      have hr : isStopB x = false := by
        rw [← Bool.not_eq_true, isStopB_iff]
        intro hm
        obtain ⟨k, hk, e⟩ := List.getElem_of_mem hm
        exact hno.out k (by rw [← HNN.out]; exact hk) (by rw [List.getElem?_eq_getElem hk, e])
      have HR := Lib.hid hr
      clear hr
      go_wp2_with fail
      go_ret
      exact ⟨by rw [HR.out]; rfl, hb1⟩

theorem thru_empty {a c : Bool} {x : ByteArray} (h : isStopB (x1 a x) = true) : thru (chn a true c) x = (ByteArray.empty, false) := by
  cases a <;> cases c <;> simp_all [thru, chn, doS, x1]

set_option maxHeartbeats 4000000 in
theorem chained_any (nm : ByteArray) (kd : Int) (a b c : Bool) (x : ByteArray) (w : World) (hs : x.size ≤ 1099511627776) :
    Calls Tryd.prog 42 #[.agg #[.string nm, .int .i64 kd, .bool a, .bool b, .bool c], .string x] w fun e w' => e = .returned (.tuple #[.string (thru (chn a b c) x).1, .bool (thru (chn a b c) x).2]) ∧ Below w.heap.size w w' := by
  have hx1s := x1_size a x
  have hx2s := x2_size c (x1 a x)
  have HS := fun h => thru_rest (a := a) (b := b) (c := c) (x := x) h
  have HN := fun (hb : b = true) h => thru_stop (a := a) (c := c) (x := x) h
  have HST := fun (hb : b = true) h => thru_empty (a := a) (c := c) (x := x) h
  have hk := Blk.new w 26 #[.string nm, .int .i64 kd, .bool a, .bool b, .bool c]
  have HX := Lib.hid (show x1 a x = if a then foldS x else x from rfl)
  have HX2 := Lib.hid (fun y => show x2 c y = if c then stem y else y from rfl)
  go_enter Tryd.func42, Tryd.ntmps42
  go_upto_if 8 with fail
  go_cut [1] (fun s1 wx => s1 = .string (x1 a x) ∧ Below w.heap.size w wx ∧ Blk wx w.heap.size 26 #[.string nm, .int .i64 kd, .bool a, .bool b, .bool c])
  case first =>
    cases a
    · go_wp2_with fail
      go_meet
      case rel => exact ⟨by rw [HX.out]; rfl, by (repeat (first | exact Below.refl _ _ | assumption | refine balloc ?_ _ | refine bdrew ?_ | refine bdrewN ?_ _ | refine bchain ?_ (by assumption))), hk⟩
    · go_wp2_with fail
      go_at_call 64
      refine (fold_ref x _ (by omega)).mono ?_
      rintro e w5 ⟨rfl, hb5⟩
      have hk5 := hk.below hb5 hk.lt
      go_wp2_with fail
      go_meet
      case rel => exact ⟨by rw [HX.out]; rfl, bchain (by (repeat (first | exact Below.refl _ _ | assumption | refine balloc ?_ _ | refine bdrew ?_ | refine bdrewN ?_ _ | refine bchain ?_ (by assumption)))) hb5, hk5⟩
  case rest =>
    obtain ⟨rfl, hb1, hk1⟩ := hcut
    have q3 := hk1.cell 3
    have q4 := hk1.cell 4
    simp only [List.getElem?_toArray, List.getElem?_cons_zero, List.getElem?_cons_succ] at q3 q4
    clear hk HX
    generalize x1 a x = xa at *
    cases b
    · have HR := HS (fun h => by cases h)
      clear HS HN HST
      cases c
      · have HC := HX2.out xa
        rw [if_neg (by decide)] at HC
        rw [HC] at HR hx2s
        have HR := Lib.hid HR
        clear HC
        go_wp2_with fail
        go_ret2
        rw [HR.out]
        exact ⟨by simp; omega, hb1⟩
      · have HC := HX2.out xa
        rw [if_pos rfl] at HC
        rw [HC] at HR hx2s
        have HR := Lib.hid HR
        clear HC
        go_wp2_with fail
        go_at_call 66
        refine (stem_ref xa _ (by omega)).mono ?_
        rintro e w7 ⟨rfl, hb7⟩
        go_wp2_with fail
        go_ret2
        rw [HR.out]
        exact ⟨by simp; omega, bchain hb1 hb7⟩
    · have IS := Lib.hid (fun W => isStop_ref xa W)
      go_wp2_with fail
      go_at_call 65
      refine (IS.out _).mono ?_
      rintro e w6 ⟨rfl, hb6⟩
      have hb6' := bchain hb1 hb6
      have hk6 := hk1.below hb6 hk1.lt
      clear q3 q4
      have q4 := hk6.cell 4
      simp only [List.getElem?_toArray, List.getElem?_cons_zero, List.getElem?_cons_succ] at q4
      cases hst : isStopB xa
      · have HR := HS (fun _ => hst)
        clear HS HN HST hst
        cases c
        · have HC := HX2.out xa
          rw [if_neg (by decide)] at HC
          rw [HC] at HR hx2s
          have HR := Lib.hid HR
          clear HC
          go_wp2_with fail
          go_ret2
          rw [HR.out]
          exact ⟨by simp; omega, hb6'⟩
        · have HC := HX2.out xa
          rw [if_pos rfl] at HC
          rw [HC] at HR hx2s
          have HR := Lib.hid HR
          clear HC
          go_wp2_with fail
          go_at_call 66
          refine (stem_ref xa _ (by omega)).mono ?_
          rintro e w7 ⟨rfl, hb7⟩
          go_wp2_with fail
          go_ret2
          rw [HR.out]
          exact ⟨by simp; omega, bchain hb6' hb7⟩
      · have HR := Lib.hid (HST trivial hst)
        clear HS HN HST hst
        go_wp2_with fail
        go_ret2
        rw [HR.out]
        exact ⟨rfl, hb6'⟩
end Go.Proofs.YtmoahflgcojfcaaDoor.RefChain
