/-
  The walk of TokensChain.
-/
import Derived.Test.YtmoahflgcojfcaaDoorOfText
import Derived.Test.YtmoahflgcojfcaaDoorChainLaw
import Derived.Test.YtmoahflgcojfcaaDoorLives
namespace Go.Proofs.YtmoahflgcojfcaaDoor.TokensChainWalk
set_option maxRecDepth 100000
open Go.RowKit Go.PlainAid WordPlain StemPlain FoldPlain FoldWalk StemWalk8 Base WordBytes WordsWalk StopsPlain StopsWalk ChainPlain PluralPlain ChainWalk ChainMade Through OfText ChainLaw Lives

set_option maxHeartbeats 8000000 in
theorem walk (nm : ByteArray) (kd : Int) (a b c : Bool) (s : ByteArray) (w : World) (hs : s.size ≤ 1099511627775) (ht : Tab w) (h0 : 0 < w.heap.size) :
    Calls Tryd.prog 4 #[.agg #[.string nm, .int .i64 kd, .bool a, .bool b, .bool c], .string s] w fun e w' => e = .returned (.bool true) ∧ Below w.heap.size w w' := by
  have hwl := words_len s
  have htl := textT_len a b c s
  go_enter Tryd.func4, Tryd.ntmps4
  go_wp2_with fail
  go_at_call 12
  refine (lives_any _).mono ?_
  rintro e w1 ⟨rfl, hb1⟩
  have hk1 := (Blk.new w 26 #[.string nm, .int .i64 kd, .bool a, .bool b, .bool c]).below hb1 (by simp only [World.size_alloc]; omega)
  have hb1' : Below w.heap.size w w1 := bchain (by (repeat (first | exact Below.refl _ _ | assumption | refine balloc ?_ _ | refine bdrew ?_ | refine bdrewN ?_ _ | refine bchain ?_ (by assumption)))) hb1
  have q0 := hk1.cell 0
  have q1 := hk1.cell 1
  have q2 := hk1.cell 2
  have q3 := hk1.cell 3
  have q4 := hk1.cell 4
  have z1 := hk1.frozen 1
  simp only [List.getElem?_toArray, List.getElem?_cons_zero, List.getElem?_cons_succ] at q0 q1 q2 q3 q4
  have hlt1 := hk1.lt
  have hk2 := hk1.set_ 1 (.int .i64 1)
  have hb2 : Below w.heap.size w (w1.setCell ⟨w.heap.size, 1, none⟩ (.int .i64 1)) := hb1'.setCell (p := ⟨w.heap.size, 1, none⟩) (Nat.le_refl _) _
  simp only [List.setIfInBounds_toArray, List.set_cons_zero, List.set_cons_succ] at hk2
  go_wp2_with fail
  go_at_call 13
  refine (of_text nm a b c s _ hs (tab_below ht hb2 h0) (by rw [World.size_setCell]; omega)).mono ?_
  rintro e w3 ⟨A3, c3, rfl, own3, hb3⟩
  have hb3w := bchain hb2 hb3
  have hsw3 := hb3w.size
  have hk3 := hk2.below hb3 (by rw [World.size_setCell]; omega)
  have hL3 := slc_own own3
  clear own3 hb3 hk2 hk1 q0 q1 q2 q3 q4 z1 hlt1
  go_wp2_with fail
  go_at_call 14
  refine (words_any s w3 (by omega)).mono ?_
  rintro e w4 ⟨A, cap, rfl, own4, hb4⟩
  have hb4w := bchain hb3w hb4
  have hsw4 := hb4w.size
  have hs34 := hb4.size
  have hk4 := hk3.below hb4 hk3.lt
  have hL4 := slc_own own4
  have hG4 := hL3.below hb4 (Nat.le_refl _)
  clear own4 hL3 hb4 hk3 hb1 hb2 hb3w hb1'
  have hlt4 := hk4.lt
  go_wp2_with fail
  go_loopw [6, 19] (fun n i wr => ∃ k : Nat, k ≤ (words s).length ∧ i = .int .i64 k ∧ n = .int .i64 ((passed (chn a b c) ((words s).take k)).length : Nat) ∧ Below w4.heap.size w4 wr) (fun _ i _ => (words s).length - (intOf i).toNat)
  case atStart => exact ⟨0, Nat.zero_le _, rfl, rfl, Below.refl _ _⟩
  case round =>
    obtain ⟨k, hk, rfl, rfl, hbel⟩ := hrel
    have hsz := hbel.size
    by_cases hlt : k < (words s).length
    · obtain ⟨t, htk⟩ : ∃ t, (words s)[k]? = some t := ⟨_, List.getElem?_eq_getElem hlt⟩
      have hne : tokCells (words s) ≠ [] := by
        intro h
        have := tokCells_len (words s)
        rw [h] at this
        simp at this
        omega
      obtain ⟨g1, o1, rfl, hg1, hc1⟩ := (hL4.below hbel (Nat.le_refl _)) hne
      obtain ⟨y0, y1, y2, y3, y4⟩ := tok_five (B := 0) hc1 htk
      have htx := words_text s htk
      have hkb0 := hk4.below hbel hlt4
      have hkb := hkb0.alloc (.cells #[.string t.text, .int .i64 t.value, .int .i64 t.pos, .int .i64 t.start, .int .i64 t.stop] 32)
      have q2 := hkb.cell 2
      have q3 := hkb.cell 3
      have q4 := hkb.cell 4
      simp only [List.getElem?_toArray, List.getElem?_cons_zero, List.getElem?_cons_succ] at q2 q3 q4
      have hGr := hG4.below hbel hs34
      have hx1s := x1_size a t.text
      have hx2s := x2_size c (x1 a t.text)
      have htr := tab_below ht (hb4w.trans (hbel.mono hsw4)) h0
      clear hc1 hL4 hne hG4 hk4 hkb
      have hT := Lib.hid htk
      clear htk
      go_upto_if 24 with fail
      go_cut [] (fun wx => Blk wx wr.heap.size 32 (tokRow (withT t (x1 a t.text))) ∧ Below wr.heap.size wr wx)
      case first =>
        have hkn := Blk.new wr 32 (tokRow t)
        unfold tokRow at hkn
        cases a
        · go_wp2_with fail
          go_meet
          case rel => exact ⟨hkn, by (repeat (first | exact Below.refl _ _ | assumption | refine balloc ?_ _ | refine bdrew ?_ | refine bdrewN ?_ _ | refine bchain ?_ (by assumption)))⟩
        · go_wp2_with fail
          go_at_call 15
          refine (fold_any t.text _ (by unfold maxLen; omega)).mono ?_
          rintro e w5 ⟨rfl, hb5⟩
          have hk5 := hkn.below hb5 (by simp only [World.size_alloc]; omega)
          have z0 := hk5.frozen 0
          have e0 := hk5.cell 0
          simp only [List.getElem?_toArray, List.getElem?_cons_zero, List.getElem?_cons_succ] at e0
          have hb5' : Below wr.heap.size wr w5 := bchain (by (repeat (first | exact Below.refl _ _ | assumption | refine balloc ?_ _ | refine bdrew ?_ | refine bdrewN ?_ _ | refine bchain ?_ (by assumption)))) hb5
          clear hkn hb5
          go_wp2_with fail
          go_meet
          case rel =>
            have := hk5.set_ 0 (.string (foldS t.text))
            simp only [List.setIfInBounds_toArray, List.set_cons_zero, List.set_cons_succ] at this
            exact ⟨this, hb5'.setCell (p := ⟨wr.heap.size, 0, none⟩) (Nat.le_refl _) _⟩
      case rest =>
        clear q2 q3 q4 y0 y1 y2 y3 y4
        obtain ⟨hk5, hb5⟩ := hcut
        have hbx := hkb0.below hb5 hkb0.lt
        have q3 := hbx.cell 3
        have q4 := hbx.cell 4
        have e0 := hk5.cell 0
        simp only [tokRow, withT, List.getElem?_toArray, List.getElem?_cons_zero, List.getElem?_cons_succ] at q3 q4 e0
        have hx1s := x1_size a t.text
        have hx2s := x2_size c (x1 a t.text)
        have htr5 := tab_below htr hb5 (by omega)
        have HS := fun h => thru_rest (a := a) (b := b) (c := c) (x := t.text) h
        have HN := fun (hb : b = true) h => thru_stop (a := a) (c := c) (x := t.text) h
        generalize x1 a t.text = xa at *
        cases b
        · have HR := Lib.hid (HS (fun h => by cases h))
          clear HS HN
          have HP := fun h => passed_yes (c := chn a false c) hT.out h
          have HQ := fun h => passed_no (c := chn a false c) hT.out h
          have HAT := fun y h => text_at (a := a) (b := false) (c := c) (y := y) hT.out h
          have HLT := fun y h => text_lt (a := a) (b := false) (c := c) (y := y) hT.out h
          rw [HR.out] at HP HQ HAT HLT
          have HP := Lib.hid HP
          have HQ := Lib.hid HQ
          have HAT := Lib.hid HAT
          have HLT := Lib.hid HLT
          go_upto_if 36 with fail
          go_cut [] (fun wx => Blk wx wr.heap.size 32 (tokRow (withT t (x2 c xa))) ∧ Below wr.heap.size wr wx)
          case first =>
            cases c
            · go_wp2_with fail
              go_meet
              case rel => exact ⟨hk5, hb5⟩
            · go_wp2_with fail
              go_at_call 16
              refine (stem_any xa _ (by omega)).mono ?_
              rintro e w7 ⟨rfl, hb7⟩
              have hk7 := hk5.below hb7 hk5.lt
              have z0 := hk7.frozen 0
              have e7 := hk7.cell 0
              simp only [tokRow, withT, List.getElem?_toArray, List.getElem?_cons_zero] at e7
              have hb7' : Below wr.heap.size wr w7 := bchain hb5 hb7
              go_wp2_with fail
              go_meet
              case rel =>
                have := hk7.set_ 0 (.string (stem xa))
                simp only [tokRow, withT, List.setIfInBounds_toArray, List.set_cons_zero, List.set_cons_succ] at this
                exact ⟨this, hb7'.setCell (p := ⟨wr.heap.size, 0, none⟩) (Nat.le_refl _) _⟩
          case rest =>
            clear q3 q4 e0
            obtain ⟨hk8, hb8⟩ := hcut
            have f0 := hk8.cell 0
            have f1 := hk8.cell 1
            have f2 := hk8.cell 2
            have f3 := hk8.cell 3
            have f4 := hk8.cell 4
            simp only [tokRow, withT, List.getElem?_toArray, List.getElem?_cons_zero, List.getElem?_cons_succ] at f0 f1 f2 f3 f4
            have hbel8 : Below w4.heap.size w4 _ := hbel.trans (hb8.mono hsz)
            generalize x2 c xa = xb at *
            by_cases hz : xb.size ≤ 64
            · have hat := HAT.out xb (by simp [hz])
              have hltn := HLT.out xb (by simp [hz])
              have hp := Lib.hid (HP.out (by simp [hz]))
              have hG := hGr.below hb8 (by omega)
              have hneG : tokCells (textT a false c s) ≠ [] := by
                intro h
                have := tokCells_len (textT a false c s)
                rw [h] at this
                simp at this
                omega
              obtain ⟨g2, o2, rfl, hg2, hc2⟩ := hG hneG
              obtain ⟨d0, d1, d2, d3, d4⟩ := tok_five (B := 0) hc2 hat
              have hpl := passed_len (chn a false c) ((words s).take k)
              rw [List.length_take] at hpl
              simp only [withT] at d0 d1 d2 d3 d4
              clear hc2 hneG hG hGr hat HP HQ HAT HLT
              go_wp2_with fail
              go_quiet (fail)
              go_wp2_with fail
              go_roundw
              case rel => exact ⟨k + 1, by omega, by go_num, by rw [hp.out, List.length_append]; go_num, hbel8.trans ⟨rfl, rfl, rfl, Nat.le_refl _, fun _ _ => rfl⟩⟩
              case measure => simp [intOf]; omega
            · have hp := Lib.hid (HQ.out (by simp [hz]))
              clear HP HQ HAT HLT
              go_wp2_with fail
              go_roundw
              case rel => exact ⟨k + 1, by omega, by go_num, by rw [hp.out], hbel8⟩
              case measure => simp [intOf]; omega
        · have IS := Lib.hid (isStop_any xa _ htr5)
          go_wp2_with fail
          go_at_call 11
          refine IS.out.mono ?_
          rintro e w6 ⟨rfl, hb6⟩
          have hb6' : Below wr.heap.size wr w6 := bchain hb5 hb6
          have hk6 := hk5.below hb6 hk5.lt
          have hbx6 := hbx.below hb6 hbx.lt
          clear q3 q4 e0 IS htr5
          have q3 := hbx6.cell 3
          have q4 := hbx6.cell 4
          have e0 := hk6.cell 0
          simp only [tokRow, withT, List.getElem?_toArray, List.getElem?_cons_zero, List.getElem?_cons_succ] at q3 q4 e0
          cases hst : isStopB xa
          · have HR := Lib.hid (HS (fun _ => hst))
            clear HS HN hst
            have HP := fun h => passed_yes (c := chn a true c) hT.out h
            have HQ := fun h => passed_no (c := chn a true c) hT.out h
            have HAT := fun y h => text_at (a := a) (b := true) (c := c) (y := y) hT.out h
            have HLT := fun y h => text_lt (a := a) (b := true) (c := c) (y := y) hT.out h
            rw [HR.out] at HP HQ HAT HLT
            have HP := Lib.hid HP
            have HQ := Lib.hid HQ
            have HAT := Lib.hid HAT
            have HLT := Lib.hid HLT
            go_upto_if 36 with fail
            go_cut [] (fun wx => Blk wx wr.heap.size 32 (tokRow (withT t (x2 c xa))) ∧ Below wr.heap.size wr wx)
            case first =>
              cases c
              · go_wp2_with fail
                go_meet
                case rel => exact ⟨hk6, hb6'⟩
              · go_wp2_with fail
                go_at_call 16
                refine (stem_any xa _ (by omega)).mono ?_
                rintro e w7 ⟨rfl, hb7⟩
                have hk7 := hk6.below hb7 hk6.lt
                have z0 := hk7.frozen 0
                have e7 := hk7.cell 0
                simp only [tokRow, withT, List.getElem?_toArray, List.getElem?_cons_zero] at e7
                have hb7' : Below wr.heap.size wr w7 := bchain hb6' hb7
                go_wp2_with fail
                go_meet
                case rel =>
                  have := hk7.set_ 0 (.string (stem xa))
                  simp only [tokRow, withT, List.setIfInBounds_toArray, List.set_cons_zero, List.set_cons_succ] at this
                  exact ⟨this, hb7'.setCell (p := ⟨wr.heap.size, 0, none⟩) (Nat.le_refl _) _⟩
            case rest =>
              clear q3 q4 e0
              obtain ⟨hk8, hb8⟩ := hcut
              have f0 := hk8.cell 0
              have f1 := hk8.cell 1
              have f2 := hk8.cell 2
              have f3 := hk8.cell 3
              have f4 := hk8.cell 4
              simp only [tokRow, withT, List.getElem?_toArray, List.getElem?_cons_zero, List.getElem?_cons_succ] at f0 f1 f2 f3 f4
              have hbel8 : Below w4.heap.size w4 _ := hbel.trans (hb8.mono hsz)
              generalize x2 c xa = xb at *
              by_cases hz : xb.size ≤ 64
              · have hat := HAT.out xb (by simp [hz])
                have hltn := HLT.out xb (by simp [hz])
                have hp := Lib.hid (HP.out (by simp [hz]))
                have hG := hGr.below hb8 (by omega)
                have hneG : tokCells (textT a true c s) ≠ [] := by
                  intro h
                  have := tokCells_len (textT a true c s)
                  rw [h] at this
                  simp at this
                  omega
                obtain ⟨g2, o2, rfl, hg2, hc2⟩ := hG hneG
                obtain ⟨d0, d1, d2, d3, d4⟩ := tok_five (B := 0) hc2 hat
                have hpl := passed_len (chn a true c) ((words s).take k)
                rw [List.length_take] at hpl
                simp only [withT] at d0 d1 d2 d3 d4
                clear hc2 hneG hG hGr hat HP HQ HAT HLT
                go_wp2_with fail
                go_quiet (fail)
                go_wp2_with fail
                go_roundw
                case rel => exact ⟨k + 1, by omega, by go_num, by rw [hp.out, List.length_append]; go_num, hbel8.trans ⟨rfl, rfl, rfl, Nat.le_refl _, fun _ _ => rfl⟩⟩
                case measure => simp [intOf]; omega
              · have hp := Lib.hid (HQ.out (by simp [hz]))
                clear HP HQ HAT HLT
                go_wp2_with fail
                go_roundw
                case rel => exact ⟨k + 1, by omega, by go_num, by rw [hp.out], hbel8⟩
                case measure => simp [intOf]; omega
          · have hp := Lib.hid (passed_no (c := chn a true c) hT.out (HN trivial hst))
            clear HS HN hst
            go_wp2_with fail
            go_roundw
            case rel => exact ⟨k + 1, by omega, by go_num, by rw [hp.out], hbel.trans (hb6'.mono hsz)⟩
            case measure => simp [intOf]; omega
    · obtain rfl : k = (words s).length := by omega
      have e : (passed (chn a b c) ((words s).take (words s).length)).length = (textT a b c s).length := by rw [List.take_length]; rfl
      rw [e]
      clear e
      go_wp2_with fail
      go_ret
      exact ⟨rfl, hb4w.trans (hbel.mono hsw4)⟩
end Go.Proofs.YtmoahflgcojfcaaDoor.TokensChainWalk
