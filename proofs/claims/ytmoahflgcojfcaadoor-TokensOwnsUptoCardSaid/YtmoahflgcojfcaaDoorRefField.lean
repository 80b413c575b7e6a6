/-
  The walk of concordref05.Field.
-/
import Derived.Test.YtmoahflgcojfcaaDoorFieldPlain
import Derived.Test.YtmoahflgcojfcaaDoorOutRow
import Derived.Test.YtmoahflgcojfcaaDoorRefOf
namespace Go.Proofs.YtmoahflgcojfcaaDoor.RefField
set_option maxRecDepth 100000
open Go.RowKit Go.PlainAid WordPlain Base App WordBytes WordsWalk StopsWalk ChainPlain OfText NumPlain OfAny OutRow OpenField FieldPlain RefOf

set_option maxHeartbeats 8000000 in
theorem field_in_ref (fs : List Fld) (k0 : Nat) (f : Fld) (vs : List Val) (A1 A2 : Option Addr) (c1 c2 : Nat) (B : Nat) (w : World) (hB : B ≤ w.heap.size) (ht : Tab w) (h0 : 0 < w.heap.size)
    (hf : fs[k0]? = some f) (hfl : fs.length ≤ 1048576) (hvs : vsum vs ≤ 1099511627) (h1 : Slc w B A1 (fldCells fs)) (h2 : Slc w B A2 (valCells vs)) :
    Calls Tryd.prog 22 #[.agg #[.slice A1 fs.length c1], .int .i64 k0, .slice A2 vs.length c2] w (RToks (fst f vs vs.length).1 w) := by
  have hk0 := (List.getElem?_eq_some_iff.1 hf).1
  have hvl := vsum_len vs
  have hne : fldCells fs ≠ [] := by
    intro h
    have := fldCells_len fs
    rw [h] at this
    simp at this
    omega
  obtain ⟨g1, o1, rfl, hg1, hc1w⟩ := h1 hne
  have hc1 := fun j u hu => ((show Below w.heap.size w ((w.alloc (.cells #[.slice (some ⟨g1, o1, none⟩) fs.length c1] 43)).alloc (.cells #[] 32)) from by (repeat (first | exact Below.refl _ _ | assumption | refine balloc ?_ _ | refine bdrew ?_ | refine bdrewN ?_ _ | refine bchain ?_ (by assumption)))).cell (p := ⟨g1, o1 + j, none⟩) (show g1 < w.heap.size by omega)).trans (hc1w j u hu)
  have e := fun j (hj : j < 5) => fldCells_at fs k0 j f hf hj
  have x0 : World.cell? ((w.alloc (.cells #[.slice (some ⟨g1, o1, none⟩) fs.length c1] 43)).alloc (.cells #[] 32)) ⟨g1, o1 + k0 * 5, none⟩ = some (.string f.nm) := hc1 (k0 * 5 + 0) _ (e 0 (by omega))
  have x1 : World.cell? ((w.alloc (.cells #[.slice (some ⟨g1, o1, none⟩) fs.length c1] 43)).alloc (.cells #[] 32)) ⟨g1, o1 + k0 * 5 + 1, none⟩ = some (.int .i64 f.kd) := by have := hc1 (k0 * 5 + 1) _ (e 1 (by omega)); rwa [← Nat.add_assoc] at this
  have x2 : World.cell? ((w.alloc (.cells #[.slice (some ⟨g1, o1, none⟩) fs.length c1] 43)).alloc (.cells #[] 32)) ⟨g1, o1 + k0 * 5 + 2, none⟩ = some (.bool f.fold) := by have := hc1 (k0 * 5 + 2) _ (e 2 (by omega)); rwa [← Nat.add_assoc] at this
  have x3 : World.cell? ((w.alloc (.cells #[.slice (some ⟨g1, o1, none⟩) fs.length c1] 43)).alloc (.cells #[] 32)) ⟨g1, o1 + k0 * 5 + 3, none⟩ = some (.bool f.stop) := by have := hc1 (k0 * 5 + 3) _ (e 3 (by omega)); rwa [← Nat.add_assoc] at this
  have x4 : World.cell? ((w.alloc (.cells #[.slice (some ⟨g1, o1, none⟩) fs.length c1] 43)).alloc (.cells #[] 32)) ⟨g1, o1 + k0 * 5 + 4, none⟩ = some (.bool f.stem) := by have := hc1 (k0 * 5 + 4) _ (e 4 (by omega)); rwa [← Nat.add_assoc] at this
  clear e hc1 hc1w hne hf
  go_enter Tryd.func22, Tryd.ntmps22
  go_wp2_with fail
  go_loopw [7, 9, 33] (fun v b i wr => ∃ k : Nat, k ≤ vs.length ∧ i = .int .i64 k ∧ b = .int .i64 ((fst f vs k).2 : Nat) ∧ Out true wr w.heap.size (w.heap.size + 2) v (fst f vs k).1 ∧
      Blk wr (w.heap.size + 2) 26 #[.string f.nm, .int .i64 f.kd, .bool f.fold, .bool f.stop, .bool f.stem] ∧ Below w.heap.size w wr) (fun _ _ i _ => vs.length - (intOf i).toNat)
  case atStart => exact ⟨0, Nat.zero_le _, rfl, rfl, Out.empty (by omega) (by simp only [World.size_alloc]; omega) (by omega), blk_new_at _ (by simp only [World.size_alloc]) _ _, by (repeat (first | exact Below.refl _ _ | assumption | refine balloc ?_ _ | refine bdrew ?_ | refine bdrewN ?_ _ | refine bchain ?_ (by assumption)))⟩
  case round =>
    obtain ⟨k, hk, rfl, rfl, hout, hbx, hbel⟩ := hrel
    have hsz := hbel.size
    have hlx := hbx.lt
    have hfl2 := fst_len f vs k hk
    have hfb := fst_base f vs k hk
    have htk := vsum_take_le vs k
    obtain ⟨A3, c3, rfl⟩ := hout.slice
    by_cases hlt : k < vs.length
    · obtain ⟨v, hv⟩ : ∃ v, vs[k]? = some v := ⟨_, List.getElem?_eq_getElem hlt⟩
      have hne : valCells vs ≠ [] := by
        intro h
        have := valCells_len vs
        rw [h] at this
        simp at this
        omega
      obtain ⟨g2, o2, rfl, hg2, hc2⟩ := (h2.below hbel hB) hne
      have y0 : wr.cell? ⟨g2, o2 + k * 2, none⟩ = some (.string v.nm) := hc2 (k * 2 + 0) _ (valCells_at vs k 0 v hv (by omega))
      have y1 : wr.cell? ⟨g2, o2 + k * 2 + 1, none⟩ = some (.string v.text) := by have := hc2 (k * 2 + 1) _ (valCells_at vs k 1 v hv (by omega)); rwa [← Nat.add_assoc] at this
      have hvt := vsum_text hv
      clear hc2 hne h2
      have hbv := Blk.new wr 48 #[.string v.nm, .string v.text]
      have hbxa := hbx.alloc (.cells #[.string v.nm, .string v.text] 48)
      have q0 := hbxa.cell 0
      have q1 := hbxa.cell 1
      have q2 := hbxa.cell 2
      have q3 := hbxa.cell 3
      have q4 := hbxa.cell 4
      simp only [List.getElem?_toArray, List.getElem?_cons_zero, List.getElem?_cons_succ] at q0 q1 q2 q3 q4
      by_cases hn : v.nm = f.nm
      · have HY := Lib.hid (fst_yes hv hn)
        have n1 : (v.nm.toList == f.nm.toList) = true := by rw [hn]; simp
        have n2 : (v.nm.toList != f.nm.toList) = false := by rw [hn]; simp
        have hva : Below wr.heap.size wr (wr.alloc (.cells #[.string v.nm, .string v.text] 48)) := by (repeat (first | exact Below.refl _ _ | assumption | refine balloc ?_ _ | refine bdrew ?_ | refine bdrewN ?_ _ | refine bchain ?_ (by assumption)))
        have OA := Lib.hid (refOf_any f.nm f.kd f.fold f.stop f.stem v.text (wr.alloc (.cells #[.string v.nm, .string v.text] 48)) (by omega))
        clear hn
        have hps : ∀ t ∈ ofF f v.text, 0 ≤ t.pos ∧ t.pos ≤ v.text.size + 1 := fun t h => ofF_pos h
        have HPS := Lib.hid hps
        have hol := ofF_len f v.text
        have hwl := wordsN_le f v.text
        change Hid (Calls _ _ _ _ (RToks (ofF f v.text) _)) at OA
        clear hps
        go_wp2_with fail
        go_at_call 17
        refine OA.out.mono ?_
        rintro e w5 ⟨A5, c5, rfl, own5, hb5⟩
        have hsl : SlcIn w5 (wr.heap.size + 1) w5.heap.size A5 (tokCells (ofF f v.text)) := by have := own5; simp only [World.size_alloc] at this; exact this
        have hbl5 : Below wr.heap.size wr w5 := bchain hva hb5
        have hz5 : wr.heap.size + 1 ≤ w5.heap.size := by have := hb5.size; simp only [World.size_alloc] at this; omega
        have hout5 := hout.below hbl5
        have hbx5 := hbx.below hbl5 hlx
        have hbv5 := hbv.below hb5 (by simp only [World.size_alloc]; omega)
        have hol5 : ∀ g, (Value.slice A3 (fst f vs k).1.length c3).ownBlock = some g → w.heap.size ≤ g ∧ g < wr.heap.size := hout.lie
        have htf : (fst f vs k).1.length + (ofF f v.text).length ≤ 2199023255 := by omega
        clear q0 q1 q2 q3 q4 y0 y1 OA own5 hbxa hbv
        obtain ⟨bs, hbs⟩ : ∃ bs, bs = (fst f vs k).2 := ⟨_, rfl⟩
        rw [← hbs] at hfb ⊢
        have HBS := Lib.hid hbs
        clear hbs
        go_wp2_with fail
        go_loopw [7, 48] (fun v' i wq => ∃ j : Nat, j ≤ (ofF f v.text).length ∧ i = .int .i64 j ∧
            Inn true w5 wq w.heap.size (w.heap.size + 2) (.slice A3 (fst f vs k).1.length c3) v' ((fst f vs k).1 ++ ((ofF f v.text).map (shT k bs)).take j)) (fun _ i _ => (ofF f v.text).length - (intOf i).toNat)
        case atStart => exact ⟨0, Nat.zero_le _, rfl, by rw [List.take_zero, List.append_nil]; exact Inn.start hout5⟩
        case round =>
          obtain ⟨j, hj, rfl, hinn⟩ := hrel
          by_cases hjl : j < (ofF f v.text).length
          · obtain ⟨t, htj⟩ : ∃ t, (ofF f v.text)[j]? = some t := ⟨_, List.getElem?_eq_getElem hjl⟩
            have hne : tokCells (ofF f v.text) ≠ [] := by
              intro h
              have := tokCells_len (ofF f v.text)
              rw [h] at this
              simp at this
              omega
            obtain ⟨g5, o5, rfl, hlo5, hhi5, hc5⟩ := hsl hne
            have hc5q := fun j u hu => (hinn.foot.cell (p := ⟨g5, o5 + j, none⟩) hhi5 (fun e => by have := (hol5 g5 e).2; omega)).trans (hc5 j u hu)
            obtain ⟨s0, s1, s2, s3, s4⟩ := tok_five (B := 0) hc5q htj
            obtain ⟨p0, p1⟩ := HPS.out t (List.mem_of_getElem? htj)
            have hMA := Lib.hid (map_at (i := k) (b := (bs : Int)) htj)
            have hnl : ((fst f vs k).1 ++ ((ofF f v.text).map (shT k bs)).take j).length ≤ 2199023255 := by
              rw [List.length_append, List.length_take, List.length_map]; omega
            have hMB : (fst f vs k).1 ++ ((ofF f v.text).map (shT k bs)).take (j + 1) = ((fst f vs k).1 ++ ((ofF f v.text).map (shT k bs)).take j) ++ [shT k bs t] := by rw [List.append_assoc, ← hMA.out]
            generalize (fst f vs k).1 ++ ((ofF f v.text).map (shT k bs)).take j = L6 at hinn hnl hMB ⊢
            have HMB := Lib.hid hMB
            clear hMB hMA
            have hz6 := hinn.foot.size
            have hlb : w.heap.size + 2 < w5.heap.size := hbx5.lt
            obtain ⟨A6, c6, rfl⟩ := hinn.out.slice
            have hina := hinn.alloc (.cells #[.string t.text, .int .i64 (k : Nat), .int .i64 (t.pos + (bs : Int)), .int .i64 t.start, .int .i64 t.stop] 32)
            clear hc5 hc5q hsl hne htj
            go_wp2_with (at_builtin; refine wpList_append1L (base := w.heap.size) rfl _ _ rfl tokElem hina.out.row rfl (by rw [World.size_alloc]; rfl) rfl rfl (by omega) (by unfold maxLen; omega) (by simp only [World.size_alloc]; omega) ?_)
            intro v7 w7 own7 hg7 hl7
            have hin7 := hina.grow (t := shT k bs t) own7 hg7 (by rw [World.size_alloc]; exact hl7) hlb
            rw [← HMB.out] at hin7
            clear own7 hg7 hl7 hina hinn
            go_wp2_with fail
            go_roundw
            case rel => exact ⟨j + 1, by omega, by go_num, hin7⟩
            case measure => simp [intOf]; omega
          · obtain rfl : j = (ofF f v.text).length := by omega
            rw [List.take_of_length_le (by simp)] at hinn
            have hb8 : Below w.heap.size w5 _ := hinn.keep (B0 := w.heap.size) (fun g e => (hol5 g e).1) (by omega)
            have hbx8 := hinn.foot.blk hbx5 hout5.ne
            have hbv8 := hinn.foot.blk hbv5 (fun e => by have := (hol5 _ e).2; omega)
            have hb8w := (hbel.trans (hbl5.mono hsz)).trans hb8
            have hlv8 := hbv8.lt
            have hout8 := hinn.out
            have r1 := hbx8.cell 1
            have r2 := hbv8.cell 1
            simp only [List.getElem?_toArray, List.getElem?_cons_zero, List.getElem?_cons_succ] at r1 r2
            have hz8 := hb8w.size
            clear hinn hb8 hsl
            by_cases hkd : f.kd = 1
            · have k1 : (f.kd == 1) = true := by rw [beq_iff_eq]; exact hkd
              have hwn := Lib.hid (show wordsN f v.text = (words v.text).length by unfold wordsN; rw [if_pos hkd])
              have hwl2 := words_len v.text
              clear hkd
              go_wp2_with fail
              go_at_call 41
              refine (WordsRef.words_ref v.text _ (by omega)).mono ?_
              rintro e w9 ⟨A9, c9, rfl, _, hb9⟩
              have hout9 := hout8.below hb9
              have hbx9 := hbx8.below hb9 hbx8.lt
              have hb9w := bchain hb8w hb9
              go_wp2_with fail
              go_roundw
              case rel => exact ⟨k + 1, by omega, by go_num, by rw [HY.out, hwn.out, HBS.out]; go_num, by rw [HY.out]; rw [HBS.out] at hout9; exact hout9, hbx9, hb9w⟩
              case measure => simp [intOf]; omega
            · have k1 : (f.kd == 1) = false := by rw [beq_eq_false_iff_ne]; exact hkd
              have hwn := Lib.hid (show wordsN f v.text = 1 by unfold wordsN; rw [if_neg hkd])
              clear hkd
              go_wp2_with fail
              go_roundw
              case rel => exact ⟨k + 1, by omega, by go_num, by rw [HY.out, hwn.out, HBS.out]; go_num, by rw [HY.out]; rw [HBS.out] at hout8; exact hout8, hbx8, hb8w⟩
              case measure => simp [intOf]; omega
      · have HY := Lib.hid (fst_no hv hn)
        have n1 : (v.nm.toList == f.nm.toList) = false := by
          rw [beq_eq_false_iff_ne, ByteArray.toList_eq, ByteArray.toList_eq]
          intro h; apply hn
          have := Array.toList_inj.1 h
          cases hx : v.nm; cases hy : f.nm; rw [hx, hy] at this; simp only at this; rw [this]
        have n2 : (v.nm.toList != f.nm.toList) = true := by rw [bne, n1]; rfl
        clear hn
        go_wp2_with fail
        go_roundw
        case rel => exact ⟨k + 1, by omega, by go_num, by rw [HY.out], by rw [HY.out]; exact hout.below (by (repeat (first | exact Below.refl _ _ | assumption | refine balloc ?_ _ | refine bdrew ?_ | refine bdrewN ?_ _ | refine bchain ?_ (by assumption)))), hbxa, balloc hbel _⟩
        case measure => simp [intOf]; omega
    · obtain rfl : k = vs.length := by omega
      go_wp2_with fail
      go_ret
      exact ⟨_, _, rfl, hout.slcIn rfl, hbel⟩
end Go.Proofs.YtmoahflgcojfcaaDoor.RefField
