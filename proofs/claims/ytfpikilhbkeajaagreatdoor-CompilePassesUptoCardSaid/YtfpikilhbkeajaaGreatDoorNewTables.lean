/-
  The walk of compile's newTables.
-/
import Derived.Test.YtfpikilhbkeajaaGreatDoorCNew
import Derived.Test.YtfpikilhbkeajaaGreatDoorAvg
import Derived.Test.YtfpikilhbkeajaaGreatDoorGoodAny
import Derived.Test.YtfpikilhbkeajaaGreatDoorCEmitB
set_option linter.unusedVariables false
set_option linter.unusedSimpArgs false
namespace Go.Proofs.YtfpikilhbkeajaaGreatDoor.NewTables
set_option maxRecDepth 100000
open Go.RowKit Go.PlainAid Base Query QrySize EmitPlain EmitBase EmitPut LeafMap EmitNear EmitQ0 EmitMiss EmitExt AllLeaves LeafRange Avg HitBase TabMem TabPlain Drive GoodPl BindBase NewEnd NewMid

set_option maxHeartbeats 8000000 in
theorem new_any (hd : Head) (ks : List Qry) (A1 A2 A3 A4 : Option Addr) (c1 c2 c3 c4 : Nat) (all : Bool) (AD : Option Addr) (cD : Nat) (dr : List Lf) (docs : Int) (AS : Option Addr) (cS : Nat) (sums : List Int) (w : World) (hq : QVal w w.heap.size (qcells hd ks.length A1 A2 A3 A4 c1 c2 c3 c4).toList (.mk hd ks))
    (hdr : Slc w w.heap.size AD (lfCs dr)) (hok : ∀ l ∈ dr, LfOk l) (hl : (leafs (.mk hd ks)).length + dr.length ≤ 1073741824) (hsm : Slc w w.heap.size AS (ints sums)) (hsl : sums.length ≤ 1073741824) (hsw : ∀ x ∈ sums, x < 9223372036854775808) :
    Calls Tryz.prog 21 #[.agg (plC hd ks.length A1 A2 A3 A4 c1 c2 c3 c4 all AD dr.length cD), .agg #[.int .i64 docs, .slice AS sums.length cS]] w (IsTabs w (leafs (.mk hd ks) ++ dr) dr (sums.map (avgOf docs)) all) := by
  obtain ⟨S, hS⟩ : ∃ S, S = leafs (.mk hd ks) ++ dr := ⟨_, rfl⟩
  obtain ⟨avgs, hav⟩ : ∃ l, l = sums.map (avgOf docs) := ⟨_, rfl⟩
  have HAL := Lib.hid (show avgs.length = sums.length by rw [hav]; simp)
  obtain ⟨TB, hTB⟩ : ∃ t, t = w.heap.size + 1 + 1 + 1 + 1 := ⟨_, rfl⟩
  obtain ⟨MB, hMB⟩ : ∃ t, t = w.heap.size + 1 + 1 + 1 := ⟨_, rfl⟩
  obtain ⟨RB, hRB⟩ : ∃ t, t = w.heap.size + 1 + 1 := ⟨_, rfl⟩
  obtain ⟨SB, hSB⟩ : ∃ t, t = w.heap.size + 1 := ⟨_, rfl⟩
  obtain ⟨C0, hC⟩ : ∃ C, C = plC hd ks.length A1 A2 A3 A4 c1 c2 c3 c4 all AD dr.length cD := ⟨_, rfl⟩
  obtain ⟨W1, hW1⟩ : ∃ W, W = w.alloc (.cells C0 32) := ⟨_, rfl⟩
  obtain ⟨W2, hW2⟩ : ∃ W, W = W1.alloc (.cells #[.int .i64 docs, .slice AS sums.length cS] 34) := ⟨_, rfl⟩
  obtain ⟨W3, hW3⟩ : ∃ W, W = W2.alloc (.cells #[.slice none 0 0, .slice none 0 0, .slice none 0 0, .bool false, .slice none 0 0, .slice none 0 0, .map none] 68) := ⟨_, rfl⟩
  obtain ⟨W4, hW4⟩ : ∃ W, W = W3.alloc (.map #[] 0) := ⟨_, rfl⟩
  obtain ⟨W5, hW5⟩ : ∃ W, W = W4.alloc (.cells #[.slice none 0 0, .slice none 0 0, .slice none 0 0, .bool false, .slice none 0 0, .slice none 0 0, .map (some MB)] 68) := ⟨_, rfl⟩
  have s1 : W1.heap.size = w.heap.size + 1 := by rw [hW1]; simp
  have s2 : W2.heap.size = w.heap.size + 1 + 1 := by rw [hW2]; simp [s1]
  have s3 : W3.heap.size = w.heap.size + 1 + 1 + 1 := by rw [hW3]; simp [s2]
  have s4 : W4.heap.size = w.heap.size + 1 + 1 + 1 + 1 := by rw [hW4]; simp [s3]
  have s5 : W5.heap.size = w.heap.size + 1 + 1 + 1 + 1 + 1 := by rw [hW5]; simp [s4]
  have hb5 : Below w.heap.size w W5 := by rw [hW5, hW4, hW3, hW2, hW1]; exact Base.bel
  have KP : Blk W5 w.heap.size 32 C0 := by
    have k1 : Blk W1 w.heap.size 32 C0 := by rw [hW1]; exact Blk.new w _ _
    rw [hW5, hW4, hW3, hW2]
    exact (((k1.alloc _).alloc _).alloc _).alloc _
  have KS : Blk W5 SB 34 #[.int .i64 docs, .slice AS sums.length cS] := by
    have k1 : Blk W2 SB 34 #[.int .i64 docs, .slice AS sums.length cS] := by rw [hW2, hSB, ← s1]; exact Blk.new W1 _ _
    rw [hW5, hW4, hW3]
    exact ((k1.alloc _).alloc _).alloc _
  have KR : Blk W5 RB 68 #[.slice none 0 0, .slice none 0 0, .slice none 0 0, .bool false, .slice none 0 0, .slice none 0 0, .map none] := by
    have k1 : Blk W3 RB 68 #[.slice none 0 0, .slice none 0 0, .slice none 0 0, .bool false, .slice none 0 0, .slice none 0 0, .map none] := by rw [hW3, hRB, ← s2]; exact Blk.new W2 _ _
    rw [hW5, hW4]
    exact (k1.alloc _).alloc _
  have NM : IsNum W5 MB 0 (fun _ => 0) := by
    have k1 : IsNum W4 MB 0 (fun _ => 0) := by rw [hW4, hMB, ← s3]; exact IsNum.made W3
    rw [hW5]
    exact k1.below (B := W4.heap.size) ((Below.refl _ _).alloc (Nat.le_refl _) _) k1.lt
  have KT : Blk W5 TB 68 (tabC (.slice none 0 0) (.slice none 0 0) false (.slice none 0 0) MB) := by rw [hW5, hTB, ← s4]; exact Blk.new W4 _ _
  have HLO := Lib.hid (show ∀ l ∈ S, LfOk l from fun l hl => by
    rw [hS] at hl
    rcases List.mem_append.1 hl with h | h
    · exact leafs_ok hq l h
    · exact hok l h)
  have AL := Lib.hid (show ∀ W, Below w.heap.size w W → _ from fun W hb => by
    have := allLeaves_any hd ks A1 A2 A3 A4 c1 c2 c3 c4 all AD cD dr w.heap.size W hb.size (hq.kept hb (Nat.le_refl _)) (hdr.below hb (Nat.le_refl _)) hok (by unfold maxLen; omega)
    rw [← hS] at this
    unfold plC at this
    exact this)
  have HDV := Lib.hid (show ∀ W nm x, Below w.heap.size w W → TB < W.heap.size → W.cell? ⟨TB, 6, none⟩ = some (.map (some MB)) → IsNum W MB nm x → Calls Tryz.prog 48 #[.pointer (some ⟨TB, 0, none⟩), .slice AD dr.length cD] W (IsDrive W (driveL x dr)) from fun W nm x hb ht hc hx =>
    drive_any TB MB nm x dr AD cD W hc ht hx ((hdr.below hb (Nat.le_refl _)).mono hb.size) hok (by omega))
  have hSl : S.length ≤ 1073741824 := by rw [hS, List.length_append]; exact hl
  rw [← hS, ← hav]
  unfold plC at hC
  rw [hC] at hW1 KP
  have HSM := Lib.hid hsm
  have HSW := Lib.hid hsw
  have HB5 := Lib.hid hb5
  have HKP := Lib.hid KP
  have HKS := Lib.hid KS
  have HKR := Lib.hid KR
  have HNM := Lib.hid NM
  have HKT := Lib.hid KT
  have HAV := Lib.hid hav
  have HS5 := Lib.hid s5
  have HTB := Lib.hid hTB
  have HMB := Lib.hid hMB
  have HRB := Lib.hid hRB
  have HSB := Lib.hid hSB
  have hmm := @run_makeMap Tryz.prog
  have y0 : W5.cell? ⟨SB, 0, none⟩ = some (.int .i64 docs) := KS.cell 0
  have y1 : W5.cell? ⟨SB, 1, none⟩ = some (.slice AS sums.length cS) := KS.cell 1
  have HW1 := Lib.hid hW1
  have HW2 := Lib.hid hW2
  have HW3 := Lib.hid hW3
  have HW4 := Lib.hid hW4
  have HW5 := Lib.hid hW5
  clear hC hq hdr hok hl hsm hsw hb5 KP KS KR NM KT hav hS hW1 hW2 hW3 hW4 hW5 hTB hMB hRB hSB s1 s2 s3 s4 s5
  unfold plC
  go_enter Tryz.func21, Tryz.ntmps21
  refine cast_code (c := .seq ?r0 (.seq ?r1 (.seq ?r2 (tailN 7)))) ?e ?_
  case e => exact rfl
  go_upto_region 2 with fail
  rw [← HTB.out, ← HMB.out, ← HRB.out, ← HSB.out, ← HW1.out, ← HW2.out, ← HW3.out, ← HW4.out, ← HW5.out]
  clear HW1 HW2 HW3 HW4 HW5
  go_wp2_with fail
  clear y0 y1
  go_loopw [15] (fun i wr => ∃ (k : Nat) (av : Value), k ≤ sums.length ∧ i = .int .i64 k ∧ Foot W5 wr (fun b => b ≠ TB) ∧ Blk wr TB 68 (tabC av (.slice none 0 0) false (.slice none 0 0) MB) ∧ wr.ownsRow W5.heap.size 3 1 av k (ints (avgs.take k))) (fun i _ => sums.length - (intOf i).toNat)
  case atStart => exact ⟨0, _, Nat.zero_le _, rfl, Foot.refl _ _, HKT.out, World.ownsRow_nil _ _ _ _⟩
  case round =>
    obtain ⟨k, av, hk, rfl, hF, hT, hown⟩ := hrel
    obtain ⟨A5, c5, rfl⟩ := own_slice hown
    obtain ⟨hsb, hrb, hmb, htb, hs5⟩ : w.heap.size < SB ∧ SB < RB ∧ RB < MB ∧ MB < TB ∧ TB < W5.heap.size := by
      have := HS5.out; have := HTB.out; have := HSB.out; have := HMB.out; have := HRB.out
      omega
    have hbel : Below w.heap.size w wr := HB5.out.trans (foot_below hF (fun k hk => by omega) (by omega))
    have hsz := hF.size
    rcases Nat.lt_or_ge k sums.length with hlt | hge
    · obtain ⟨x, hx⟩ : ∃ x, sums[k]? = some x := ⟨_, List.getElem?_eq_getElem hlt⟩
      obtain ⟨g, o, e4, hg4, hc4⟩ := HSM.out (by intro e; have := congrArg List.length e; simp [ints] at this; rw [this] at hlt; simp at hlt)
      subst e4
      have KSr := hF.blk HKS.out (by omega)
      have y0 : wr.cell? ⟨SB, 0, none⟩ = some (.int .i64 docs) := KSr.cell 0
      have y1 : wr.cell? ⟨SB, 1, none⟩ = some (.slice (some ⟨g, o, none⟩) sums.length cS) := KSr.cell 1
      have AV := Lib.hid (avg_any docs x k sums.length g o cS wr.drew (by show g < wr.heap.size; omega) ((hbel.cell (p := ⟨g, o + k, none⟩) (by show g < _; omega)).trans (hc4 k _ (by simp [ints, hx]))) hlt (HSW.out x (List.mem_of_getElem? hx)))
      have hav : avgs[k]? = some (avgOf docs x) := by rw [HAV.out, List.getElem?_map, hx]; rfl
      obtain ⟨y, hy⟩ : ∃ y, y = avgOf docs x := ⟨_, rfl⟩
      rw [← hy] at AV hav
      have s0 : wr.cell? ⟨TB, 0, none⟩ = some (.slice A5 k c5) := hT.cell 0
      have i1 : (k : Int) < (sums.length : Int) := by omega
      have i3 : (k : Int) < 9223372036854775807 := by omega
      have HF := Lib.hid hF
      have HT := Lib.hid hT
      have HO := Lib.hid hown
      have HY := Lib.hid hav
      obtain ⟨ie1, ⟨ii, ie2, ie3, ie4, ie5⟩, ie6, ie7⟩ := intEl
      clear hF hT hown hav hy hx hc4 KSr hbel
      go_upto_region 5 with fail
      go_region_law (first | (refine step_append_kept (by rfl) _ _ _ (by rfl) W5.heap.size 3 ii _ 1 8 ie1 ie2 ie3 ie4 ie5 ie6 ie7 (.slice A5 k c5) k _ (by rfl) (HO2.out.alloc _) ⟨w2.heap.size, 0, none⟩ 1 1 [.int .i64 y] (by rfl) (by rfl) (World.news_of_block (cs := #[.int .i64 y]) (t := 3) (fr := (0, 0)) (hnew2 _)) (by simp [Value.oneCell']) (by omega) (by unfold maxLen; omega) (by omega) (by simp only [World.size_alloc]; omega) ?_; intro gg cap w3 ho3 hat3; have hat4 := hat_low ((Below.refl w2.heap.size w2).alloc (Nat.le_refl _) _) hat3; have S3 := HT2.out.grown (hat_grown (Below.refl _ _) hat4) (fun e => own_far HO2.out (by omega) e.symm); have s03 : w3.cell? ⟨TB, 0, none⟩ = some (.slice A5 k c5) := S3.cell 0; have f03 : w3.frozen? ⟨TB, 0, none⟩ = false := S3.frozen 0) | (rw [if_pos (by rfl)]; go_simp; go_at_call 45; refine AV.out.mono ?_; rintro e w2 ⟨rfl, hb2⟩; have hb2' : Below wr.heap.size wr w2 := ((Below.refl wr.heap.size wr).drew).trans hb2; have HO2 := Lib.hid (own_below HO.out hb2'); have HT2 := Lib.hid (HT.out.below hb2' HT.out.lt); have hnew2 : ∀ o, (w2.alloc o).heap[w2.heap.size]? = some o := fun o => heap_alloc_new w2 o; have s02 : w2.cell? ⟨TB, 0, none⟩ = some (.slice A5 k c5) := HT2.out.cell 0; have s02a : ∀ o, (w2.alloc o).cell? ⟨TB, 0, none⟩ = some (.slice A5 k c5) := fun o => (HT2.out.alloc o).cell 0; have hw2 : W5.heap.size ≤ w2.heap.size := Nat.le_trans hsz hb2'.size; have HB2 := Lib.hid hb2'; clear hb2 hb2'; dsimp only))
      all_goals
        go_wp2_with fail
        go_roundw
        case rel =>
          have hg4' := hat_grown (Below.refl _ _) hat4
          refine ⟨k + 1, _, by omega, by go_num, ?_, by have := S3.set_ 0 (.slice (some ⟨gg, 0, none⟩) (k + 1) cap); simpa [tabC] using this, ?_⟩
          · exact ((foot_chain HF.out HB2.out).grown hg4' (fun k' hk' e he => by have := (HO2.out.lt k' e).1; omega)).set_ (p := ⟨TB, 0, none⟩) (fun _ h => h rfl) _
          · have := own_setFar ho3 (p := ⟨TB, 0, none⟩) (own_far ho3 (by omega)) (.slice (some ⟨gg, 0, none⟩) (k + 1) cap)
            rw [List.take_add_one, HY.out]
            simpa [ints] using this
        case measure => simp [intOf]; omega
    · obtain rfl : k = sums.length := by omega
      have hS2 := HAL.out
      rw [← hS2, List.take_length] at hown
      have hsz2 := hown.lt
      have NE := Lib.hid (new_mid hd ks.length A1 A2 A3 A4 c1 c2 c3 c4 w wr S dr avgs all AD cD A5 c5 SB RB MB TB W5.heap.size (Lib.hid ⟨hsb, hrb, hmb, htb, hs5, hsz⟩) (Lib.hid (by unfold plC; exact hF.blk HKP.out (by omega))) (Lib.hid (hF.blk HKR.out (by omega))) (Lib.hid (by rw [hS2]; exact hT))
        (Lib.hid (isNum_same HNM.out (hF.block MB HNM.out.lt (by omega)))) (Lib.hid hown) HLO hSl (Lib.hid hbel) (Lib.hid (by have := AL.out; unfold plC; exact this)) HDV)
      clear hF hT hown hbel hsz2 hS2
      go_wp2_with fail
      exact NE.out _ _ _ _ _ _ _ _ _ _ _ _ _ _ _ _ _ _ _ _ _ _ _ _ _ _ _ _ _ _ _ _ _ _ _ _ _ _ _ _ _ _ _ _ _ _ _ _ _ _ _ _ _ _ _ _ _ _ _ _ _ _ _ _ _ _ _ _ _ _
end Go.Proofs.YtfpikilhbkeajaaGreatDoor.NewTables
