/-
  The walk of TopkJoins.
-/
import Derived.Test.YtmddnilephneiaaPairRows
import Derived.Test.YtmddnilephneiaaJoinPlain
import Derived.Test.YtmddnilephneiaaOutWalk
namespace Go.Proofs.Ytmddnilephneiaa.TopkJoinsWalk
open Go.RowKit Go.PlainAid HitPlain HeapPlain KeepPlain Base HitBase PushWalk OfferWalk KeepWalk TopkWalk Rows2 PairRows JoinPlain Fixed OutWalk

set_option maxRecDepth 100000 in
set_option maxHeartbeats 4000000 in
theorem walk (ls : List Lst) (A : Option Addr) (c B : Nat) (k : Int) (w : World) (hB : B ≤ w.heap.size) (h : Lsts w B A ls) (hn : ls.length + (allHits ls).length ≤ 1048576) :
    Calls Try.prog 4 #[.slice A ls.length c, .int .i64 k] w fun e w' => e = .returned (.bool true) ∧ Below w.heap.size w w' := by
  go_enter Try.func4, Try.ntmps4
  go_wp2_with (go_at_call 9; refine (fixed_any _).mono ?_; rintro e w1 ⟨rfl, hb1⟩)
  have z1 := hb1.size
  have hp1 := Pair.nil w1 w.heap.size
  go_loopw [5, 6, 14] (fun va vs i wr => ∃ (j : Nat) (ks : List Lst), j ≤ ls.length ∧ i = .int .i64 j ∧ ks.length = j ∧ Pair wr w.heap.size va vs (allHits (ls.take j)) ks ∧ ks.map (·.2.2) = (ls.take j).map (fun x => tk k.toNat x.2.2) ∧ Below w.heap.size w wr) (fun _ _ i _ => ls.length - (intOf i).toNat)
  case atStart => exact ⟨0, [], Nat.zero_le _, rfl, rfl, hp1, rfl, hb1⟩
  case round =>
    obtain ⟨j, ks, hj, rfl, hkl, hpr, hkt, hbr⟩ := hrel
    clear hp1 hb1 z1
    have hsr := hbr.size
    by_cases hlt : j < ls.length
    · obtain ⟨⟨Ax, cx, L⟩, hx⟩ : ∃ x, ls[j]? = some x := ⟨_, List.getElem?_eq_getElem hlt⟩
      have hmem : ((Ax, cx, L) : Lst) ∈ ls := List.mem_of_getElem? hx
      obtain ⟨g, o, rfl, hg, hc0⟩ := (h.1.below hbr hB) (by intro e; have := congrArg List.length e; simp at this; rw [this] at hlt; simp at hlt)
      have p0 : wr.cell? ⟨g, o + j, none⟩ = some (.slice Ax L.length cx) := hc0 j _ (by rw [List.getElem?_map, hx]; rfl)
      have hsl : Slc w B Ax (hc L) := h.2 _ hmem
      have ha : Hid (allHits (ls.take (j + 1)) = allHits (ls.take j) ++ L) := Lib.hid (by rw [take_snoc hx, allHits_snoc])
      have hT : Hid ((ls.take (j + 1)).map (fun x => tk k.toNat x.2.2) = (ls.take j).map (fun x => tk k.toNat x.2.2) ++ [tk k.toNat L]) := Lib.hid (by rw [take_snoc hx, List.map_append]; rfl)
      have hle := allHits_take_le ls (j + 1)
      rw [ha.out, List.length_append] at hle
      clear hc0 hx hmem
      obtain ⟨P0, hP0⟩ : ∃ P0, P0 = allHits (ls.take j) := ⟨_, rfl⟩
      rw [← hP0] at hpr hle ha
      clear hP0
      have HKT := Lib.hid hkt
      have HKL := Lib.hid hkl
      clear hkt hkl
      go_wp2_with (at_builtin; refine wpList_append_slc rfl _ _ rfl hitElem hpr.all_ rfl rfl (hc_len L) (hsl.below hbr hB) (hc_one L) (by omega) (by unfold maxLen; omega) hsr ?_)
      intro va2 w2 hown2 hg2 hat2
      have hp2 := hpr.grow1 hown2 hg2 hat2
      have hb2 : Below w.heap.size w w2 := below_own hbr hpr.all_ hsr hg2
      have z2 := hb2.size
      clear hown2 hg2 hat2 hpr p0
      go_wp2_with fail
      go_at_call 15
      refine (select_any L Ax cx B k w2 (Nat.le_trans hB z2) (hsl.below hb2 hB) (by omega)).mono ?_
      rintro e w3 ⟨A3, c3, rfl, hown3, hb3⟩
      have hy := hp2.fresh hown3
      have hp3 := hp2.below hb3
      have hb3' : Below w.heap.size w w3 := hb2.trans (hb3.mono z2)
      have z3 := hb3'.size
      clear hown3 hb3 hp2
      obtain ⟨T, hT'⟩ : ∃ T, T = tk k.toNat L := ⟨_, rfl⟩
      have HTT := Lib.hid hT'
      rw [← hT'] at hy
      rw [← hT']
      clear hT'
      have hb4 : Below w3.heap.size w3 (w3.alloc (.cells #[.slice A3 T.length c3] 26)) := (Below.refl _ _).alloc (Nat.le_refl _) _
      have hp4 := hp3.below hb4
      have hy4 := hy.foot (Foot.ofBelow hb4 _)
      have hn4 := slc_new w3 #[.slice A3 T.length c3] 26
      have hz4 : w.heap.size ≤ (w3.alloc (.cells #[.slice A3 T.length c3] 26)).heap.size := Nat.le_trans z3 hb4.size
      have HKB : ks.length ≤ 1048576 := by have := HKL.out; omega
      clear hp3 hy
      go_wp2_with (at_builtin; refine wpList_append_slc (m := 1) rfl _ _ rfl rowElem hp4.short rfl rfl rfl hn4 (by intro u hu; simp at hu; subst hu; rfl) (by omega) (by unfold maxLen; omega) hz4 ?_)
      intro vs5 w5 hown5 hg5 hat5
      have hp5 := hp4.grow2 (y := (A3, c3, T)) hy4 hown5 hg5 (by simpa using hat5)
      have hb5 : Below w.heap.size w w5 := below_own (hb3'.trans (hb4.mono z3)) hp4.short hz4 hg5
      clear hown5 hg5 hat5 hp4 hy4 hn4
      go_wp2_with fail
      go_roundw
      case rel => exact ⟨j + 1, ks ++ [(A3, c3, T)], by omega, by go_num, by rw [List.length_append, HKL.out]; rfl, by rw [ha.out]; exact hp5, by rw [hT.out, List.map_append, HKT.out, ← HTT.out]; rfl, hb5⟩
      case measure => simp [intOf]; omega
    · obtain rfl : j = ls.length := by omega
      rw [List.take_length] at hpr hkt
      obtain ⟨hte, htl⟩ := short_eq hkt
      obtain ⟨Aa, ca, rfl, hsa⟩ := hpr.hits
      obtain ⟨As, cs, rfl, hss⟩ := hpr.lsts
      have HTE := Lib.hid hte
      have hkl' : ks.length ≤ 8796093022208 := by omega
      clear hpr hkt hte hkl
      obtain ⟨K, hK⟩ : ∃ K, K = tk k.toNat (allHits ls) := ⟨_, rfl⟩
      have HKL : Hid (K.length = min k.toNat (allHits ls).length) := Lib.hid (by rw [hK, tk_len])
      have hKl : K.length ≤ (allHits ls).length := by have := HKL.out; omega
      have hKs : Srt K := by rw [hK]; exact tk_srt _ _
      obtain ⟨T, hT⟩ : ∃ T, T = allHits ls := ⟨_, rfl⟩
      have HT := Lib.hid hT
      have HWANT : Hid (max 0 (min k (T.length : Int)) = (K.length : Int)) := Lib.hid (by have := HKL.out; rw [hT]; omega)
      have HK : Hid (K = tk k.toNat T) := Lib.hid (by rw [hK, hT])
      have HKk : Hid (tk k.toNat (allHits ks) = K) := Lib.hid (by rw [hK]; exact HTE.out)
      have hTn : T.length ≤ 1048576 := by rw [hT]; omega
      have hKn : K.length ≤ 8796093022208 := by omega
      have hkn : (allHits ks).length ≤ 1048576 := by omega
      have HJ := Lib.hid (join_any ls A c B k wr (Nat.le_trans hB hsr) ⟨h.1.below hbr hB, fun x hx => (h.2 x hx).below hbr hB⟩ (by omega) (by omega))
      rw [← hK] at HJ
      rw [← hT] at hsa
      rw [← hT]
      have HSR := Lib.hid hKs
      clear hT hK hKs hKl htl hn h
      have hwant := HWANT.out
      go_wp2_with (go_at_call 16; refine HJ.out.mono ?_; rintro e w5 ⟨A5, c5, rfl, hown5, hb5⟩)
      have z5 := hb5.size
      have hb0 : Below w.heap.size w w5 := hbr.trans (hb5.mono hsr)
      have hs5 : Slc w5 w5.heap.size A5 (hc K) := slc_own hown5
      have hsa5 : Slc w5 w5.heap.size Aa (hc T) := (hsa.below hb5 (Nat.le_refl _)).mono z5
      have hss5 : Lsts w5 w5.heap.size As ks := ⟨(hss.1.below hb5 (Nat.le_refl _)).mono z5, fun x hx => ((hss.2 x hx).below hb5 (Nat.le_refl _)).mono z5⟩
      have z0 := hb0.size
      clear hown5 hb5 hsa hss hbr
      go_at_call 17
      refine (sorted_any K A5 c5 w5.heap.size w5 (Nat.le_refl _) hs5 hKn HSR.out).mono ?_
      rintro e w6 ⟨rfl, b6⟩
      go_wp2_with fail
      go_at_call 15
      refine (select_any T Aa ca _ k w6 b6.size (hsa5.below b6 (Nat.le_refl _)) (by omega)).mono ?_
      rw [← HK.out]
      rintro e w7 ⟨A7, c7, rfl, hown7, hb7⟩
      have b7 := bchain b6 hb7
      have hs7 := slc_own hown7
      clear hb7 hown7 b6
      go_wp2_with fail
      go_at_call 12
      refine (equal_eq K A5 A7 _ _ _ _ w7 hKn (hs5.below b7 (Nat.le_refl _)) hs7).mono ?_
      rintro e w8 ⟨rfl, hb8⟩
      have b8 := bchain b7 hb8
      clear hb8 b7 hs7
      go_wp2_with fail
      go_at_call 16
      refine (join_any ks As cs _ k w8 b8.size (hss5.below b8 (Nat.le_refl _)) hkl' (by omega)).mono ?_
      rw [HKk.out]
      rintro e w9 ⟨A9, c9, rfl, hown9, hb9⟩
      have b9 := bchain b8 hb9
      have hs9 := slc_own hown9
      clear hb9 hown9 b8
      go_wp2_with fail
      go_at_call 12
      refine (equal_eq K A5 A9 _ _ _ _ w9 hKn (hs5.below b9 (Nat.le_refl _)) hs9).mono ?_
      rintro e w10 ⟨rfl, hb10⟩
      have b10 := bchain b9 hb10
      go_wp2_with fail
      go_ret
      exact ⟨rfl, hb0.trans (b10.mono z0)⟩
end Go.Proofs.Ytmddnilephneiaa.TopkJoinsWalk
