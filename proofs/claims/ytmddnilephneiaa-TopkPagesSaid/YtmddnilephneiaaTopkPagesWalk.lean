/-
  The walk of TopkPages.
-/
import Derived.Test.YtmddnilephneiaaRows2
import Derived.Test.YtmddnilephneiaaPagesPlain
import Derived.Test.YtmddnilephneiaaOutWalk
namespace Go.Proofs.Ytmddnilephneiaa.TopkPagesWalk
open Go.RowKit Go.PlainAid HitPlain HeapPlain KeepPlain Base HitBase PushWalk OfferWalk KeepWalk TopkWalk Rows2 PagesPlain Fixed OutWalk

theorem slc_drop {w : World} {B g o : Nat} {L : List Hit} (h : Slc w B (some ⟨g, o, none⟩) (hc L)) (n : Nat) : Slc w B (some ⟨g, o + n * 2, none⟩) (hc (L.drop n)) := by
  intro hne
  have hL : hc L = hc (L.take n) ++ hc (L.drop n) := by rw [← hc_append, List.take_append_drop]
  have hn : n < L.length := by
    rcases Nat.lt_or_ge n L.length with h' | h'
    · exact h'
    · rw [List.drop_eq_nil_of_le h'] at hne; exact absurd rfl hne
  obtain ⟨g', o', e, hg, hc'⟩ := h (by rw [hL]; intro e; exact hne (List.append_eq_nil_iff.1 e).2)
  injection e with e
  injection e with e1 e2
  subst e1 e2
  refine ⟨g, _, rfl, hg, fun j u hu => ?_⟩
  rw [Nat.add_assoc]
  refine hc' _ u ?_
  rw [hL, List.getElem?_append_right (by rw [hc_len, List.length_take]; omega), hc_len, List.length_take]
  rw [show n * 2 + j - min n L.length * 2 = j by omega]
  exact hu

def vlen : Value → Nat
  | .slice _ n _ => n
  | _ => 0
theorem take_page (S : List Hit) (m k : Nat) : S.take (m + ((S.drop m).take k).length) = S.take m ++ (S.drop m).take k := by
  rw [List.take_add]
  congr 1
  rw [List.length_take, ← List.take_eq_take_min]

set_option maxRecDepth 100000 in
set_option maxHeartbeats 4000000 in
theorem walk (L : List Hit) (A : Option Addr) (c B : Nat) (k : Int) (_hk1 : -9223372036854775808 ≤ k) (_hk2 : k < 9223372036854775808) (w : World) (hB : B ≤ w.heap.size) (h : Slc w B A (hc L)) (hcap : L.length ≤ c) (hn : (L.length + 1) * 16 ≤ 140737488355328) :
    Calls Try.prog 7 #[.slice A L.length c, .int .i64 k] w fun e w' => e = .returned (.bool true) ∧ Below w.heap.size w w' := by
  go_enter Try.func7, Try.ntmps7
  go_wp2_with (go_at_call 9; refine (fixed_any _).mono ?_; rintro e w1 ⟨rfl, hb1⟩)
  have z1 := hb1.size
  go_loopw [13] (fun i wr => ∃ j : Nat, j ≤ L.length ∧ i = .int .i64 j ∧ Hid (∀ (q : Nat) (x : Hit), q < j → L[q]? = some x → (L.drop (q + 1)).count x = 0) ∧ Below w.heap.size w wr) (fun i _ => L.length - (intOf i).toNat)
  case atStart => exact ⟨0, Nat.zero_le _, rfl, Lib.hid (fun q x hq => by omega), hb1⟩
  case round =>
    obtain ⟨j, hj, rfl, hnd, hbr⟩ := hrel
    clear hb1 z1
    have hsr := hbr.size
    by_cases hlt : j < L.length
    · obtain ⟨⟨x1, x2⟩, hx⟩ : ∃ x, L[j]? = some x := ⟨_, List.getElem?_eq_getElem hlt⟩
      obtain ⟨g, o, rfl, hg, a2⟩ := slc_at (h.below hbr hB) (by intro e; rw [e] at hlt; simp at hlt)
      obtain ⟨q0, q1⟩ := a2 j _ hx
      have HX := Lib.hid hx
      clear a2 hx
      obtain ⟨wa, hwa⟩ : ∃ wa, wa = wr.alloc (.cells #[.int .i64 x1, .int .u64 x2] 29) := ⟨_, rfl⟩
      have hba : Below wr.heap.size wr wa := by rw [hwa]; exact (Below.refl _ _).alloc (Nat.le_refl _) _
      have d0 : wa.cell? ⟨wr.heap.size, 0, none⟩ = some (.int .i64 x1) := by rw [hwa, World.cell?_alloc_mark]; rfl
      have d1 : wa.cell? ⟨wr.heap.size, 1, none⟩ = some (.int .u64 x2) := by rw [hwa, World.cell?_alloc_mark]; rfl
      have hbwa : Below w.heap.size w wa := hbr.trans (hba.mono hsr)
      have HWA := Lib.hid hwa
      clear hwa
      have i1 : (0 : Int) ≤ (j : Int) + 1 := by omega
      have i2 : (j : Int) + 1 ≤ (L.length : Int) := by omega
      have i3 : ((j : Int) + 1).toNat = j + 1 := by omega
      have i4 : IntKind.i64.wrap ((j : Int) + 1) = (j : Int) + 1 := IntWalk.i64_in _ (by omega)
      obtain ⟨Ax, hAx⟩ : ∃ Ax, Ax = (if c = j + 1 then some (⟨g, o, none⟩ : Addr) else some ⟨g, o + (j + 1) * 2, none⟩) := ⟨_, rfl⟩
      have hsx : Slc wa B Ax (hc (L.drop (j + 1))) := by
        rw [hAx]
        by_cases hcj : c = j + 1
        · rw [List.drop_eq_nil_of_le (by omega)]
          exact Slc.nil _
        · rw [if_neg hcj]
          exact slc_drop (h.below hbwa hB) (j + 1)
      have hC := count_any (L.drop (j + 1)) Ax (c - (j + 1)) B x1 x2 wa.drew (Nat.le_trans hB hbwa.size) hsx (by rw [List.length_drop]; omega)
      obtain ⟨lc, hlc⟩ : ∃ lc, lc = (L.drop (j + 1)).count (x1, x2) := ⟨_, rfl⟩
      rw [← hlc, List.length_drop] at hC
      have HC := Lib.hid hC
      have HLC := Lib.hid hlc
      have HAX := Lib.hid hAx
      clear hAx hC hlc hsx
      go_upto_region 6 with fail
      rw [← HWA.out]
      go_still_tail 5, (by kernel_rfl)
      rw [← HAX.out]
      by_cases hl0 : lc = 0
      · have e1 : ¬ (0 : Int) < (lc : Int) := by omega
        go_wp2_with (go_at_call 19; refine HC.out.mono ?_; rintro e wz ⟨rfl, hbz⟩)
        go_roundw
        case rel =>
          refine ⟨j + 1, by omega, by go_num, Lib.hid ?_, hbwa.trans ((bdrew (Below.refl _ _)).trans (hbz.mono (Nat.le_refl _)) |>.mono hbwa.size)⟩
          intro q x hq hxq
          rcases (by omega : q < j ∨ q = j) with hq' | rfl
          · exact hnd.out q x hq' hxq
          · rw [HX.out] at hxq
            injection hxq with hxq
            subst hxq
            rw [← HLC.out, hl0]
        case measure => simp [intOf]; omega
      · have e1 : (0 : Int) < (lc : Int) := by omega
        go_wp2_with (go_at_call 19; refine HC.out.mono ?_; rintro e wz ⟨rfl, hbz⟩)
        go_ret
        exact ⟨rfl, hbwa.trans ((bdrew (Below.refl _ _)).trans (hbz.mono (Nat.le_refl _)) |>.mono hbwa.size)⟩
    · obtain rfl : j = L.length := by omega
      have hN : L.Nodup := nodup_of fun i x hx => hnd.out i x (List.getElem?_eq_some_iff.1 hx).1 hx
      clear hnd
      go_upto_region 10 with fail
      obtain ⟨kk, hkk⟩ : ∃ kk : Nat, kk = (IntKind.u64.wrap k).toNat % (L.length + 1) + 1 := ⟨_, rfl⟩
      have HKK : Hid (wrap64 (1 + wrap64 ((IntKind.u64.wrap k).tmod ((L.length : Int) + 1))) = (kk : Int)) := Lib.hid (by
        have p0 : 0 ≤ IntKind.u64.wrap k := by rw [IntKind.wrap_u64]; omega
        have p1 : (IntKind.u64.wrap k).tmod ((L.length : Int) + 1) = ((IntKind.u64.wrap k).toNat % (L.length + 1) : Nat) := by
          rw [Int.tmod_eq_emod_of_nonneg p0, Int.natCast_emod, Int.toNat_of_nonneg p0]
          rfl
        have p2 : (IntKind.u64.wrap k).toNat % (L.length + 1) < L.length + 1 := Nat.mod_lt _ (by omega)
        rw [p1, IntWalk.wrap64_in (((IntKind.u64.wrap k).toNat % (L.length + 1) : Nat) : Int) (by omega), IntWalk.wrap64_in _ (by omega), hkk]
        omega)
      have hk1' : 1 ≤ kk := by omega
      have hk2' : kk ≤ L.length + 1 := by
        have p2 : (IntKind.u64.wrap k).toNat % (L.length + 1) < L.length + 1 := Nat.mod_lt _ (by omega)
        omega
      clear hkk
      rw [HKK.out]
      obtain ⟨S, hS⟩ : ∃ S, S = srt L := ⟨_, rfl⟩
      have HS := Lib.hid hS
      have hSl : S.length = L.length := by rw [hS, srt_len]
      have HSL := Lib.hid hSl
      clear hS hSl
      have hSel := select_any L A c B (kk : Int) wr (Nat.le_trans hB hsr) (h.below hbr hB) hn
      obtain ⟨Q0, hQ0⟩ : ∃ Q0, Q0 = (S.drop 0).take kk := ⟨_, rfl⟩
      rw [Int.toNat_natCast, page_first, ← HS.out, ← hQ0] at hSel
      have HQ0 := Lib.hid hQ0
      clear hQ0
      have HSEL := Lib.hid hSel
      have HN := Lib.hid hN
      clear hSel hN
      go_wp2_with (go_at_call 15; refine HSEL.out.mono ?_; rintro e w5 ⟨A5, c5, rfl, hown5, hb5⟩)
      have hb0 : Below w.heap.size w w5 := hbr.trans (hb5.mono hsr)
      have hp0 : SlcP w5 (fun g => (Value.slice none 0 0).ownBlock ≠ some g) A5 (hc Q0) := slcP_own hown5 (fun g _ _ => by simp [Value.ownBlock])
      clear hown5 hb5 hbr hsr
      go_loopw [7, 8] (fun va vp wr => ∃ (m : Nat) (Aa : Option Addr) (ca : Nat) (Ap : Option Addr) (cp : Nat), m ≤ L.length ∧ va = .slice Aa m ca ∧ vp = .slice Ap ((S.drop m).take kk).length cp ∧ wr.ownsRow w.heap.size 29 2 (.slice Aa m ca) m (hc (S.take m)) ∧ SlcP wr (fun g => (Value.slice Aa m ca).ownBlock ≠ some g) Ap (hc ((S.drop m).take kk)) ∧ Below w.heap.size w wr) (fun va _ _ => L.length - vlen va)
      case atStart => exact ⟨0, none, 0, A5, c5, Nat.zero_le _, rfl, by rw [← HQ0.out], World.ownsRow_nil _ _ _ _, by rw [← HQ0.out]; exact hp0, hb0⟩
      case round =>
        obtain ⟨m, Aa, ca, Ap, cp, hm, rfl, rfl, hown, hpg, hbr⟩ := hrel
        clear hp0 hb0
        have hsr := hbr.size
        obtain ⟨Q, hQ⟩ : ∃ Q, Q = (S.drop m).take kk := ⟨_, rfl⟩
        rw [← hQ] at hpg
        rw [← hQ]
        have HQ := Lib.hid hQ
        have hQl : Q.length = min kk (L.length - m) := by rw [hQ, List.length_take, List.length_drop, HSL.out]
        have HQL := Lib.hid hQl
        clear hQ hQl
        by_cases hmn : m < L.length
        · have n0 : 0 < Q.length := by have := HQL.out; omega
          have n1 : Q.length ≤ kk := by have := HQL.out; omega
          have n2 : m + Q.length ≤ L.length := by have := HQL.out; omega
          have e0 : (0 : Int) < (Q.length : Int) := by omega
          have e1 : ¬ (kk : Int) < (Q.length : Int) := by omega
          have e4 : (m : Int) ≤ (L.length : Int) := by omega
          obtain ⟨⟨l1, l2⟩, hl⟩ : ∃ x, Q[Q.length - 1]? = some x := ⟨_, List.getElem?_eq_getElem (by omega)⟩
          have hlS : S[m + Q.length - 1]? = some (l1, l2) := by
            have := hl
            rw [HQ.out, List.getElem?_take, ← HQ.out, if_pos (by omega), List.getElem?_drop] at this
            rwa [show m + Q.length - 1 = m + (Q.length - 1) by omega]
          have HLS := Lib.hid hlS
          have HTP := Lib.hid (take_page S m kk)
          rw [← HQ.out] at HTP
          have hpn := page_next HN.out (k := kk) (i := m + Q.length - 1) (h := (l1, l2)) (by rw [← HS.out]; exact hlS)
          rw [show m + Q.length - 1 + 1 = m + Q.length by omega, ← HS.out] at hpn
          have HPN := Lib.hid hpn
          have HL := Lib.hid hl
          clear hpn hlS hl
          rcases (by have := HQL.out; omega : ¬ (Q.length : Int) < (kk : Int) ∨ ((Q.length : Int) < (kk : Int) ∧ (m : Int) + (Q.length : Int) = (L.length : Int))) with e2 | ⟨e2, e3⟩
          all_goals
            go_wp2_with (at_builtin; refine wpList_append_slc rfl _ _ rfl hitElem hown rfl rfl (hc_len Q) hpg.slc (hc_one Q) (by omega) (by unfold maxLen; omega) hsr ?_)
            intro v2 w2 hown2 hg2 hat2
            obtain ⟨A2, c2, rfl⟩ := own_slice hown2
            have hb2 : Below w.heap.size w w2 := below_own hbr hown hsr hg2
            have z2 := hb2.size
            have hp2 := hpg.foot (grown_foot hg2 (fun g e h' => h' e))
            obtain ⟨g3, o3, rfl, hg3, a3⟩ := slc_at hp2.slc (by intro e; rw [e] at n0; simp at n0)
            obtain ⟨p0, p1⟩ := a3 _ _ HL.out
            have i1 : (0 : Int) ≤ (Q.length : Int) - 1 := by omega
            have i2 : (Q.length : Int) - 1 < (Q.length : Int) := by omega
            have i3 : ((Q.length : Int) - 1).toNat = Q.length - 1 := by omega
            have hAf := after_any L A c B l1 l2 (kk : Int) w2 (Nat.le_trans hB z2) (h.below hb2 hB) hn
            rw [Int.toNat_natCast, HPN.out] at hAf
            obtain ⟨Q2, hQ2⟩ : ∃ Q2, Q2 = (S.drop (m + Q.length)).take kk := ⟨_, rfl⟩
            rw [← hQ2] at hAf
            have HAF := Lib.hid hAf
            have HQ2 := Lib.hid hQ2
            have HO := Lib.hid hown2
            clear hQ2 hAf a3 hg2 hat2 hown hpg hp2 hown2
            go_wp2_with (go_at_call 23; refine HAF.out.mono ?_; rintro e w5 ⟨A5, c5, rfl, hown5, hb5⟩)
            go_roundw
            case rel =>
              refine ⟨m + Q.length, A2, c2, A5, c5, by omega, rfl, by rw [← HQ2.out], by rw [HTP.out, hc_append]; exact own_below HO.out hb5, ?_, hb2.trans (hb5.mono z2)⟩
              rw [← HQ2.out]
              exact slcP_own hown5 (fun g hg _ e => by have := (HO.out.lt g e).2; omega)
            case measure => simp [vlen]; omega
        · obtain rfl : m = L.length := by omega
          have q0 : Q.length = 0 := by have := HQL.out; omega
          have hT : S.take L.length = S := List.take_of_length_le (by rw [HSL.out]; exact Nat.le_refl _)
          rw [hT] at hown
          have hs5 := slc_own hown
          have e0 : ¬ (0 : Int) < (Q.length : Int) := by omega
          have hss : Srt S := by rw [HS.out]; exact srt_srt L
          have HSS := Lib.hid hss
          have hlS : L.length ≤ 8796093022208 := by omega
          have HTK : Hid (tk ((L.length : Nat) : Int).toNat L = S) := Lib.hid (by rw [Int.toNat_natCast, HS.out]; unfold tk; exact List.take_of_length_le (by rw [srt_len]; exact Nat.le_refl _))
          clear hT hss hpg hown
          go_wp2_with fail
          have hSo := sorted_any S Aa ca wr.heap.size wr (Nat.le_refl _) hs5 (by rw [HSL.out]; exact hlS) HSS.out
          rw [HSL.out] at hSo
          go_at_call 17
          refine hSo.mono ?_
          rintro e w6 ⟨rfl, b6⟩
          go_wp2_with fail
          go_at_call 15
          refine (select_any L A c B (L.length : Int) w6 (Nat.le_trans hB (Nat.le_trans hsr b6.size)) ((h.below hbr hB).below b6 (Nat.le_trans hB hsr)) hn).mono ?_
          rw [HTK.out]
          rintro e w7 ⟨A7, c7, rfl, hown7, hb7⟩
          have b7 := bchain b6 hb7
          have hs7 := slc_own hown7
          have hE := equal_eq S Aa A7 ca c7 _ _ w7 (by rw [HSL.out]; exact hlS) (hs5.below b7 (Nat.le_refl _)) hs7
          rw [HSL.out] at hE
          rw [HSL.out]
          go_wp2_with fail
          go_at_call 12
          refine hE.mono ?_
          rintro e w8 ⟨rfl, hb8⟩
          have b8 := bchain b7 hb8
          go_wp2_with fail
          go_ret
          exact ⟨rfl, hbr.trans (b8.mono hsr)⟩
end Go.Proofs.Ytmddnilephneiaa.TopkPagesWalk
