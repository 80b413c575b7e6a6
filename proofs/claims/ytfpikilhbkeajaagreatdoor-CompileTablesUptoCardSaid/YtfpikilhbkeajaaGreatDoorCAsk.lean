/-
  The walk of concordlaw22.CompileTables.
  The walk of concordlaw22.CompileTables, the arguments kept.
-/
import Derived.Test.YtfpikilhbkeajaaGreatDoorCTabl
import Derived.Test.YtfpikilhbkeajaaGreatDoorCWrap
set_option linter.unusedVariables false
set_option linter.unusedSimpArgs false
namespace Go.Proofs.YtfpikilhbkeajaaGreatDoor.TablesWalk
set_option maxRecDepth 100000
open Go.RowKit Go.PlainAid Base Query QrySize EmitPlain EmitBase LeafMap AllLeaves TabPlain TextPlain GoodLoc GoodPl EmitExt LawAt LawTerms TablesPlain TablesC TablesB TablesA TablesW EmitNear HitBase NewMid ProgTail ProgGood ProgBad LawLives LawWrap Avg Args

set_option maxHeartbeats 4000000 in
theorem t7 (hd : Head) (ks : List Qry) (A1 A2 A3 A4 : Option Addr) (c1 c2 c3 c4 : Nat) (x : Int) (PB PR : Nat) (PC RC : Array Value) (AC AV AD : Option Addr) (cC cV cD : Nat) (C dr : List Lf) (D : List Int) (all : Bool) (w W : World) (H : Hid (LW W PB PR PC RC AC AV AD C dr D)) (p15 : PC[15]? = some (.bool all)) (p16 : PC[16]? = some (.slice AD dr.length cD)) (r1 : RC[1]? = some (.slice AC C.length cC)) (r3 : RC[3]? = some (.bool all)) (r4 : RC[4]? = some (.slice AV D.length cV))
    (HB : Hid (Below w.heap.size w W)) (WR : Hid (∀ W', Below w.heap.size w W' → Calls Tryz.prog 14 #[.int .u64 x] W' fun e w' => e = .returned (.bool true) ∧ Below W'.heap.size W' w')) (hdl : dr.length ≤ 1073741824) (hDl : D.length ≤ 1073741824) (hCl : C.length ≤ 1073741824) (HD : Hid (∀ l ∈ dr, placeOf C l ∈ D)) (HD2 : Hid (∀ (i : Nat) (d : Int), D[i]? = some d → ∃ k : Nat, d = k ∧ k < C.length ∧ ∃ l, C[k]? = some l ∧ l ∈ dr)) (HD3 : Hid (∀ (i : Nat) (a b : Int), D[i]? = some a → D[i + 1]? = some b → a < b)) (HPC : Hid (PC = plC hd ks.length A1 A2 A3 A4 c1 c2 c3 c4 all AD dr.length cD)) (HQ : Hid (QVal W W.heap.size (qcells hd ks.length A1 A2 A3 A4 c1 c2 c3 c4).toList (.mk hd ks))) (hql : (trms (.mk hd ks)).length ≤ 1073741824) (hsum : (trms (.mk hd ks)).length + dr.length ≤ 1073741824) (HR : Hid (Ris C)) (HMC : Hid (∀ l, l ∈ C ↔ l ∈ trms (.mk hd ks) ++ dr)) (u0 u1 u4 u5 u6 u7 u9 u10 u11 u12 u13 u14 u15 u16 u17 u18 u19 u20 u21 u22 u23 u24 u25 u26 u27 u28 u29 u30 u31 u32 u33 u34 u35 u36 u37 u38 u39 u40 u41 u42 u43 u44 u45 u46 u47 u48 u49 u50 u51 u52 u53 u54 u55 u56 u57 u58 u59 u60 u61 u62 u63 u64 u65 u66 u67 u68 u69 u70 u71 u72 u73 u74 u75 u76 u77 u78 u79 u80 u81 u82 u83 u84 u85 u86 u87 u88 u89 u90 u91 u92 u93 u94 u95 u96 u97 u98 u99 u100 u101 u102 u103 u104 u105 u106 u107 u108 u109 u110 u111 u112 u113 u114 u115 u116 u117 u118 u119 u120 u121 u122 u123 u124 u125 u126 u127 u128 u129 u130 u131 u132 u133 u134 u135 u136 u137 u138 u139 u140 u141 u142 u143 u144 u145 u146 u147 u148 u149 u150 u151 u152 u153 u154 u155 u156 u157 u158 u159 u160 u161 u162 u163 u164 u165 u166 u167 u168 u169 u170 u171 u172 u173 u174 u175 u176 u177 u178 u179 u180 u181 u182 u183 u184 u185 u186 u187 u188 u189 u190 u191 u192 u193 u194 : Value) :
    Code.wp Tryz.prog (tailK 7) (bodyPost Tryz.prog Tryz.f4 fun e w' => e = .returned (.bool true) ∧ Below w.heap.size w w') ⟨#[u0, u1, .int .u64 x, .pointer (some ⟨PB, 0, none⟩), u4, u5, u6, u7, .pointer (some ⟨PR, 0, none⟩), u9, u10, u11, u12, u13, u14, u15, u16, u17, u18, u19, u20, u21, u22, u23, u24, u25, u26, u27, u28, u29, u30, u31, u32, u33, u34, u35, u36, u37, u38, u39, u40, u41, u42, u43, u44, u45, u46, u47, u48, u49, u50, u51, u52, u53, u54, u55, u56, u57, u58, u59, u60, u61, u62, u63, u64, u65, u66, u67, u68, u69, u70, u71, u72, u73, u74, u75, u76, u77, u78, u79, u80, u81, u82, u83, u84, u85, u86, u87, u88, u89, u90, u91, u92, u93, u94, u95, u96, u97, u98, u99, u100, u101, u102, u103, u104, u105, u106, u107, u108, u109, u110, u111, u112, u113, u114, u115, u116, u117, u118, u119, u120, u121, u122, u123, u124, u125, u126, u127, u128, u129, u130, u131, u132, u133, u134, u135, u136, u137, u138, u139, u140, u141, u142, u143, u144, u145, u146, u147, u148, u149, u150, u151, u152, u153, u154, u155, u156, u157, u158, u159, u160, u161, u162, u163, u164, u165, u166, u167, u168, u169, u170, u171, u172, u173, u174, u175, u176, u177, u178, u179, u180, u181, u182, u183, u184, u185, u186, u187, u188, u189, u190, u191, u192, u193, u194], []⟩ W := by
  have KP := H.out.plan
  rw [HPC.out] at KP
  unfold plC at KP
  obtain ⟨y0, y1, y2, y3, y4, y5, y6, y7, y8, y9, y10, y11, y12, y13, y14, y15, y16⟩ := plcs KP
  obtain ⟨TL, hTL⟩ : ∃ l, l = trms (.mk hd ks) := ⟨_, rfl⟩
  have TM := Lib.hid (by
    have := terms_any (.mk hd ks) (qcells hd ks.length A1 A2 A3 A4 c1 c2 c3 c4).toList W.heap.size W.heap.size [] (.slice none 0 0) W.drew (HQ.out.kept (Below.refl W.heap.size W).drew (Nat.le_refl _)) (Nat.le_refl _) (Nat.le_refl _) (World.ownsRow_nil _ _ _ _) (by rw [List.length_nil]; omega)
    rw [Array.toArray_toList, List.nil_append, ← hTL] at this
    unfold qcells at this
    exact this)
  rw [← hTL] at hql hsum HMC
  have HKP := Lib.hid KP
  have hPB := KP.lt
  clear KP hTL
  unfold tailK
  conv => arg 2; whnf
  refine cast_code (c := .seq ?r0 (tailK 8)) ?e ?_
  case e => exact rfl
  go_upto_region 7 with fail
  go_region_law (first | (refine step_app (by rfl) _ _ (by rfl) W.heap.size (.slice A9 TL.length c9) TL.length TL dr (by rfl) HO2.out AD cD w2.heap.size (by rfl) HSD2.out (by omega) hw2 ?_; intro v5 w5 ho5 hg5) | (rw [if_pos (by rfl)]; go_simp; go_at_call 12; refine TM.out.mono ?_; rintro e w2 ⟨v2, rfl, ho2, hf2⟩; obtain ⟨A9, c9, rfl⟩ := own_slice ho2; have hb2 : Below W.heap.size W w2 := ((Below.refl W.heap.size W).drew).trans (footL_toBelow hf2 (Nat.le_refl _)); have y16' : w2.cell? ⟨PB, 16, none⟩ = _ := (hb2.cell (p := ⟨PB, 16, none⟩) hPB).trans y16; have HO2 := Lib.hid ho2; have HSD2 := Lib.hid ((H.out.sd.below hb2 (Nat.le_refl _)).mono hb2.size); have hw2 : W.heap.size ≤ w2.heap.size := hb2.size; have HB2 := Lib.hid hb2; clear ho2 hf2 hb2; dsimp only))
  all_goals
    obtain ⟨A5, c5, rfl⟩ := own_slice ho5
    have B5 : Below W.heap.size W w5 := HB2.out.grown hg5 HB2.out.size (fun k hk => (HO2.out.lt k hk).1)
    have el : TL.length + dr.length = (TL ++ dr).length := by rw [List.length_append]
    rw [el] at ho5 ⊢
    have TT := Lib.hid (t8 x PB PR PC RC AC AV AD cC cV cD C dr D all w w5 (Lib.hid (H.out.below B5)) p15 p16 r1 r3 r4 (Lib.hid (HB.out.trans (B5.mono HB.out.size))) WR hdl hDl hCl HD HD2 HD3 A5 c5 (TL ++ dr) (Lib.hid (slc_own ho5)) (by rw [← el]; exact hsum) HR (Lib.hid fun l hl => (HMC.out l).1 hl) (Lib.hid fun l hl => (HMC.out l).2 hl))
    obtain ⟨NW, hNW⟩ : ∃ n, n = (TL ++ dr).length := ⟨_, rfl⟩
    rw [← hNW] at TT ⊢
    clear el ho5 hg5 B5 hNW
    go_wp2_with fail
    exact TT.out _ _ _ _ _ _ _ _ _ _ _ _ _ _ _ _ _ _ _ _ _ _ _ _ _ _ _ _ _ _ _ _ _ _ _ _ _ _ _ _ _ _ _ _ _ _ _ _ _ _ _ _ _ _ _ _ _ _ _ _ _ _ _ _ _ _ _ _ _ _ _ _ _ _ _ _ _ _ _ _ _ _ _ _ _ _ _ _ _ _ _ _ _ _ _ _ _ _ _ _ _ _ _ _ _ _ _ _ _ _ _ _ _ _ _ _ _ _ _ _ _ _ _ _ _ _ _ _ _ _ _ _ _ _ _ _ _ _ _ _ _ _ _ _ _ _ _ _ _ _ _ _ _ _ _ _ _ _ _ _ _ _ _ _ _ _ _ _ _ _ _ _ _ _ _ _ _ _ _ _ _ _ _ _ _ _ _ _ _ _ _
end Go.Proofs.YtfpikilhbkeajaaGreatDoor.TablesWalk

namespace Go.Proofs.YtfpikilhbkeajaaGreatDoor.TablesAsk
set_option maxRecDepth 100000
open Go.RowKit Go.PlainAid Base Query QrySize EmitPlain EmitBase LeafMap AllLeaves TabPlain TextPlain GoodLoc GoodPl EmitExt LawAt LawTerms TablesPlain TablesC TablesB TablesA TablesW TablesWalk EmitNear HitBase NewMid ProgTail ProgGood ProgBad LawLives LawWrap Avg Args

theorem asked_below {hd : Head} {ks : List Qry} {A1 A2 A3 A4 : Option Addr} {c1 c2 c3 c4 : Nat} {AD : Option Addr} {dr : List Lf} {AS : Option Addr} {sums : List Int} {a a2 : Addr} {w W : World} (H : Asked hd ks A1 A2 A3 A4 c1 c2 c3 c4 AD dr AS sums a a2 w) (hb : Below w.heap.size w W) : Asked hd ks A1 A2 A3 A4 c1 c2 c3 c4 AD dr AS sums a a2 W :=
  ⟨(H.q.kept hb (Nat.le_refl _)).mono hb.size, (H.drv.below hb (Nat.le_refl _)).mono hb.size, H.ok, H.len, (H.sms.below hb (Nat.le_refl _)).mono hb.size, H.slen, H.sfit, H.short, H.size, H.tab.below hb H.tabLt, Nat.lt_of_lt_of_le H.tabLt hb.size, (hb.cell (p := ⟨0, 0, none⟩) H.nodeLt).trans H.node, Nat.lt_of_lt_of_le H.nodeLt hb.size, (hb.cell (p := ⟨16, 0, none⟩) H.codeLt).trans H.code, Nat.lt_of_lt_of_le H.codeLt hb.size⟩
theorem driveL_len (x : Lf → Int) (dr : List Lf) : (driveL x dr).length ≤ dr.length := by
  have := ddup_len ((dr.map x).mergeSort fun a b => decide (a ≤ b))
  rw [List.length_mergeSort, List.length_map] at this
  exact this

end Go.Proofs.YtfpikilhbkeajaaGreatDoor.TablesAsk
