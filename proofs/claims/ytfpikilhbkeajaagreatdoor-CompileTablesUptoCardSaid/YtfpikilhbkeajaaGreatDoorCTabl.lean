/-
  CompileTables from the plan's drive on.
  CompileTables from the program's drive on.
  CompileTables from the program's cursors on.
  CompileTables from the wanted leaves on.
-/
import Derived.Test.YtfpikilhbkeajaaGreatDoorTablesPlain
import Derived.Test.YtfpikilhbkeajaaGreatDoorCEmitC
import Derived.BigQuiet
import Derived.Sort.LotA
set_option linter.unusedVariables false
set_option linter.unusedSimpArgs false
namespace Go.Proofs.YtfpikilhbkeajaaGreatDoor.TablesC
set_option maxRecDepth 100000
open Go.RowKit Go.PlainAid Base Query QrySize EmitPlain EmitBase LeafMap AllLeaves TabPlain TextPlain GoodLoc GoodPl EmitExt LawAt LawTerms TablesPlain

noncomputable def tailK (k : Nat) : Code := ((Tryz.f4.body).bind (fromR k)).getD .skip
structure LW (W : World) (PB PR : Nat) (PC RC : Array Value) (AC AV AD : Option Addr) (C dr : List Lf) (D : List Int) : Prop where
  plan : Blk W PB 32 PC
  prog : Blk W PR 40 RC
  sc : Slc W W.heap.size AC (lfCs C)
  sv : Slc W W.heap.size AV (ints D)
  sd : Slc W W.heap.size AD (lfCs dr)
theorem LW.below {W W' : World} {PB PR : Nat} {PC RC : Array Value} {AC AV AD : Option Addr} {C dr : List Lf} {D : List Int} (h : LW W PB PR PC RC AC AV AD C dr D) (hb : Below W.heap.size W W') : LW W' PB PR PC RC AC AV AD C dr D :=
  ⟨h.plan.below hb h.plan.lt, h.prog.below hb h.prog.lt, (h.sc.below hb (Nat.le_refl _)).mono hb.size, (h.sv.below hb (Nat.le_refl _)).mono hb.size, (h.sd.below hb (Nat.le_refl _)).mono hb.size⟩

set_option maxHeartbeats 2000000 in
theorem t39 (x : Int) (PB PR : Nat) (PC RC : Array Value) (AC AV AD : Option Addr) (cC cV cD : Nat) (C dr : List Lf) (D : List Int) (all : Bool) (w W : World) (H : Hid (LW W PB PR PC RC AC AV AD C dr D)) (p15 : PC[15]? = some (.bool all)) (p16 : PC[16]? = some (.slice AD dr.length cD)) (r1 : RC[1]? = some (.slice AC C.length cC)) (r3 : RC[3]? = some (.bool all)) (r4 : RC[4]? = some (.slice AV D.length cV))
    (HB : Hid (Below w.heap.size w W)) (WR : Hid (∀ W', Below w.heap.size w W' → Calls Tryz.prog 14 #[.int .u64 x] W' fun e w' => e = .returned (.bool true) ∧ Below W'.heap.size W' w')) (u0 u1 u4 u5 u6 u7 u9 u10 u11 u12 u13 u14 u15 u16 u17 u18 u19 u20 u21 u22 u23 u24 u25 u26 u27 u28 u29 u30 u31 u32 u33 u34 u35 u36 u37 u38 u39 u40 u41 u42 u43 u44 u45 u46 u47 u48 u49 u50 u51 u52 u53 u54 u55 u56 u57 u58 u59 u60 u61 u62 u63 u64 u65 u66 u67 u68 u69 u70 u71 u72 u73 u74 u75 u76 u77 u78 u79 u80 u81 u82 u83 u84 u85 u86 u87 u88 u89 u90 u91 u92 u93 u94 u95 u96 u97 u98 u99 u100 u101 u102 u103 u104 u105 u106 u107 u108 u109 u110 u111 u112 u113 u114 u115 u116 u117 u118 u119 u120 u121 u122 u123 u124 u125 u126 u127 u128 u129 u130 u131 u132 u133 u134 u135 u136 u137 u138 u139 u140 u141 u142 u143 u144 u145 u146 u147 u148 u149 u150 u151 u152 u153 u154 u155 u156 u157 u158 u159 u160 u161 u162 u163 u164 u165 u166 u167 u168 u169 u170 u171 u172 u173 u174 u175 u176 u177 u178 u179 u180 u181 u182 u183 u184 u185 u186 u187 u188 u189 u190 u191 u192 u193 u194 : Value) :
    Code.wp Tryz.prog (tailK 39) (bodyPost Tryz.prog Tryz.f4 fun e w' => e = .returned (.bool true) ∧ Below w.heap.size w w') ⟨#[u0, u1, .int .u64 x, .pointer (some ⟨PB, 0, none⟩), u4, u5, u6, u7, .pointer (some ⟨PR, 0, none⟩), u9, u10, u11, u12, u13, u14, u15, u16, u17, u18, u19, u20, u21, u22, u23, u24, u25, u26, u27, u28, u29, u30, u31, u32, u33, u34, u35, u36, u37, u38, u39, u40, u41, u42, u43, u44, u45, u46, u47, u48, u49, u50, u51, u52, u53, u54, u55, u56, u57, u58, u59, u60, u61, u62, u63, u64, u65, u66, u67, u68, u69, u70, u71, u72, u73, u74, u75, u76, u77, u78, u79, u80, u81, u82, u83, u84, u85, u86, u87, u88, u89, u90, u91, u92, u93, u94, u95, u96, u97, u98, u99, u100, u101, u102, u103, u104, u105, u106, u107, u108, u109, u110, u111, u112, u113, u114, u115, u116, u117, u118, u119, u120, u121, u122, u123, u124, u125, u126, u127, u128, u129, u130, u131, u132, u133, u134, u135, u136, u137, u138, u139, u140, u141, u142, u143, u144, u145, u146, u147, u148, u149, u150, u151, u152, u153, u154, u155, u156, u157, u158, u159, u160, u161, u162, u163, u164, u165, u166, u167, u168, u169, u170, u171, u172, u173, u174, u175, u176, u177, u178, u179, u180, u181, u182, u183, u184, u185, u186, u187, u188, u189, u190, u191, u192, u193, u194], []⟩ W := by
  have y3 : W.cell? ⟨PR, 3, none⟩ = some (.bool all) := (H.out.prog.cell 3).trans r3
  have y15 : W.cell? ⟨PB, 15, none⟩ = some (.bool all) := (H.out.plan.cell 15).trans p15
  have ea : (all == all) = true := beq_self_eq_true _
  have WC := Lib.hid (WR.out W HB.out)
  unfold tailK
  conv => arg 2; whnf
  go_wp2_with (go_at_call 14; (with_reducible refine WC.out.mono ?_); rintro e w2 ⟨rfl, hb2⟩; have HB2 := Lib.hid hb2; clear hb2)
  go_ret
  exact ⟨rfl, HB.out.trans (HB2.out.mono HB.out.size)⟩

set_option maxHeartbeats 4000000 in
theorem t26 (x : Int) (PB PR : Nat) (PC RC : Array Value) (AC AV AD : Option Addr) (cC cV cD : Nat) (C dr : List Lf) (D : List Int) (all : Bool) (w W : World) (H : Hid (LW W PB PR PC RC AC AV AD C dr D)) (p15 : PC[15]? = some (.bool all)) (p16 : PC[16]? = some (.slice AD dr.length cD)) (r1 : RC[1]? = some (.slice AC C.length cC)) (r3 : RC[3]? = some (.bool all)) (r4 : RC[4]? = some (.slice AV D.length cV))
    (HB : Hid (Below w.heap.size w W)) (WR : Hid (∀ W', Below w.heap.size w W' → Calls Tryz.prog 14 #[.int .u64 x] W' fun e w' => e = .returned (.bool true) ∧ Below W'.heap.size W' w')) (hdl : dr.length ≤ 1073741824) (hDl : D.length ≤ 1073741824) (hCl : C.length ≤ 1073741824) (HD : Hid (∀ l ∈ dr, placeOf C l ∈ D)) (u0 u1 u4 u5 u6 u7 u9 u10 u11 u12 u13 u14 u15 u16 u17 u18 u19 u20 u21 u22 u23 u24 u25 u26 u27 u28 u29 u30 u31 u32 u33 u34 u35 u36 u37 u38 u39 u40 u41 u42 u43 u44 u45 u46 u47 u48 u49 u50 u51 u52 u53 u54 u55 u56 u57 u58 u59 u60 u61 u62 u63 u64 u65 u66 u67 u68 u69 u70 u71 u72 u73 u74 u75 u76 u77 u78 u79 u80 u81 u82 u83 u84 u85 u86 u87 u88 u89 u90 u91 u92 u93 u94 u95 u96 u97 u98 u99 u100 u101 u102 u103 u104 u105 u106 u107 u108 u109 u110 u111 u112 u113 u114 u115 u116 u117 u118 u119 u120 u121 u122 u123 u124 u125 u126 u127 u128 u129 u130 u131 u132 u133 u134 u135 u136 u137 u138 u139 u140 u141 u142 u143 u144 u145 u146 u147 u148 u149 u150 u151 u152 u153 u154 u155 u156 u157 u158 u159 u160 u161 u162 u163 u164 u165 u166 u167 u168 u169 u170 u171 u172 u173 u174 u175 u176 u177 u178 u179 u180 u181 u182 u183 u184 u185 u186 u187 u188 u189 u190 u191 u192 u193 u194 : Value) :
    Code.wp Tryz.prog (tailK 26) (bodyPost Tryz.prog Tryz.f4 fun e w' => e = .returned (.bool true) ∧ Below w.heap.size w w') ⟨#[u0, u1, .int .u64 x, .pointer (some ⟨PB, 0, none⟩), u4, u5, u6, u7, .pointer (some ⟨PR, 0, none⟩), u9, u10, u11, u12, u13, u14, u15, u16, u17, u18, u19, u20, u21, u22, u23, u24, u25, u26, u27, u28, u29, u30, u31, u32, u33, u34, u35, u36, u37, u38, u39, u40, u41, u42, u43, u44, u45, u46, u47, u48, u49, u50, u51, u52, u53, u54, u55, u56, u57, u58, u59, u60, u61, u62, u63, u64, u65, u66, u67, u68, u69, u70, u71, u72, u73, u74, u75, u76, u77, u78, u79, u80, u81, u82, u83, u84, u85, u86, u87, u88, u89, u90, u91, u92, u93, u94, u95, u96, u97, u98, u99, u100, u101, u102, u103, u104, u105, u106, u107, u108, u109, u110, u111, u112, u113, u114, u115, u116, u117, u118, u119, u120, u121, u122, u123, u124, u125, u126, u127, u128, u129, u130, u131, u132, u133, u134, u135, u136, u137, u138, u139, u140, u141, u142, u143, u144, u145, u146, u147, u148, u149, u150, u151, u152, u153, u154, u155, u156, u157, u158, u159, u160, u161, u162, u163, u164, u165, u166, u167, u168, u169, u170, u171, u172, u173, u174, u175, u176, u177, u178, u179, u180, u181, u182, u183, u184, u185, u186, u187, u188, u189, u190, u191, u192, u193, u194], []⟩ W := by
  have y16 : W.cell? ⟨PB, 16, none⟩ = some (.slice AD dr.length cD) := (H.out.plan.cell 16).trans p16
  unfold tailK
  conv => arg 2; whnf
  refine cast_code (c := .seq ?r0 (tailK 39)) ?e ?_
  case e => exact rfl
  go_wp2_with fail
  clear y16
  go_loopw [161] (fun i wr => ∃ k : Nat, k ≤ dr.length ∧ i = .int .i64 k ∧ Below W.heap.size W wr) (fun i _ => dr.length - (intOf i).toNat)
  case atStart => exact ⟨0, Nat.zero_le _, rfl, Below.refl _ _⟩
  case round =>
    obtain ⟨k, hk, rfl, hb⟩ := hrel
    have L := H.out.below hb
    rcases Nat.lt_or_ge k dr.length with hlt | hge
    · obtain ⟨y, hy⟩ : ∃ y, dr[k]? = some y := ⟨_, List.getElem?_eq_getElem hlt⟩
      obtain ⟨g, o, e4, hg4, hc4⟩ := L.sd (by intro e; have := lfCs_len dr; rw [e] at this; simp only [List.length_nil] at this; omega)
      subst e4
      obtain ⟨d0, d1⟩ := lfCs_at dr k y hy
      have x0 : wr.cell? ⟨g, o + k * 2, none⟩ = some (.int .i64 y.field) := hc4 _ _ d0
      have x1 : wr.cell? ⟨g, o + k * 2 + 1, none⟩ = some (.string y.term) := hc4 _ _ d1
      have i1 : (k : Int) < (dr.length : Int) := by omega
      have i3 : (k : Int) < 9223372036854775807 := by omega
      obtain ⟨W5, hW5⟩ : ∃ V, V = wr.alloc (.cells #[.int .i64 y.field, .string y.term] 51) := ⟨_, rfl⟩
      have b5 : Below wr.heap.size wr W5 := by rw [hW5]; exact Base.bel
      have T5 : Blk W5 wr.heap.size 51 #[.int .i64 y.field, .string y.term] := by rw [hW5]; exact Blk.new _ _ _
      have l0 : W5.cell? ⟨wr.heap.size, 0, none⟩ = some (.int .i64 y.field) := T5.cell 0
      have l1 : W5.cell? ⟨wr.heap.size, 1, none⟩ = some (.string y.term) := T5.cell 1
      have L5 := L.below b5
      have q1 : W5.cell? ⟨PR, 1, none⟩ = some (.slice AC C.length cC) := (L5.prog.cell 1).trans r1
      have AT := Lib.hid (at_any C y AC cC W5 L5.sc (by omega))
      have HL5 := Lib.hid L5
      have HB5 := Lib.hid (hb.trans (b5.mono hb.size))
      have HIN := Lib.hid (HD.out y (List.mem_of_getElem? hy))
      have HW5 := Lib.hid hW5
      clear hW5 b5 T5 L5 L hb hc4 d0 d1 hy hg4
      obtain ⟨P, hP⟩ : ∃ P, P = placeOf C y := ⟨_, rfl⟩
      rw [← hP] at AT HIN
      clear hP
      go_upto_region 29 with fail
      rw [← HW5.out]
      go_upto_region 31 with (go_at_call 13; (with_reducible refine AT.out.mono ?_); rintro e w6 ⟨rfl, hb6⟩; have HB6 := Lib.hid hb6; clear hb6)
      have L6 := HL5.out.below HB6.out
      have q4 : w6.cell? ⟨PR, 4, none⟩ = some (.slice AV D.length cV) := (L6.prog.cell 4).trans r4
      have HL6 := Lib.hid L6
      clear L6 q1 l0 l1 x0 x1
      go_wp2_with fail
      clear q4
      obtain ⟨wa, hwa⟩ : ∃ v, v = wr := ⟨wr, rfl⟩
      subst hwa
      go_loopw [172, 7] (fun i b wr => ∃ m : Nat, m ≤ D.length ∧ i = .int .i64 m ∧ b = .bool (decide (P ∈ D.take m)) ∧ Below w6.heap.size w6 wr) (fun i _ _ => D.length - (intOf i).toNat)
      case atStart => exact ⟨0, Nat.zero_le _, rfl, by simp, Below.refl _ _⟩
      case round =>
        obtain ⟨m, hm, rfl, rfl, hbm⟩ := hrel
        have HBM := Lib.hid hbm
        rcases Nat.lt_or_ge m D.length with hlt2 | hge2
        · obtain ⟨z, hz⟩ : ∃ z, D[m]? = some z := ⟨_, List.getElem?_eq_getElem hlt2⟩
          obtain ⟨g2, o2, e5, hg5, hc5⟩ := (HL6.out.below hbm).sv (by intro e; have := congrArg List.length e; simp [ints] at this; rw [this] at hlt2; simp at hlt2)
          subst e5
          have v0 : wr.cell? ⟨g2, o2 + m, none⟩ = some (.int .i64 z) := hc5 _ _ (by simp [ints, hz])
          have j1 : (m : Int) < (D.length : Int) := by omega
          have j3 : (m : Int) < 9223372036854775807 := by omega
          have HZ := Lib.hid (show D.take (m + 1) = D.take m ++ [z] by rw [List.take_add_one, hz]; rfl)
          clear hbm hz hc5
          cases hd : decide (P ∈ D.take m)
          · have hn : Hid (P ∉ D.take m) := Lib.hid (of_decide_eq_false hd)
            rcases Decidable.em (z = P) with e | e
            · have e1 : (z == P) = true := by rw [e]; exact beq_self_eq_true _
              have HE := Lib.hid e
              clear e hd
              go_wp2_with fail
              go_roundw
              case rel => exact ⟨m + 1, by omega, by go_num, by rw [HZ.out, decide_eq_true (by simp [HE.out])], HBM.out⟩
              case measure => simp [intOf]; omega
            · have e1 : (z == P) = false := beq_eq_false_iff_ne.2 e
              have HE := Lib.hid e
              clear e hd
              go_wp2_with fail
              go_roundw
              case rel => exact ⟨m + 1, by omega, by go_num, by rw [HZ.out, decide_eq_false (by simp only [List.mem_append, List.mem_singleton, not_or]; exact ⟨hn.out, fun h => HE.out h.symm⟩)], HBM.out⟩
              case measure => simp [intOf]; omega
          · have hn : Hid (P ∈ D.take m) := Lib.hid (of_decide_eq_true hd)
            clear hd
            go_wp2_with fail
            go_roundw
            case rel => exact ⟨m + 1, by omega, by go_num, by rw [HZ.out, decide_eq_true (by simp [hn.out])], HBM.out⟩
            case measure => simp [intOf]; omega
        · obtain rfl : m = D.length := by omega
          rw [List.take_length, decide_eq_true HIN.out]
          clear hbm
          go_wp2_with fail
          go_roundw
          case rel => exact ⟨k + 1, by omega, by go_num, HB5.out.trans ((HB6.out.trans (HBM.out.mono HB6.out.size)).mono HB5.out.size)⟩
          case measure => simp [intOf]; omega
    · obtain rfl : k = dr.length := by omega
      have TT := Lib.hid (t39 x PB PR PC RC AC AV AD cC cV cD C dr D all w wr (Lib.hid L) p15 p16 r1 r3 r4 (Lib.hid (HB.out.trans (hb.mono HB.out.size))) WR)
      clear L hb
      go_wp2_with fail
      exact TT.out _ _ _ _ _ _ _ _ _ _ _ _ _ _ _ _ _ _ _ _ _ _ _ _ _ _ _ _ _ _ _ _ _ _ _ _ _ _ _ _ _ _ _ _ _ _ _ _ _ _ _ _ _ _ _ _ _ _ _ _ _ _ _ _ _ _ _ _ _ _ _ _ _ _ _ _ _ _ _ _ _ _ _ _ _ _ _ _ _ _ _ _ _ _ _ _ _ _ _ _ _ _ _ _ _ _ _ _ _ _ _ _ _ _ _ _ _ _ _ _ _ _ _ _ _ _ _ _ _ _ _ _ _ _ _ _ _ _ _ _ _ _ _ _ _ _ _ _ _ _ _ _ _ _ _ _ _ _ _ _ _ _ _ _ _ _ _ _ _ _ _ _ _ _ _ _ _ _ _ _ _ _ _ _ _ _ _ _ _ _ _ _
end Go.Proofs.YtfpikilhbkeajaaGreatDoor.TablesC

namespace Go.Proofs.YtfpikilhbkeajaaGreatDoor.TablesB
set_option maxRecDepth 100000
open Go.RowKit Go.PlainAid Base Query QrySize EmitPlain EmitBase LeafMap AllLeaves TabPlain TextPlain GoodLoc GoodPl EmitExt LawAt LawTerms TablesPlain TablesC

set_option maxHeartbeats 4000000 in
theorem t20 (x : Int) (PB PR : Nat) (PC RC : Array Value) (AC AV AD : Option Addr) (cC cV cD : Nat) (C dr : List Lf) (D : List Int) (all : Bool) (w W : World) (H : Hid (LW W PB PR PC RC AC AV AD C dr D)) (p15 : PC[15]? = some (.bool all)) (p16 : PC[16]? = some (.slice AD dr.length cD)) (r1 : RC[1]? = some (.slice AC C.length cC)) (r3 : RC[3]? = some (.bool all)) (r4 : RC[4]? = some (.slice AV D.length cV))
    (HB : Hid (Below w.heap.size w W)) (WR : Hid (∀ W', Below w.heap.size w W' → Calls Tryz.prog 14 #[.int .u64 x] W' fun e w' => e = .returned (.bool true) ∧ Below W'.heap.size W' w')) (hdl : dr.length ≤ 1073741824) (hDl : D.length ≤ 1073741824) (hCl : C.length ≤ 1073741824) (HD : Hid (∀ l ∈ dr, placeOf C l ∈ D)) (HD2 : Hid (∀ (i : Nat) (d : Int), D[i]? = some d → ∃ k : Nat, d = k ∧ k < C.length ∧ ∃ l, C[k]? = some l ∧ l ∈ dr)) (HD3 : Hid (∀ (i : Nat) (a b : Int), D[i]? = some a → D[i + 1]? = some b → a < b)) (u0 u1 u4 u5 u6 u7 u9 u10 u11 u12 u13 u14 u15 u16 u17 u18 u19 u20 u21 u22 u23 u24 u25 u26 u27 u28 u29 u30 u31 u32 u33 u34 u35 u36 u37 u38 u39 u40 u41 u42 u43 u44 u45 u46 u47 u48 u49 u50 u51 u52 u53 u54 u55 u56 u57 u58 u59 u60 u61 u62 u63 u64 u65 u66 u67 u68 u69 u70 u71 u72 u73 u74 u75 u76 u77 u78 u79 u80 u81 u82 u83 u84 u85 u86 u87 u88 u89 u90 u91 u92 u93 u94 u95 u96 u97 u98 u99 u100 u101 u102 u103 u104 u105 u106 u107 u108 u109 u110 u111 u112 u113 u114 u115 u116 u117 u118 u119 u120 u121 u122 u123 u124 u125 u126 u127 u128 u129 u130 u131 u132 u133 u134 u135 u136 u137 u138 u139 u140 u141 u142 u143 u144 u145 u146 u147 u148 u149 u150 u151 u152 u153 u154 u155 u156 u157 u158 u159 u160 u161 u162 u163 u164 u165 u166 u167 u168 u169 u170 u171 u172 u173 u174 u175 u176 u177 u178 u179 u180 u181 u182 u183 u184 u185 u186 u187 u188 u189 u190 u191 u192 u193 u194 : Value) :
    Code.wp Tryz.prog (tailK 20) (bodyPost Tryz.prog Tryz.f4 fun e w' => e = .returned (.bool true) ∧ Below w.heap.size w w') ⟨#[u0, u1, .int .u64 x, .pointer (some ⟨PB, 0, none⟩), u4, u5, u6, u7, .pointer (some ⟨PR, 0, none⟩), u9, u10, u11, u12, u13, u14, u15, u16, u17, u18, u19, u20, u21, u22, u23, u24, u25, u26, u27, u28, u29, u30, u31, u32, u33, u34, u35, u36, u37, u38, u39, u40, u41, u42, u43, u44, u45, u46, u47, u48, u49, u50, u51, u52, u53, u54, u55, u56, u57, u58, u59, u60, u61, u62, u63, u64, u65, u66, u67, u68, u69, u70, u71, u72, u73, u74, u75, u76, u77, u78, u79, u80, u81, u82, u83, u84, u85, u86, u87, u88, u89, u90, u91, u92, u93, u94, u95, u96, u97, u98, u99, u100, u101, u102, u103, u104, u105, u106, u107, u108, u109, u110, u111, u112, u113, u114, u115, u116, u117, u118, u119, u120, u121, u122, u123, u124, u125, u126, u127, u128, u129, u130, u131, u132, u133, u134, u135, u136, u137, u138, u139, u140, u141, u142, u143, u144, u145, u146, u147, u148, u149, u150, u151, u152, u153, u154, u155, u156, u157, u158, u159, u160, u161, u162, u163, u164, u165, u166, u167, u168, u169, u170, u171, u172, u173, u174, u175, u176, u177, u178, u179, u180, u181, u182, u183, u184, u185, u186, u187, u188, u189, u190, u191, u192, u193, u194], []⟩ W := by
  have y4 : W.cell? ⟨PR, 4, none⟩ = some (.slice AV D.length cV) := (H.out.prog.cell 4).trans r4
  unfold tailK
  conv => arg 2; whnf
  refine cast_code (c := .seq ?r0 (tailK 26)) ?e ?_
  case e => exact rfl
  go_wp2_with fail
  clear y4
  go_loopw [118] (fun i wr => ∃ k : Nat, k ≤ D.length ∧ i = .int .i64 k ∧ Below W.heap.size W wr) (fun i _ => D.length - (intOf i).toNat)
  case atStart => exact ⟨0, Nat.zero_le _, rfl, Below.refl _ _⟩
  case round =>
    obtain ⟨k, hk, rfl, hb⟩ := hrel
    have L := H.out.below hb
    rcases Nat.lt_or_ge k D.length with hlt | hge
    · obtain ⟨d, hd⟩ : ∃ d, D[k]? = some d := ⟨_, List.getElem?_eq_getElem hlt⟩
      obtain ⟨n, rfl, hn, l, hl, hldr⟩ := HD2.out k d hd
      obtain ⟨g, o, e4, hg4, hc4⟩ := L.sv (by intro e; have := congrArg List.length e; simp [ints] at this; rw [this] at hlt; simp at hlt)
      subst e4
      obtain ⟨g2, o2, e5, hg5, hc5⟩ := L.sc (by intro e; have := lfCs_len C; rw [e] at this; simp only [List.length_nil] at this; omega)
      subst e5
      obtain ⟨d0, d1⟩ := lfCs_at C n l hl
      have x0 : wr.cell? ⟨g, o + k, none⟩ = some (.int .i64 (n : Int)) := hc4 _ _ (by simp [ints, hd])
      have i1 : (k : Int) < (D.length : Int) := by omega
      have i3 : (k : Int) < 9223372036854775807 := by omega
      have hPB := L.plan.lt
      have hPR := L.prog.lt
      have z4 : ∀ b : Bw wr.heap.size wr, b.at_.cell? ⟨PR, 4, none⟩ = some (.slice (some ⟨g, o, none⟩) D.length cV) := Bw.cell ((L.prog.cell 4).trans r4) hPR
      have z1 : ∀ b : Bw wr.heap.size wr, b.at_.cell? ⟨PR, 1, none⟩ = some (.slice (some ⟨g2, o2, none⟩) C.length cC) := Bw.cell ((L.prog.cell 1).trans r1) hPR
      have z16 : ∀ b : Bw wr.heap.size wr, b.at_.cell? ⟨PB, 16, none⟩ = some (.slice AD dr.length cD) := Bw.cell ((L.plan.cell 16).trans p16) hPB
      have c0 : ∀ b : Bw wr.heap.size wr, b.at_.cell? ⟨g2, o2 + n * 2, none⟩ = some (.int .i64 l.field) := Bw.cell (hc5 _ _ d0) hg5
      have c1 : ∀ b : Bw wr.heap.size wr, b.at_.cell? ⟨g2, o2 + n * 2 + 1, none⟩ = some (.string l.term) := Bw.cell (hc5 _ _ d1) hg5
      have AT : ∀ b : Bw wr.heap.size wr, Calls Tryz.prog 13 #[.slice AD dr.length cD, .agg #[.int .i64 l.field, .string l.term]] b.at_ fun e w' => e = .returned (.int .i64 (placeOf dr l)) ∧ ∃ b' : Bw wr.heap.size wr, w' = b'.at_ := fun b => calls_bw (Nat.le_refl _) (at_any dr l AD cD b.at_ (by have := L.below b.below; exact this.sd) (by omega))
      have hpl : ¬ placeOf dr l < 0 := fun h => (placeOf_neg dr l).1 h hldr
      obtain ⟨P, hP⟩ : ∃ P, P = placeOf dr l := ⟨_, rfl⟩
      rw [← hP] at AT hpl
      have f1 : decide (P < 0) = false := decide_eq_false hpl
      have f2 : decide ((n : Int) < 0) = false := decide_eq_false (by omega)
      have f3 : decide ((C.length : Int) ≤ (n : Int)) = false := decide_eq_false (by omega)
      have f3n : ¬ C.length ≤ n := by omega
      have n1 : (n : Int) < (C.length : Int) := by omega
      have HBR := Lib.hid hb
      have HDD := Lib.hid hd
      have HC4 := Lib.hid hc4
      clear hd hb L hc4 hc5 d0 d1 hl hldr hP hpl
      rcases Nat.eq_zero_or_pos k with h0 | h0
      · subst h0
        rw [Nat.add_zero] at x0
        go_upto_region 23 with fail
        refine wp_region_bw wr.heap.size (by kernel_rfl) (by kernel_rfl) ?_
        repeat (go_big_quiet_step ((go_at_call 13; with_reducible exact AT _)))
        refine wpQuiet_nil ?_
        intro wq hw'
        obtain ⟨⟨wz, hbq⟩, hw''⟩ := hw'
        subst hw''
        have HBQ := Lib.hid hbq
        clear hbq
        go_wp2_with fail
        go_roundw
        case rel => exact ⟨1, by omega, by go_num, HBR.out.trans (HBQ.out.mono HBR.out.size)⟩
        case measure => simp [intOf]; omega
      · obtain ⟨m, hm⟩ : ∃ m, k = m + 1 := ⟨k - 1, by omega⟩
        obtain ⟨d2, hd2⟩ : ∃ d, D[m]? = some d := ⟨_, List.getElem?_eq_getElem (by omega)⟩
        have hlt2 : d2 < (n : Int) := HD3.out m d2 _ hd2 (by rw [← hm]; exact HDD.out)
        obtain ⟨n2, rfl, _⟩ := HD2.out m d2 hd2
        have v0 : ∀ b : Bw wr.heap.size wr, b.at_.cell? ⟨g, o + m, none⟩ = some (.int .i64 (n2 : Int)) := Bw.cell (HC4.out _ _ (by simp [ints, hd2])) hg4
        have f4 : decide ((n : Int) ≤ (n2 : Int)) = false := decide_eq_false (by omega)
        have f4n : ¬ n ≤ n2 := by omega
        have f5 : decide ((0 : Int) < (k : Int)) = true := decide_eq_true (by omega)
        have hm1 : (k : Int) - 1 = (m : Int) := by omega
        have j1 : (m : Int) < (D.length : Int) := by omega
        have j3 : (m : Int) < 9223372036854775807 := by omega
        clear hm hd2 hlt2
        go_upto_region 23 with fail
        refine wp_region_bw wr.heap.size (by kernel_rfl) (by kernel_rfl) ?_
        repeat (go_big_quiet_step ((go_at_call 13; with_reducible exact AT _)))
        refine wpQuiet_nil ?_
        intro wq hw'
        obtain ⟨⟨wz, hbq⟩, hw''⟩ := hw'
        subst hw''
        have HBQ := Lib.hid hbq
        clear hbq
        go_wp2_with fail
        go_roundw
        case rel => exact ⟨k + 1, by omega, by go_num, HBR.out.trans (HBQ.out.mono HBR.out.size)⟩
        case measure => simp [intOf]; omega
    · obtain rfl : k = D.length := by omega
      have TT := Lib.hid (t26 x PB PR PC RC AC AV AD cC cV cD C dr D all w wr (Lib.hid L) p15 p16 r1 r3 r4 (Lib.hid (HB.out.trans (hb.mono HB.out.size))) WR hdl hDl hCl HD)
      clear L hb
      go_wp2_with fail
      exact TT.out _ _ _ _ _ _ _ _ _ _ _ _ _ _ _ _ _ _ _ _ _ _ _ _ _ _ _ _ _ _ _ _ _ _ _ _ _ _ _ _ _ _ _ _ _ _ _ _ _ _ _ _ _ _ _ _ _ _ _ _ _ _ _ _ _ _ _ _ _ _ _ _ _ _ _ _ _ _ _ _ _ _ _ _ _ _ _ _ _ _ _ _ _ _ _ _ _ _ _ _ _ _ _ _ _ _ _ _ _ _ _ _ _ _ _ _ _ _ _ _ _ _ _ _ _ _ _ _ _ _ _ _ _ _ _ _ _ _ _ _ _ _ _ _ _ _ _ _ _ _ _ _ _ _ _ _ _ _ _ _ _ _ _ _ _ _ _ _ _ _ _ _ _ _ _ _ _ _ _ _ _ _ _ _ _ _ _ _ _ _ _ _
end Go.Proofs.YtfpikilhbkeajaaGreatDoor.TablesB

namespace Go.Proofs.YtfpikilhbkeajaaGreatDoor.TablesA
set_option maxRecDepth 100000
open Go.RowKit Go.PlainAid Base Query QrySize EmitPlain EmitBase LeafMap AllLeaves TabPlain TextPlain GoodLoc GoodPl EmitExt LawAt LawTerms TablesPlain TablesC TablesB SortLeaf

set_option maxHeartbeats 4000000 in
theorem t14 (x : Int) (PB PR : Nat) (PC RC : Array Value) (AC AV AD : Option Addr) (cC cV cD : Nat) (C dr : List Lf) (D : List Int) (all : Bool) (w W : World) (H : Hid (LW W PB PR PC RC AC AV AD C dr D)) (p15 : PC[15]? = some (.bool all)) (p16 : PC[16]? = some (.slice AD dr.length cD)) (r1 : RC[1]? = some (.slice AC C.length cC)) (r3 : RC[3]? = some (.bool all)) (r4 : RC[4]? = some (.slice AV D.length cV))
    (HB : Hid (Below w.heap.size w W)) (WR : Hid (∀ W', Below w.heap.size w W' → Calls Tryz.prog 14 #[.int .u64 x] W' fun e w' => e = .returned (.bool true) ∧ Below W'.heap.size W' w')) (hdl : dr.length ≤ 1073741824) (hDl : D.length ≤ 1073741824) (hCl : C.length ≤ 1073741824) (HD : Hid (∀ l ∈ dr, placeOf C l ∈ D)) (HD2 : Hid (∀ (i : Nat) (d : Int), D[i]? = some d → ∃ k : Nat, d = k ∧ k < C.length ∧ ∃ l, C[k]? = some l ∧ l ∈ dr)) (HD3 : Hid (∀ (i : Nat) (a b : Int), D[i]? = some a → D[i + 1]? = some b → a < b)) (AW : Option Addr) (cW : Nat) (Wt : List Lf) (HSW : Hid (Slc W W.heap.size AW (lfCs Wt))) (hWl : Wt.length ≤ 1073741824) (HR : Hid (Ris C)) (HCW : Hid (∀ l ∈ C, l ∈ Wt)) (u0 u1 u4 u5 u6 u7 u9 u11 u12 u13 u14 u15 u16 u17 u18 u19 u20 u21 u22 u23 u24 u25 u26 u27 u28 u29 u30 u31 u32 u33 u34 u35 u36 u37 u38 u39 u40 u41 u42 u43 u44 u45 u46 u47 u48 u49 u50 u51 u52 u53 u54 u55 u56 u57 u58 u59 u60 u61 u62 u63 u64 u65 u66 u67 u68 u69 u70 u71 u72 u73 u74 u75 u76 u77 u78 u79 u80 u81 u82 u83 u84 u85 u86 u87 u88 u89 u90 u91 u92 u93 u94 u95 u96 u97 u98 u99 u100 u101 u102 u103 u104 u105 u106 u107 u108 u109 u110 u111 u112 u113 u114 u115 u116 u117 u118 u119 u120 u121 u122 u123 u124 u125 u126 u127 u128 u129 u130 u131 u132 u133 u134 u135 u136 u137 u138 u139 u140 u141 u142 u143 u144 u145 u146 u147 u148 u149 u150 u151 u152 u153 u154 u155 u156 u157 u158 u159 u160 u161 u162 u163 u164 u165 u166 u167 u168 u169 u170 u171 u172 u173 u174 u175 u176 u177 u178 u179 u180 u181 u182 u183 u184 u185 u186 u187 u188 u189 u190 u191 u192 u193 u194 : Value) :
    Code.wp Tryz.prog (tailK 14) (bodyPost Tryz.prog Tryz.f4 fun e w' => e = .returned (.bool true) ∧ Below w.heap.size w w') ⟨#[u0, u1, .int .u64 x, .pointer (some ⟨PB, 0, none⟩), u4, u5, u6, u7, .pointer (some ⟨PR, 0, none⟩), u9, .slice AW Wt.length cW, u11, u12, u13, u14, u15, u16, u17, u18, u19, u20, u21, u22, u23, u24, u25, u26, u27, u28, u29, u30, u31, u32, u33, u34, u35, u36, u37, u38, u39, u40, u41, u42, u43, u44, u45, u46, u47, u48, u49, u50, u51, u52, u53, u54, u55, u56, u57, u58, u59, u60, u61, u62, u63, u64, u65, u66, u67, u68, u69, u70, u71, u72, u73, u74, u75, u76, u77, u78, u79, u80, u81, u82, u83, u84, u85, u86, u87, u88, u89, u90, u91, u92, u93, u94, u95, u96, u97, u98, u99, u100, u101, u102, u103, u104, u105, u106, u107, u108, u109, u110, u111, u112, u113, u114, u115, u116, u117, u118, u119, u120, u121, u122, u123, u124, u125, u126, u127, u128, u129, u130, u131, u132, u133, u134, u135, u136, u137, u138, u139, u140, u141, u142, u143, u144, u145, u146, u147, u148, u149, u150, u151, u152, u153, u154, u155, u156, u157, u158, u159, u160, u161, u162, u163, u164, u165, u166, u167, u168, u169, u170, u171, u172, u173, u174, u175, u176, u177, u178, u179, u180, u181, u182, u183, u184, u185, u186, u187, u188, u189, u190, u191, u192, u193, u194], []⟩ W := by
  have y1 : W.cell? ⟨PR, 1, none⟩ = some (.slice AC C.length cC) := (H.out.prog.cell 1).trans r1
  unfold tailK
  conv => arg 2; whnf
  refine cast_code (c := .seq ?r0 (tailK 20)) ?e ?_
  case e => exact rfl
  go_wp2_with fail
  clear y1
  go_loopw [64] (fun i wr => ∃ k : Nat, k ≤ C.length ∧ i = .int .i64 k ∧ Below W.heap.size W wr) (fun i _ => C.length - (intOf i).toNat)
  case atStart => exact ⟨0, Nat.zero_le _, rfl, Below.refl _ _⟩
  case round =>
    obtain ⟨k, hk, rfl, hb⟩ := hrel
    have L := H.out.below hb
    rcases Nat.lt_or_ge k C.length with hlt | hge
    · obtain ⟨l, hl⟩ : ∃ l, C[k]? = some l := ⟨_, List.getElem?_eq_getElem hlt⟩
      obtain ⟨g2, o2, e5, hg5, hc5⟩ := L.sc (by intro e; have := lfCs_len C; rw [e] at this; simp only [List.length_nil] at this; omega)
      subst e5
      obtain ⟨d0, d1⟩ := lfCs_at C k l hl
      have x0 : wr.cell? ⟨g2, o2 + k * 2, none⟩ = some (.int .i64 l.field) := hc5 _ _ d0
      have x1 : wr.cell? ⟨g2, o2 + k * 2 + 1, none⟩ = some (.string l.term) := hc5 _ _ d1
      have i1 : (k : Int) < (C.length : Int) := by omega
      have i3 : (k : Int) < 9223372036854775807 := by omega
      obtain ⟨W5, hW5⟩ : ∃ V, V = wr.alloc (.cells #[.int .i64 l.field, .string l.term] 51) := ⟨_, rfl⟩
      have b5 : Below wr.heap.size wr W5 := by rw [hW5]; exact Base.bel
      have T5 : Blk W5 wr.heap.size 51 #[.int .i64 l.field, .string l.term] := by rw [hW5]; exact Blk.new _ _ _
      have L5 := L.below b5
      have hPR := L5.prog.lt
      have hT5 := T5.lt
      have t0 : ∀ b : Bw W5.heap.size W5, b.at_.cell? ⟨wr.heap.size, 0, none⟩ = some (.int .i64 l.field) := Bw.cell (T5.cell 0) hT5
      have t1 : ∀ b : Bw W5.heap.size W5, b.at_.cell? ⟨wr.heap.size, 1, none⟩ = some (.string l.term) := Bw.cell (T5.cell 1) hT5
      have z1 : ∀ b : Bw W5.heap.size W5, b.at_.cell? ⟨PR, 1, none⟩ = some (.slice (some ⟨g2, o2, none⟩) C.length cC) := Bw.cell ((L5.prog.cell 1).trans r1) hPR
      have HC5 := Lib.hid (show ∀ j u, (lfCs C)[j]? = some u → ∀ b : Bw W5.heap.size W5, b.at_.cell? ⟨g2, o2 + j, none⟩ = some u from fun j u hu => Bw.cell ((b5.cell (p := ⟨g2, o2 + j, none⟩) hg5).trans (hc5 j u hu)) (Nat.lt_of_lt_of_le hg5 b5.size))
      have sW : Slc W5 W5.heap.size AW (lfCs Wt) := ((HSW.out.below hb (Nat.le_refl _)).below b5 (Nat.le_trans hb.size (Nat.le_refl _))).mono (Nat.le_trans hb.size b5.size)
      have AT : ∀ b : Bw W5.heap.size W5, Calls Tryz.prog 13 #[.slice AW Wt.length cW, .agg #[.int .i64 l.field, .string l.term]] b.at_ fun e w' => e = .returned (.int .i64 (placeOf Wt l)) ∧ ∃ b' : Bw W5.heap.size W5, w' = b'.at_ := fun b => calls_bw (Nat.le_refl _) (at_any Wt l AW cW b.at_ ((sW.below b.below (Nat.le_refl _)).mono b.below.size) (by omega))
      have hpl : ¬ placeOf Wt l < 0 := fun h => (placeOf_neg Wt l).1 h (HCW.out l (List.mem_of_getElem? hl))
      obtain ⟨P, hP⟩ : ∃ P, P = placeOf Wt l := ⟨_, rfl⟩
      rw [← hP] at AT hpl
      have f1 : decide (P < 0) = false := decide_eq_false hpl
      have HB5 := Lib.hid (hb.trans (b5.mono hb.size))
      have HLL := Lib.hid hl
      have HW5 := Lib.hid hW5
      clear hW5 b5 T5 L5 L hb hc5 d0 d1 hl hP hpl sW hPR hT5 hg5
      rcases Nat.eq_zero_or_pos k with h0 | h0
      · subst h0
        rw [Nat.zero_mul, Nat.add_zero] at x0 x1
        go_upto_region 17 with fail
        rw [← HW5.out]
        refine wp_region_bw W5.heap.size (by kernel_rfl) (by kernel_rfl) ?_
        repeat (go_big_quiet_step ((go_at_call 13; with_reducible exact AT _)))
        refine wpQuiet_nil ?_
        intro wq hw'
        obtain ⟨⟨wz, hbq⟩, hw''⟩ := hw'
        subst hw''
        have HBQ := Lib.hid hbq
        clear hbq
        go_wp2_with fail
        go_roundw
        case rel => exact ⟨1, by omega, by go_num, HB5.out.trans (HBQ.out.mono HB5.out.size)⟩
        case measure => simp [intOf]; omega
      · obtain ⟨m, hm⟩ : ∃ m, k = m + 1 := ⟨k - 1, by omega⟩
        obtain ⟨y, hy⟩ : ∃ y, C[m]? = some y := ⟨_, List.getElem?_eq_getElem (by omega)⟩
        have hlt2 : lfLt y l = true := ris_step HR.out hy (by rw [← hm]; exact HLL.out)
        obtain ⟨e0, e1⟩ := lfCs_at C m y hy
        have v0 := HC5.out _ _ e0
        have v1 := HC5.out _ _ e1
        rw [← Nat.add_assoc] at v1
        have f5 : decide ((0 : Int) < (k : Int)) = true := decide_eq_true (by omega)
        have hm1 : (k : Int) - 1 = (m : Int) := by omega
        have j1 : (m : Int) < (C.length : Int) := by omega
        have j3 : (m : Int) < 9223372036854775807 := by omega
        have hcs : decide (y.field < l.field) = true ∨ (decide (y.field < l.field) = false ∧ (y.field == l.field) = true ∧ Op.bytesLess y.term.toList l.term.toList = true) := by
          unfold lfLt at hlt2
          by_cases e : y.field = l.field
          · rw [if_pos e] at hlt2
            exact .inr ⟨decide_eq_false (by omega), beq_iff_eq.2 e, by rw [bytesLess_eq]; exact hlt2⟩
          · rw [if_neg e] at hlt2
            exact .inl hlt2
        clear hm hy hlt2 e0 e1
        rcases hcs with g1 | ⟨g1, g2', g3⟩
        all_goals
          go_upto_region 17 with fail
          rw [← HW5.out]
          refine wp_region_bw W5.heap.size (by kernel_rfl) (by kernel_rfl) ?_
          repeat (go_big_quiet_step ((go_at_call 13; with_reducible exact AT _)))
          refine wpQuiet_nil ?_
          intro wq hw'
          obtain ⟨⟨wz, hbq⟩, hw''⟩ := hw'
          subst hw''
          have HBQ := Lib.hid hbq
          clear hbq
          go_wp2_with fail
          go_roundw
          case rel => exact ⟨k + 1, by omega, by go_num, HB5.out.trans (HBQ.out.mono HB5.out.size)⟩
          case measure => simp [intOf]; omega
    · obtain rfl : k = C.length := by omega
      have TT := Lib.hid (t20 x PB PR PC RC AC AV AD cC cV cD C dr D all w wr (Lib.hid L) p15 p16 r1 r3 r4 (Lib.hid (HB.out.trans (hb.mono HB.out.size))) WR hdl hDl hCl HD HD2 HD3)
      clear L hb
      go_wp2_with fail
      exact TT.out _ _ _ _ _ _ _ _ _ _ _ _ _ _ _ _ _ _ _ _ _ _ _ _ _ _ _ _ _ _ _ _ _ _ _ _ _ _ _ _ _ _ _ _ _ _ _ _ _ _ _ _ _ _ _ _ _ _ _ _ _ _ _ _ _ _ _ _ _ _ _ _ _ _ _ _ _ _ _ _ _ _ _ _ _ _ _ _ _ _ _ _ _ _ _ _ _ _ _ _ _ _ _ _ _ _ _ _ _ _ _ _ _ _ _ _ _ _ _ _ _ _ _ _ _ _ _ _ _ _ _ _ _ _ _ _ _ _ _ _ _ _ _ _ _ _ _ _ _ _ _ _ _ _ _ _ _ _ _ _ _ _ _ _ _ _ _ _ _ _ _ _ _ _ _ _ _ _ _ _ _ _ _ _ _ _ _ _ _ _ _ _
end Go.Proofs.YtfpikilhbkeajaaGreatDoor.TablesA

namespace Go.Proofs.YtfpikilhbkeajaaGreatDoor.TablesW
set_option maxRecDepth 100000
open Go.RowKit Go.PlainAid Base Query QrySize EmitPlain EmitBase LeafMap AllLeaves TabPlain TextPlain GoodLoc GoodPl EmitExt LawAt LawTerms TablesPlain TablesC TablesB TablesA EmitNear HitBase NewMid

set_option maxHeartbeats 4000000 in
theorem t8 (x : Int) (PB PR : Nat) (PC RC : Array Value) (AC AV AD : Option Addr) (cC cV cD : Nat) (C dr : List Lf) (D : List Int) (all : Bool) (w W : World) (H : Hid (LW W PB PR PC RC AC AV AD C dr D)) (p15 : PC[15]? = some (.bool all)) (p16 : PC[16]? = some (.slice AD dr.length cD)) (r1 : RC[1]? = some (.slice AC C.length cC)) (r3 : RC[3]? = some (.bool all)) (r4 : RC[4]? = some (.slice AV D.length cV))
    (HB : Hid (Below w.heap.size w W)) (WR : Hid (∀ W', Below w.heap.size w W' → Calls Tryz.prog 14 #[.int .u64 x] W' fun e w' => e = .returned (.bool true) ∧ Below W'.heap.size W' w')) (hdl : dr.length ≤ 1073741824) (hDl : D.length ≤ 1073741824) (hCl : C.length ≤ 1073741824) (HD : Hid (∀ l ∈ dr, placeOf C l ∈ D)) (HD2 : Hid (∀ (i : Nat) (d : Int), D[i]? = some d → ∃ k : Nat, d = k ∧ k < C.length ∧ ∃ l, C[k]? = some l ∧ l ∈ dr)) (HD3 : Hid (∀ (i : Nat) (a b : Int), D[i]? = some a → D[i + 1]? = some b → a < b)) (AW : Option Addr) (cW : Nat) (Wt : List Lf) (HSW : Hid (Slc W W.heap.size AW (lfCs Wt))) (hWl : Wt.length ≤ 1073741824) (HR : Hid (Ris C)) (HCW : Hid (∀ l ∈ C, l ∈ Wt)) (HWC : Hid (∀ l ∈ Wt, l ∈ C)) (u0 u1 u4 u5 u6 u7 u9 u11 u12 u13 u14 u15 u16 u17 u18 u19 u20 u21 u22 u23 u24 u25 u26 u27 u28 u29 u30 u31 u32 u33 u34 u35 u36 u37 u38 u39 u40 u41 u42 u43 u44 u45 u46 u47 u48 u49 u50 u51 u52 u53 u54 u55 u56 u57 u58 u59 u60 u61 u62 u63 u64 u65 u66 u67 u68 u69 u70 u71 u72 u73 u74 u75 u76 u77 u78 u79 u80 u81 u82 u83 u84 u85 u86 u87 u88 u89 u90 u91 u92 u93 u94 u95 u96 u97 u98 u99 u100 u101 u102 u103 u104 u105 u106 u107 u108 u109 u110 u111 u112 u113 u114 u115 u116 u117 u118 u119 u120 u121 u122 u123 u124 u125 u126 u127 u128 u129 u130 u131 u132 u133 u134 u135 u136 u137 u138 u139 u140 u141 u142 u143 u144 u145 u146 u147 u148 u149 u150 u151 u152 u153 u154 u155 u156 u157 u158 u159 u160 u161 u162 u163 u164 u165 u166 u167 u168 u169 u170 u171 u172 u173 u174 u175 u176 u177 u178 u179 u180 u181 u182 u183 u184 u185 u186 u187 u188 u189 u190 u191 u192 u193 u194 : Value) :
    Code.wp Tryz.prog (tailK 8) (bodyPost Tryz.prog Tryz.f4 fun e w' => e = .returned (.bool true) ∧ Below w.heap.size w w') ⟨#[u0, u1, .int .u64 x, .pointer (some ⟨PB, 0, none⟩), u4, u5, u6, u7, .pointer (some ⟨PR, 0, none⟩), u9, .slice AW Wt.length cW, u11, u12, u13, u14, u15, u16, u17, u18, u19, u20, u21, u22, u23, u24, u25, u26, u27, u28, u29, u30, u31, u32, u33, u34, u35, u36, u37, u38, u39, u40, u41, u42, u43, u44, u45, u46, u47, u48, u49, u50, u51, u52, u53, u54, u55, u56, u57, u58, u59, u60, u61, u62, u63, u64, u65, u66, u67, u68, u69, u70, u71, u72, u73, u74, u75, u76, u77, u78, u79, u80, u81, u82, u83, u84, u85, u86, u87, u88, u89, u90, u91, u92, u93, u94, u95, u96, u97, u98, u99, u100, u101, u102, u103, u104, u105, u106, u107, u108, u109, u110, u111, u112, u113, u114, u115, u116, u117, u118, u119, u120, u121, u122, u123, u124, u125, u126, u127, u128, u129, u130, u131, u132, u133, u134, u135, u136, u137, u138, u139, u140, u141, u142, u143, u144, u145, u146, u147, u148, u149, u150, u151, u152, u153, u154, u155, u156, u157, u158, u159, u160, u161, u162, u163, u164, u165, u166, u167, u168, u169, u170, u171, u172, u173, u174, u175, u176, u177, u178, u179, u180, u181, u182, u183, u184, u185, u186, u187, u188, u189, u190, u191, u192, u193, u194], []⟩ W := by
  unfold tailK
  conv => arg 2; whnf
  refine cast_code (c := .seq ?r0 (tailK 14)) ?e ?_
  case e => exact rfl
  go_wp2_with fail
  go_loopw [51] (fun i wr => ∃ k : Nat, k ≤ Wt.length ∧ i = .int .i64 k ∧ Below W.heap.size W wr) (fun i _ => Wt.length - (intOf i).toNat)
  case atStart => exact ⟨0, Nat.zero_le _, rfl, Below.refl _ _⟩
  case round =>
    obtain ⟨k, hk, rfl, hb⟩ := hrel
    have L := H.out.below hb
    rcases Nat.lt_or_ge k Wt.length with hlt | hge
    · obtain ⟨l, hl⟩ : ∃ l, Wt[k]? = some l := ⟨_, List.getElem?_eq_getElem hlt⟩
      obtain ⟨g2, o2, e5, hg5, hc5⟩ := (HSW.out.below hb (Nat.le_refl _)) (by intro e; have := lfCs_len Wt; rw [e] at this; simp only [List.length_nil] at this; omega)
      subst e5
      obtain ⟨d0, d1⟩ := lfCs_at Wt k l hl
      have x0 : wr.cell? ⟨g2, o2 + k * 2, none⟩ = some (.int .i64 l.field) := hc5 _ _ d0
      have x1 : wr.cell? ⟨g2, o2 + k * 2 + 1, none⟩ = some (.string l.term) := hc5 _ _ d1
      have i1 : (k : Int) < (Wt.length : Int) := by omega
      have i3 : (k : Int) < 9223372036854775807 := by omega
      obtain ⟨W5, hW5⟩ : ∃ V, V = wr.alloc (.cells #[.int .i64 l.field, .string l.term] 51) := ⟨_, rfl⟩
      have b5 : Below wr.heap.size wr W5 := by rw [hW5]; exact Base.bel
      have T5 : Blk W5 wr.heap.size 51 #[.int .i64 l.field, .string l.term] := by rw [hW5]; exact Blk.new _ _ _
      have L5 := L.below b5
      have t0 : W5.cell? ⟨wr.heap.size, 0, none⟩ = some (.int .i64 l.field) := T5.cell 0
      have t1 : W5.cell? ⟨wr.heap.size, 1, none⟩ = some (.string l.term) := T5.cell 1
      have q1 : W5.cell? ⟨PR, 1, none⟩ = some (.slice AC C.length cC) := (L5.prog.cell 1).trans r1
      have AT := Lib.hid (at_any C l AC cC W5 L5.sc (by omega))
      have hpl : ¬ placeOf C l < 0 := fun h => (placeOf_neg C l).1 h (HWC.out l (List.mem_of_getElem? hl))
      obtain ⟨P, hP⟩ : ∃ P, P = placeOf C l := ⟨_, rfl⟩
      rw [← hP] at AT hpl
      have f1 : decide (P < 0) = false := decide_eq_false hpl
      have HB5 := Lib.hid (hb.trans (b5.mono hb.size))
      have HW5 := Lib.hid hW5
      clear hW5 b5 T5 L5 L hb hc5 d0 d1 hl hP hpl hg5
      go_upto_region 11 with fail
      rw [← HW5.out]
      go_wp2_with (go_at_call 13; (with_reducible refine AT.out.mono ?_); rintro e w6 ⟨rfl, hb6⟩; have HB6 := Lib.hid hb6; clear hb6)
      go_roundw
      case rel => exact ⟨k + 1, by omega, by go_num, HB5.out.trans (HB6.out.mono HB5.out.size)⟩
      case measure => simp [intOf]; omega
    · obtain rfl : k = Wt.length := by omega
      have TT := Lib.hid (t14 x PB PR PC RC AC AV AD cC cV cD C dr D all w wr (Lib.hid L) p15 p16 r1 r3 r4 (Lib.hid (HB.out.trans (hb.mono HB.out.size))) WR hdl hDl hCl HD HD2 HD3 AW cW Wt (Lib.hid ((HSW.out.below hb (Nat.le_refl _)).mono hb.size)) hWl HR HCW)
      clear L hb
      go_wp2_with fail
      exact TT.out _ _ _ _ _ _ _ _ _ _ _ _ _ _ _ _ _ _ _ _ _ _ _ _ _ _ _ _ _ _ _ _ _ _ _ _ _ _ _ _ _ _ _ _ _ _ _ _ _ _ _ _ _ _ _ _ _ _ _ _ _ _ _ _ _ _ _ _ _ _ _ _ _ _ _ _ _ _ _ _ _ _ _ _ _ _ _ _ _ _ _ _ _ _ _ _ _ _ _ _ _ _ _ _ _ _ _ _ _ _ _ _ _ _ _ _ _ _ _ _ _ _ _ _ _ _ _ _ _ _ _ _ _ _ _ _ _ _ _ _ _ _ _ _ _ _ _ _ _ _ _ _ _ _ _ _ _ _ _ _ _ _ _ _ _ _ _ _ _ _ _ _ _ _ _ _ _ _ _ _ _ _ _ _ _ _ _ _ _ _ _

theorem app_none {P : Program} {w : World} (t ty e : TypeId) (i : TypeInfo) (ht : P.underlying t = some (.slice e)) (hi : P.info? e = some i) (A : Option Addr) (n c c' : Nat) (hn : n ≤ c) : (Builtin.append_ #[t, t] ty #[.slice A n c, .slice none 0 c']).run P w = .ok (.slice A n c) w := by
  cases A <;> simp [Builtin.append_, run_underlying ht, sizeOf, typeInfo, hi, Builtin.lenOf, hn]
  · simp [Builtin.firstCells, Result.andThen]
  · simp [Builtin.firstCells, Result.andThen, storeCells]
theorem step_app {ops : Array Oper} {o : Oper} {a : Act} {w : World} {K : Act → World → Prop} {Q : Exit → Act → World → Prop} {E : Prop} (hgd : o.guard = none) (s y : Operand)
    (ho : o.op = .call { callee := .builtin .append, args := #[s, y], argTypes := #[30, 30] }) (RB : Nat) (v : Value) (n : Nat) (L dr : List Lf) (hs : a.eval s = v) (hown : w.ownsRow RB 51 2 v n (lfCs L))
    (AD : Option Addr) (cD B : Nat) (hy : a.eval y = .slice AD dr.length cD) (hsd : Slc w B AD (lfCs dr)) (h63 : n + dr.length ≤ 1073741824 * 4) (hRB : RB ≤ w.heap.size)
    (h : ∀ v' w', w'.ownsRow RB 51 2 v' (n + dr.length) (lfCs (L ++ dr)) → w.grownBy w' v.ownBlock → K (a.put o.dst v') w') :
    if Region.wanted o (yielded ops a.tmps) = true then Oper.wp Tryz.prog o a w K Q else E := by
  have hw : Region.wanted o (yielded ops a.tmps) = true := by simp [Region.wanted, hgd]
  rw [if_pos hw]
  obtain ⟨ht, ⟨i, hi, hz, hsz, hby⟩, hzs, hpos⟩ := leafEl
  cases AD with
  | none =>
    have hd : dr = [] := by
      cases dr with
      | nil => rfl
      | cons x r => obtain ⟨g, o, e, _⟩ := hsd (by rw [show x :: r = [x] ++ r from rfl, lfCs_app, lfCs_one]; simp [lfC]); cases e
    subst hd
    have hnc : ∃ A c, v = .slice A n c ∧ n ≤ c := by
      rcases hown.2 with ⟨e, h0⟩ | ⟨g, cap, cur, e, _, _, h1, _⟩
      · exact ⟨none, 0, by rw [e, h0], by omega⟩
      · exact ⟨_, cap, e, h1⟩
    obtain ⟨A, c, rfl, hnc⟩ := hnc
    have hr := app_none (w := w) (P := Tryz.prog) 30 o.type _ i ht hi A n c cD hnc
    unfold Oper.wp execOp
    simp only [List.length_nil] at hy
    simp only [ho, resolve, invoke, builtin, Sem.run_bind, Sem.run_pure, Result.andThen_ok, List.map_toArray, List.map_cons, List.map_nil, hs, hy, hr]
    exact h _ _ (by simpa using hown) (grown_of_below (Below.refl _ _) _)
  | some ad =>
    refine wp_append_own w s y _ ho RB _ i _ 2 24 ht hi hz hsz hby hzs hpos v n (lfCs L) hs hown ad dr.length cD (lfCs dr) hy (lfCs_len dr) ?_ ?_ (by unfold maxLen; omega) (by omega) hRB ?_
    · intro j u hu
      obtain ⟨g, o, e, _, hc⟩ := hsd (fun e => by rw [e] at hu; simp at hu)
      obtain rfl := Option.some.inj e
      rw [Addr.add_lit]
      exact hc j u hu
    · intro u hu
      unfold lfCs at hu
      obtain ⟨l, hl, hm⟩ := List.mem_flatten.1 hu
      obtain ⟨x, _, rfl⟩ := List.mem_map.1 hl
      simp [lfC] at hm
      rcases hm with rfl | rfl <;> rfl
    · intro v' w' h1 h2 _
      exact h v' w' (by rw [lfCs_app]; exact h1) h2
end Go.Proofs.YtfpikilhbkeajaaGreatDoor.TablesW
