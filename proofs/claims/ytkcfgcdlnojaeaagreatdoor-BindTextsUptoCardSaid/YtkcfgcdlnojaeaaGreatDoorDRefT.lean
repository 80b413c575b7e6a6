/-
  The walk of the reference's text over queries of some kinds.
  The walk of the reference's text over queries of some kinds.
  The walk of the reference's text over queries of some kinds.
  The walk of the reference's text over queries of some kinds.
-/
import Derived.Test.YtkcfgcdlnojaeaaGreatDoorDRefQ
import Derived.Test.YtkcfgcdlnojaeaaGreatDoorDRel
import Derived.Test.YtkcfgcdlnojaeaaGreatDoorDLine
set_option linter.unusedVariables false
set_option linter.unusedSimpArgs false
namespace Go.Proofs.YtkcfgcdlnojaeaaGreatDoor.RefText9
set_option maxRecDepth 100000
open Go.RowKit Go.PlainAid Base Query QrySize BindBase Bytes Digits Quoted QuoteAll NumAll Rel Relb RelbT TextPlain TextLine TextOne LineBase LineLeaf RefQuote RefDigits StrAdd

theorem rdigits_int (x : Int) (h0 : 0 ≤ x) (h1 : x < 18446744073709551616) (w : World) : Calls Tryz.prog 85 #[.int .u64 x] w fun e w' => e = .returned (.string ⟨(Lib.decDigits x.toNat).toArray⟩) ∧ Below w.heap.size w w' := by
  obtain ⟨n, rfl⟩ : ∃ n : Nat, x = n := ⟨x.toNat, (Int.toNat_of_nonneg h0).symm⟩
  exact rdigits_any n w (by omega)

set_option maxHeartbeats 4000000 in
theorem rtext_k9 (hd : Head) (hk : hd.kind = 9) (hw : Hwf hd) (hg : locB 16 false hd 0 = true) (A1 A2 A3 A4 : Option Addr) (c1 c2 c3 c4 : Nat) (w : World) (hbk : hbulk hd ≤ 1099511627776) :
    Calls Tryz.prog 48 #[.agg (qcells hd 0 A1 A2 A3 A4 c1 c2 c3 c4)] w fun e w' => e = .returned (.string ⟨(lineL (.mk hd [])).toArray⟩) ∧ Below w.heap.size w w' := by
  obtain ⟨hk1, hk2, ok⟩ := ok_of hg
  have hwt := wt_head hw (nk := 0)
  have hbl := body_len (by decide) hg hwt
  have hF := i64_of hw.field
  have hN := i64_of hw.n
  have hW := u64_of hw.weight
  obtain ⟨z1, z2, z3⟩ := bulk_parts hd
  rw [hk] at ok
  obtain ⟨kind, field, text, terms, offs, n, weight, lo, hi, occur⟩ := hd
  simp only at hk hF hN hW z1 z2 z3
  subst hk
  have okn := ok.n0
  simp only at okn
  have hf0 := f0_of ok
  simp only at hf0
  have hcF : IntKind.u64.wrap field = field := by show field % 18446744073709551616 = field; omega
  have hcN : IntKind.u64.wrap n = n := by show n % 18446744073709551616 = n; omega
  have lF : (Lib.decDigits field.toNat).length ≤ 20 := dd_len (by omega)
  have lN : (Lib.decDigits n.toNat).length ≤ 20 := dd_len (by omega)
  have lW : (Lib.decDigits weight.toNat).length ≤ 20 := dd_len (by omega)
  have lT := quote_len text
  obtain ⟨W1, hW1⟩ : ∃ W, W = w.alloc (.cells (qcells ⟨9, field, text, terms, offs, n, weight, lo, hi, occur⟩ 0 A1 A2 A3 A4 c1 c2 c3 c4) 29) := ⟨_, rfl⟩
  have K1 : Blk W1 w.heap.size 29 (qcells ⟨9, field, text, terms, offs, n, weight, lo, hi, occur⟩ 0 A1 A2 A3 A4 c1 c2 c3 c4) := by rw [hW1]; exact Blk.new w _ _
  have hsz : w.heap.size + 1 = W1.heap.size := by rw [hW1]; simp
  have hbW : Below w.heap.size w W1 := by rw [hW1]; (repeat (first | exact Below.refl _ _ | assumption | refine balloc ?_ _ | refine bdrew ?_ | refine bdrewN ?_ _ | refine bchain ?_ (by assumption)))
  have hlt1 : w.heap.size < W1.heap.size := by omega
  have qcell : ∀ {wx : World} (hx : Below W1.heap.size W1 wx) (j : Nat) (u : Value) (_ : (qcells ⟨9, field, text, terms, offs, n, weight, lo, hi, occur⟩ 0 A1 A2 A3 A4 c1 c2 c3 c4)[j]? = some u), wx.cell? ⟨w.heap.size, j, none⟩ = some u := fun hx j u hu => ((K1.below hx hlt1).cell j).trans hu
  have F0 := Lib.hid hf0
  have F2 := Lib.hid (show field < 18446744073709551616 by omega)
  have N0 := Lib.hid okn
  have N2 := Lib.hid (show n < 18446744073709551616 by omega)
  have W0 := Lib.hid hW.1
  have W2 := Lib.hid hW.2
  have SZ := Lib.hid (show text.size ≤ 1099511627776 by omega)
  have SL := Lib.hid (show lo.text.size ≤ 1099511627776 by omega)
  have SH := Lib.hid (show hi.text.size ≤ 1099511627776 by omega)
  have hts : text.size ≤ 1099511627776 := by omega
  unfold qcells at hW1 ⊢
  have HW := Lib.hid hW1
  clear hW1 hsz hF hN hW z1 z2 z3 okn hf0 hk1 hk2 hwt
  have lE := end_len lo
  have lE2 := end_len hi
  have hsl := SL.out
  have hsh := SH.out
  clear hbk hbl hg ok hw
  go_enter Tryz.func48, Tryz.ntmps48
  go_upto_region 1 with fail
  rw [← HW.out]
  refine Rel.wp_region_rel (fun wx => Below W1.heap.size W1 wx) (fun wa wb => Below wa.heap.size wa wb) (by kernel_rfl) (by kernel_rfl) (bdrew (Below.refl _ _)) (fun _ => Below.refl _ _) ?_
  apply Rel.rel_one2 1 [] rfl (by kernel_rfl) (by kernel_rfl)
  case hs =>
    intro wx hx
    try simp only [Act.put, Base.s1, Base.s2, Base.s3]
    intro KK hK
    go_simp
    exact hK _ _ hx (Below.refl _ _) rfl
  apply Rel.rel_one2 2 [(0, 12)] rfl (by kernel_rfl) (by kernel_rfl)
  case hs =>
    intro wx hx
    rintro _ rfl
    have q1 := qcell hx 1 (.int .i64 field) rfl
    have q2 := qcell hx 2 (.string text) rfl
    have q5 := qcell hx 5 (.int .i64 n) rfl
    have q6 := qcell hx 6 (.int .u64 weight) rfl
    try simp only [Act.put, Base.s1, Base.s2, Base.s3]
    intro KK hK
    go_simp
    exact hK _ _ hx (Below.refl _ _) rfl
  apply Rel.rel_one2 3 [(1, 13)] rfl (by kernel_rfl) (by kernel_rfl)
  case hs =>
    intro wx hx
    rintro _ rfl
    try simp only [Act.put, Base.s1, Base.s2, Base.s3]
    intro KK hK
    go_simp
    exact hK _ _ hx (Below.refl _ _) rfl
  apply Rel.rel_one2 4 [(2, 14)] rfl (by kernel_rfl) (by kernel_rfl)
  case hs =>
    intro wx hx
    rintro _ rfl
    have q1 := qcell hx 1 (.int .i64 field) rfl
    have q2 := qcell hx 2 (.string text) rfl
    have q5 := qcell hx 5 (.int .i64 n) rfl
    have q6 := qcell hx 6 (.int .u64 weight) rfl
    try simp only [Act.put, Base.s1, Base.s2, Base.s3]
    intro KK hK
    go_simp
    go_at_call 85
    refine (rdigits_int field F0.out F2.out wx).mono ?_
    rintro e wy ⟨rfl, hby⟩
    exact hK _ _ (bchain hx hby) hby rfl
  apply Rel.rel_one2 5 [] rfl (by kernel_rfl) (by kernel_rfl)
  case hs =>
    intro wx hx
    try simp only [Act.put, Base.s1, Base.s2, Base.s3]
    intro KK hK
    go_simp
    exact hK _ _ hx (Below.refl _ _) rfl
  apply Rel.rel_one2 6 [(4, 16)] rfl (by kernel_rfl) (by kernel_rfl)
  case hs =>
    intro wx hx
    rintro _ rfl
    have q1 := qcell hx 1 (.int .i64 field) rfl
    have q2 := qcell hx 2 (.string text) rfl
    have q5 := qcell hx 5 (.int .i64 n) rfl
    have q6 := qcell hx 6 (.int .u64 weight) rfl
    try simp only [Act.put, Base.s1, Base.s2, Base.s3]
    intro KK hK
    go_simp
    exact hK _ _ hx (Below.refl _ _) rfl
  apply Rel.rel_one2 7 [(5, 17)] rfl (by kernel_rfl) (by kernel_rfl)
  case hs =>
    intro wx hx
    rintro _ rfl
    try simp only [Act.put, Base.s1, Base.s2, Base.s3]
    intro KK hK
    go_simp
    exact hK _ _ hx (Below.refl _ _) rfl
  apply Rel.rel_one2 8 [(6, 18)] rfl (by kernel_rfl) (by kernel_rfl)
  case hs =>
    intro wx hx
    rintro _ rfl
    have q1 := qcell hx 1 (.int .i64 field) rfl
    have q2 := qcell hx 2 (.string text) rfl
    have q5 := qcell hx 5 (.int .i64 n) rfl
    have q6 := qcell hx 6 (.int .u64 weight) rfl
    try simp only [Act.put, Base.s1, Base.s2, Base.s3]
    intro KK hK
    go_simp
    go_at_call 85
    refine (rdigits_int n N0.out N2.out wx).mono ?_
    rintro e wy ⟨rfl, hby⟩
    exact hK _ _ (bchain hx hby) hby rfl
  apply Rel.rel_one2 9 [] rfl (by kernel_rfl) (by kernel_rfl)
  case hs =>
    intro wx hx
    try simp only [Act.put, Base.s1, Base.s2, Base.s3]
    intro KK hK
    go_simp
    exact hK _ _ hx (Below.refl _ _) rfl
  apply Rel.rel_one2 10 [(8, 20)] rfl (by kernel_rfl) (by kernel_rfl)
  case hs =>
    intro wx hx
    rintro _ rfl
    have q1 := qcell hx 1 (.int .i64 field) rfl
    have q2 := qcell hx 2 (.string text) rfl
    have q5 := qcell hx 5 (.int .i64 n) rfl
    have q6 := qcell hx 6 (.int .u64 weight) rfl
    try simp only [Act.put, Base.s1, Base.s2, Base.s3]
    intro KK hK
    go_simp
    exact hK _ _ hx (Below.refl _ _) rfl
  apply Rel.rel_one2 11 [(9, 21)] rfl (by kernel_rfl) (by kernel_rfl)
  case hs =>
    intro wx hx
    rintro _ rfl
    have q1 := qcell hx 1 (.int .i64 field) rfl
    have q2 := qcell hx 2 (.string text) rfl
    have q5 := qcell hx 5 (.int .i64 n) rfl
    have q6 := qcell hx 6 (.int .u64 weight) rfl
    try simp only [Act.put, Base.s1, Base.s2, Base.s3]
    intro KK hK
    go_simp
    go_at_call 85
    refine (rdigits_int weight W0.out W2.out wx).mono ?_
    rintro e wy ⟨rfl, hby⟩
    exact hK _ _ (bchain hx hby) hby rfl
  apply Rel.rel_one2 12 [] rfl (by kernel_rfl) (by kernel_rfl)
  case hs =>
    intro wx hx
    try simp only [Act.put, Base.s1, Base.s2, Base.s3]
    intro KK hK
    go_simp
    exact hK _ _ hx (Below.refl _ _) rfl
  apply Rel.rel_one2 13 [(11, 23)] rfl (by kernel_rfl) (by kernel_rfl)
  case hs =>
    intro wx hx
    rintro _ rfl
    have q1 := qcell hx 1 (.int .i64 field) rfl
    have q2 := qcell hx 2 (.string text) rfl
    have q5 := qcell hx 5 (.int .i64 n) rfl
    have q6 := qcell hx 6 (.int .u64 weight) rfl
    try simp only [Act.put, Base.s1, Base.s2, Base.s3]
    intro KK hK
    go_simp
    exact hK _ _ hx (Below.refl _ _) rfl
  apply Rel.rel_one2 14 [(12, 24)] rfl (by kernel_rfl) (by kernel_rfl)
  case hs =>
    intro wx hx
    rintro _ rfl
    have q1 := qcell hx 1 (.int .i64 field) rfl
    have q2 := qcell hx 2 (.string text) rfl
    have q5 := qcell hx 5 (.int .i64 n) rfl
    have q6 := qcell hx 6 (.int .u64 weight) rfl
    try simp only [Act.put, Base.s1, Base.s2, Base.s3]
    intro KK hK
    go_simp
    go_at_call 86
    refine (rquoted_any text wx (by have := SZ.out; omega)).mono ?_
    rintro e wy ⟨rfl, hby⟩
    exact hK _ _ (bchain hx hby) hby rfl
  apply Rel.rel_one2 15 [(3, 15)] rfl (by kernel_rfl) (by kernel_rfl)
  case hs =>
    intro wx hx
    rintro _ rfl
    try simp only [Act.put, Base.s1, Base.s2, Base.s3]
    intro KK hK
    go_simp
    exact hK _ _ hx (Below.refl _ _) rfl
  apply Rel.rel_one2 16 [(7, 19)] rfl (by kernel_rfl) (by kernel_rfl)
  case hs =>
    intro wx hx
    rintro _ rfl
    try simp only [Act.put, Base.s1, Base.s2, Base.s3]
    intro KK hK
    go_simp
    exact hK _ _ hx (Below.refl _ _) rfl
  apply Rel.rel_one2 17 [(10, 22)] rfl (by kernel_rfl) (by kernel_rfl)
  case hs =>
    intro wx hx
    rintro _ rfl
    try simp only [Act.put, Base.s1, Base.s2, Base.s3]
    intro KK hK
    go_simp
    exact hK _ _ hx (Below.refl _ _) rfl
  apply Rel.rel_one2 18 [(13, 25)] rfl (by kernel_rfl) (by kernel_rfl)
  case hs =>
    intro wx hx
    rintro _ rfl
    try simp only [Act.put, Base.s1, Base.s2, Base.s3]
    intro KK hK
    go_simp
    exact hK _ _ hx (Below.refl _ _) rfl
  refine Rel.rel_end [(0, 12), (1, 13), (2, 14), (3, 15), (4, 16), (5, 17), (6, 18), (7, 19), (8, 20), (9, 21), (10, 22), (11, 23), (12, 24), (13, 25), (14, 3), (15, 4), (16, 5), (17, 6)] (by kernel_rfl) (by kernel_rfl) ?_
  intro w5 hx5
  rintro _ rfl _ rfl _ rfl _ rfl _ rfl _ rfl _ rfl _ rfl _ rfl _ rfl _ rfl _ rfl _ rfl _ rfl _ rfl _ rfl _ rfl _ rfl
  try simp only [Act.put, Base.s1, Base.s2, Base.s3]
  refine Rel.valsD_ret ?_
  have q14 := qcell hx5 14 (.slice A4 0 c4) rfl
  have q0 := qcell hx5 0 (.int .i64 9) rfl
  have qcell5 : ∀ {wx : World} (hx : Below w5.heap.size w5 wx) (j : Nat) (u : Value) (_ : (#[.int .i64 9, .int .i64 field, .string text, .slice A1 terms.length c1, .slice A2 offs.length c2, .int .i64 n, .int .u64 weight, .bool lo.op, .bool lo.inn, .string lo.text, .bool hi.op, .bool hi.inn, .string hi.text, .slice A3 occur.length c3, .slice A4 0 c4] : Array Value)[j]? = some u), wx.cell? ⟨w.heap.size, j, none⟩ = some u := fun hx j u hu => qcell (bchain hx5 hx) j u hu
  generalize hd1 : Lib.decDigits field.toNat = D1 at *
  generalize hd2 : Lib.decDigits n.toNat = D2 at *
  generalize hd3 : Lib.decDigits weight.toNat = D3 at *
  generalize hd4 : quoteL text = D4 at *
  have HD1 := Lib.hid hd1
  have HD2 := Lib.hid hd2
  have HD3 := Lib.hid hd3
  have HD4 := Lib.hid hd4
  clear hd1 hd2 hd3 hd4
  go_wp2_with fail
  refine wp_loop_rounds 1 ?_
  rw [rounds_succ]
  go_upto_region 37 with fail
  refine Rel.wp_region_rel (fun wx => Below w5.heap.size w5 wx) (fun wa wb => Below wa.heap.size wa wb) (by kernel_rfl) (by kernel_rfl) (bdrew (Below.refl _ _)) (fun _ => Below.refl _ _) ?_
  apply Rel.rel_one2 1 [] rfl (by kernel_rfl) (by kernel_rfl)
  case hs =>
    intro wx hx
    try simp only [Act.put, Base.s1, Base.s2, Base.s3]
    intro KK hK
    go_simp
    exact hK _ _ hx (Below.refl _ _) rfl
  apply Rel.rel_one2 2 [(0, 157)] rfl (by kernel_rfl) (by kernel_rfl)
  case hs =>
    intro wx hx
    rintro _ rfl
    try simp only [Act.put, Base.s1, Base.s2, Base.s3]
    intro KK hK
    exact step_sadd _ _ (by rfl) (by rfl) (by rfl) (by rfl) (by simp only [List.length_append, List.length_cons, List.length_nil]; omega) (hK _ _ hx (Below.refl _ _) rfl)
  apply Rel.rel_one2 3 [(1, 158)] rfl (by kernel_rfl) (by kernel_rfl)
  case hs =>
    intro wx hx
    rintro _ rfl
    try simp only [Act.put, Base.s1, Base.s2, Base.s3]
    intro KK hK
    exact step_sadd _ _ (by rfl) (by rfl) (by rfl) (by rfl) (by simp only [List.length_append, List.length_cons, List.length_nil]; omega) (hK _ _ hx (Below.refl _ _) rfl)
  apply Rel.rel_one2 4 [] rfl (by kernel_rfl) (by kernel_rfl)
  case hs =>
    intro wx hx
    try simp only [Act.put, Base.s1, Base.s2, Base.s3]
    intro KK hK
    go_simp
    exact hK _ _ hx (Below.refl _ _) rfl
  apply Rel.rel_one2 5 [(3, 160)] rfl (by kernel_rfl) (by kernel_rfl)
  case hs =>
    intro wx hx
    rintro _ rfl
    have q7 := qcell5 hx 7 (.bool lo.op) rfl
    have q8 := qcell5 hx 8 (.bool lo.inn) rfl
    have q9 := qcell5 hx 9 (.string lo.text) rfl
    have q10 := qcell5 hx 10 (.bool hi.op) rfl
    have q11 := qcell5 hx 11 (.bool hi.inn) rfl
    have q12 := qcell5 hx 12 (.string hi.text) rfl
    try simp only [Act.put, Base.s1, Base.s2, Base.s3]
    intro KK hK
    go_simp
    exact hK _ _ hx (Below.refl _ _) rfl
  apply Rel.rel_one2 6 [(4, 161)] rfl (by kernel_rfl) (by kernel_rfl)
  case hs =>
    intro wx hx
    rintro _ rfl
    have q7 := qcell5 hx 7 (.bool lo.op) rfl
    have q8 := qcell5 hx 8 (.bool lo.inn) rfl
    have q9 := qcell5 hx 9 (.string lo.text) rfl
    have q10 := qcell5 hx 10 (.bool hi.op) rfl
    have q11 := qcell5 hx 11 (.bool hi.inn) rfl
    have q12 := qcell5 hx 12 (.string hi.text) rfl
    try simp only [Act.put, Base.s1, Base.s2, Base.s3]
    intro KK hK
    go_simp
    go_at_call 87
    refine (rended_any lo wx SL.out).mono ?_
    rintro e wy ⟨rfl, hby⟩
    exact hK _ _ (bchain hx hby) hby rfl
  apply Rel.rel_one2 7 [(2, 159), (5, 162)] rfl (by kernel_rfl) (by kernel_rfl)
  case hs =>
    intro wx hx
    rintro _ rfl _ rfl
    try simp only [Act.put, Base.s1, Base.s2, Base.s3]
    intro KK hK
    exact step_sadd _ _ (by rfl) (by rfl) (by rfl) (by rfl) (by simp only [List.length_append, List.length_cons, List.length_nil]; omega) (hK _ _ hx (Below.refl _ _) rfl)
  apply Rel.rel_one2 8 [(6, 163)] rfl (by kernel_rfl) (by kernel_rfl)
  case hs =>
    intro wx hx
    rintro _ rfl
    try simp only [Act.put, Base.s1, Base.s2, Base.s3]
    intro KK hK
    exact step_sadd _ _ (by rfl) (by rfl) (by rfl) (by rfl) (by simp only [List.length_append, List.length_cons, List.length_nil]; omega) (hK _ _ hx (Below.refl _ _) rfl)
  apply Rel.rel_one2 9 [] rfl (by kernel_rfl) (by kernel_rfl)
  case hs =>
    intro wx hx
    try simp only [Act.put, Base.s1, Base.s2, Base.s3]
    intro KK hK
    go_simp
    exact hK _ _ hx (Below.refl _ _) rfl
  apply Rel.rel_one2 10 [(8, 165)] rfl (by kernel_rfl) (by kernel_rfl)
  case hs =>
    intro wx hx
    rintro _ rfl
    have q7 := qcell5 hx 7 (.bool lo.op) rfl
    have q8 := qcell5 hx 8 (.bool lo.inn) rfl
    have q9 := qcell5 hx 9 (.string lo.text) rfl
    have q10 := qcell5 hx 10 (.bool hi.op) rfl
    have q11 := qcell5 hx 11 (.bool hi.inn) rfl
    have q12 := qcell5 hx 12 (.string hi.text) rfl
    try simp only [Act.put, Base.s1, Base.s2, Base.s3]
    intro KK hK
    go_simp
    exact hK _ _ hx (Below.refl _ _) rfl
  apply Rel.rel_one2 11 [(9, 166)] rfl (by kernel_rfl) (by kernel_rfl)
  case hs =>
    intro wx hx
    rintro _ rfl
    have q7 := qcell5 hx 7 (.bool lo.op) rfl
    have q8 := qcell5 hx 8 (.bool lo.inn) rfl
    have q9 := qcell5 hx 9 (.string lo.text) rfl
    have q10 := qcell5 hx 10 (.bool hi.op) rfl
    have q11 := qcell5 hx 11 (.bool hi.inn) rfl
    have q12 := qcell5 hx 12 (.string hi.text) rfl
    try simp only [Act.put, Base.s1, Base.s2, Base.s3]
    intro KK hK
    go_simp
    go_at_call 87
    refine (rended_any hi wx SH.out).mono ?_
    rintro e wy ⟨rfl, hby⟩
    exact hK _ _ (bchain hx hby) hby rfl
  apply Rel.rel_one2 12 [(7, 164), (10, 167)] rfl (by kernel_rfl) (by kernel_rfl)
  case hs =>
    intro wx hx
    rintro _ rfl _ rfl
    try simp only [Act.put, Base.s1, Base.s2, Base.s3]
    intro KK hK
    exact step_sadd _ _ (by rfl) (by rfl) (by rfl) (by rfl) (by simp only [List.length_append, List.length_cons, List.length_nil]; omega) (hK _ _ hx (Below.refl _ _) rfl)
  apply Rel.rel_one2 13 [(11, 168)] rfl (by kernel_rfl) (by kernel_rfl)
  case hs =>
    intro wx hx
    rintro _ rfl
    try simp only [Act.put, Base.s1, Base.s2, Base.s3]
    intro KK hK
    exact step_sadd _ _ (by rfl) (by rfl) (by rfl) (by rfl) (by simp only [List.length_append, List.length_cons, List.length_nil]; omega) (hK _ _ hx (Below.refl _ _) rfl)
  apply Rel.rel_one2 14 [(12, 169)] rfl (by kernel_rfl) (by kernel_rfl)
  case hs =>
    intro wx hx
    rintro _ rfl
    try simp only [Act.put, Base.s1, Base.s2, Base.s3]
    intro KK hK
    exact step_assign _ (by rfl) (by rfl) (by rfl) (hK _ _ hx (Below.refl _ _) rfl)
  refine Rel.rel_end [(0, 157), (1, 158), (2, 159), (3, 160), (4, 161), (5, 162), (6, 163), (7, 164), (8, 165), (9, 166), (10, 167), (11, 168), (12, 169), (13, 2)] (by kernel_rfl) (by kernel_rfl) ?_
  intro wx hx
  rintro _ rfl _ rfl _ rfl _ rfl _ rfl _ rfl _ rfl _ rfl _ rfl _ rfl _ rfl _ rfl _ rfl _ rfl
  try simp only [Act.put, Base.s1, Base.s2, Base.s3]
  refine Rel.valsD_ret ?_
  go_wp2_with fail
  go_ret
  refine ⟨congrArg (fun l : List UInt8 => Ending.returned (.string ⟨l.toArray⟩)) ?_, bchain hbW (bchain hx5 hx)⟩
  rw [← HD1.out]
  simp [lineL, bodyL, kidsL, hasOf, num]

end Go.Proofs.YtkcfgcdlnojaeaaGreatDoor.RefText9

namespace Go.Proofs.YtkcfgcdlnojaeaaGreatDoor.RefText10
set_option maxRecDepth 100000
open Go.RowKit Go.PlainAid Base Query QrySize BindBase Bytes Digits Quoted QuoteAll NumAll Rel Relb RelbT TextPlain TextLine TextOne LineBase LineLeaf RefQuote RefDigits StrAdd

theorem rdigits_int (x : Int) (h0 : 0 ≤ x) (h1 : x < 18446744073709551616) (w : World) : Calls Tryz.prog 85 #[.int .u64 x] w fun e w' => e = .returned (.string ⟨(Lib.decDigits x.toNat).toArray⟩) ∧ Below w.heap.size w w' := by
  obtain ⟨n, rfl⟩ : ∃ n : Nat, x = n := ⟨x.toNat, (Int.toNat_of_nonneg h0).symm⟩
  exact rdigits_any n w (by omega)

set_option maxHeartbeats 8000000 in
theorem rtext_k10 (hd : Head) (ks : List Qry) (hk : hd.kind = 10) (hw : Hwf hd) (hg : locB 16 false hd ks.length = true) (A1 A2 A3 A4 : Option Addr) (c1 c2 c3 c4 : Nat) (w : World) (B : Nat) (hB : B ≤ w.heap.size) (kc : Nat → List Value) (hks : ks.length ≤ maxLen) (s3 : Slc w w.heap.size A3 (ints hd.occur))
    (h4 : ks ≠ [] → ∃ g o, A4 = some ⟨g, o, none⟩ ∧ g < B ∧ ∀ i, i < ks.length → ∀ j u, (kc i)[j]? = some u → w.cell? ⟨g, o + i * 15 + j, none⟩ = some u) (h5 : ∀ i k, ks[i]? = some k → QVal w B (kc i) k)
    (IH : ∀ i k, ks[i]? = some k → ∀ W, Below w.heap.size w W → Calls Tryz.prog 48 #[.agg (kc i).toArray] W fun e w' => e = .returned (.string ⟨(lineL k).toArray⟩) ∧ Below W.heap.size W w')
    (hkl : ∀ k ∈ ks, (lineL k).length + 4 ≤ 128 * bulk k) (hbk0 : bulk (.mk hd ks) ≤ 1099511627776) :
    Calls Tryz.prog 48 #[.agg (qcells hd ks.length A1 A2 A3 A4 c1 c2 c3 c4)] w fun e w' => e = .returned (.string ⟨(lineL (.mk hd ks)).toArray⟩) ∧ Below w.heap.size w w' := by
  simp only [bulk] at hbk0
  have hbk : hbulk hd ≤ 1099511627776 := by omega
  obtain ⟨hk1, hk2, ok⟩ := ok_of hg
  have hwt := wt_head hw (nk := 0)
  have hbl := body_len (by decide) hg hwt
  have hF := i64_of hw.field
  have hN := i64_of hw.n
  have hW := u64_of hw.weight
  obtain ⟨z1, z2, z3⟩ := bulk_parts hd
  rw [hk] at ok
  obtain ⟨kind, field, text, terms, offs, n, weight, lo, hi, occur⟩ := hd
  simp only at hk hF hN hW z1 z2 z3
  subst hk
  have okn := ok.n0
  have hol := ok.o1 rfl
  have hoc := ok.o2
  simp only at okn s3 hol hoc
  have hf0 := f0_of ok
  simp only at hf0
  have hcF : IntKind.u64.wrap field = field := by show field % 18446744073709551616 = field; omega
  have hcN : IntKind.u64.wrap n = n := by show n % 18446744073709551616 = n; omega
  have lF : (Lib.decDigits field.toNat).length ≤ 20 := dd_len (by omega)
  have lN : (Lib.decDigits n.toNat).length ≤ 20 := dd_len (by omega)
  have lW : (Lib.decDigits weight.toNat).length ≤ 20 := dd_len (by omega)
  have lT := quote_len text
  obtain ⟨W1, hW1⟩ : ∃ W, W = w.alloc (.cells (qcells ⟨10, field, text, terms, offs, n, weight, lo, hi, occur⟩ ks.length A1 A2 A3 A4 c1 c2 c3 c4) 29) := ⟨_, rfl⟩
  have K1 : Blk W1 w.heap.size 29 (qcells ⟨10, field, text, terms, offs, n, weight, lo, hi, occur⟩ ks.length A1 A2 A3 A4 c1 c2 c3 c4) := by rw [hW1]; exact Blk.new w _ _
  have hsz : w.heap.size + 1 = W1.heap.size := by rw [hW1]; simp
  have hbW : Below w.heap.size w W1 := by rw [hW1]; (repeat (first | exact Below.refl _ _ | assumption | refine balloc ?_ _ | refine bdrew ?_ | refine bdrewN ?_ _ | refine bchain ?_ (by assumption)))
  have hlt1 : w.heap.size < W1.heap.size := by omega
  have qcell : ∀ {wx : World} (hx : Below W1.heap.size W1 wx) (j : Nat) (u : Value) (_ : (qcells ⟨10, field, text, terms, offs, n, weight, lo, hi, occur⟩ ks.length A1 A2 A3 A4 c1 c2 c3 c4)[j]? = some u), wx.cell? ⟨w.heap.size, j, none⟩ = some u := fun hx j u hu => ((K1.below hx hlt1).cell j).trans hu
  have F0 := Lib.hid hf0
  have F2 := Lib.hid (show field < 18446744073709551616 by omega)
  have N0 := Lib.hid okn
  have N2 := Lib.hid (show n < 18446744073709551616 by omega)
  have W0 := Lib.hid hW.1
  have W2 := Lib.hid hW.2
  have SZ := Lib.hid (show text.size ≤ 1099511627776 by omega)
  have SL := Lib.hid (show lo.text.size ≤ 1099511627776 by omega)
  have SH := Lib.hid (show hi.text.size ≤ 1099511627776 by omega)
  have hts : text.size ≤ 1099511627776 := by omega
  unfold qcells at hW1 ⊢
  have HW := Lib.hid hW1
  clear hW1 hsz hF hN hW z1 z2 z3 okn hf0 hk1 hk2 hwt
  have HKB := Lib.hid (show ∀ j, j ≤ ks.length → (kidsL (ks.take j) occur 0).length ≤ 128 * bulks (ks.take j) from fun j hj => by
    have := kids_len (ks := ks.take j) occur (fun k hk => hkl k (List.mem_of_mem_take hk)) 0
    omega)
  have HKL := Lib.hid hkl
  have HBK0 := Lib.hid hbk0
  have S3 := Lib.hid s3
  have H4 := Lib.hid h4
  have H5 := Lib.hid h5
  have IHK := Lib.hid IH
  have HKS := Lib.hid (show ks.length ≤ 9223372036854775807 from hks)
  have HOL := Lib.hid hol
  have HOC := Lib.hid hoc
  clear hol hoc
  clear hbk hbk0 hbl hg ok hw hkl s3 h4 h5 IH hks
  go_enter Tryz.func48, Tryz.ntmps48
  go_upto_region 1 with fail
  rw [← HW.out]
  refine Rel.wp_region_rel (fun wx => Below W1.heap.size W1 wx) (fun wa wb => Below wa.heap.size wa wb) (by kernel_rfl) (by kernel_rfl) (bdrew (Below.refl _ _)) (fun _ => Below.refl _ _) ?_
  apply Rel.rel_one2 1 [] rfl (by kernel_rfl) (by kernel_rfl)
  case hs =>
    intro wx hx
    try simp only [Act.put, Base.s1, Base.s2, Base.s3]
    intro KK hK
    go_simp
    exact hK _ _ hx (Below.refl _ _) rfl
  apply Rel.rel_one2 2 [(0, 12)] rfl (by kernel_rfl) (by kernel_rfl)
  case hs =>
    intro wx hx
    rintro _ rfl
    have q1 := qcell hx 1 (.int .i64 field) rfl
    have q2 := qcell hx 2 (.string text) rfl
    have q5 := qcell hx 5 (.int .i64 n) rfl
    have q6 := qcell hx 6 (.int .u64 weight) rfl
    try simp only [Act.put, Base.s1, Base.s2, Base.s3]
    intro KK hK
    go_simp
    exact hK _ _ hx (Below.refl _ _) rfl
  apply Rel.rel_one2 3 [(1, 13)] rfl (by kernel_rfl) (by kernel_rfl)
  case hs =>
    intro wx hx
    rintro _ rfl
    try simp only [Act.put, Base.s1, Base.s2, Base.s3]
    intro KK hK
    go_simp
    exact hK _ _ hx (Below.refl _ _) rfl
  apply Rel.rel_one2 4 [(2, 14)] rfl (by kernel_rfl) (by kernel_rfl)
  case hs =>
    intro wx hx
    rintro _ rfl
    have q1 := qcell hx 1 (.int .i64 field) rfl
    have q2 := qcell hx 2 (.string text) rfl
    have q5 := qcell hx 5 (.int .i64 n) rfl
    have q6 := qcell hx 6 (.int .u64 weight) rfl
    try simp only [Act.put, Base.s1, Base.s2, Base.s3]
    intro KK hK
    go_simp
    go_at_call 85
    refine (rdigits_int field F0.out F2.out wx).mono ?_
    rintro e wy ⟨rfl, hby⟩
    exact hK _ _ (bchain hx hby) hby rfl
  apply Rel.rel_one2 5 [] rfl (by kernel_rfl) (by kernel_rfl)
  case hs =>
    intro wx hx
    try simp only [Act.put, Base.s1, Base.s2, Base.s3]
    intro KK hK
    go_simp
    exact hK _ _ hx (Below.refl _ _) rfl
  apply Rel.rel_one2 6 [(4, 16)] rfl (by kernel_rfl) (by kernel_rfl)
  case hs =>
    intro wx hx
    rintro _ rfl
    have q1 := qcell hx 1 (.int .i64 field) rfl
    have q2 := qcell hx 2 (.string text) rfl
    have q5 := qcell hx 5 (.int .i64 n) rfl
    have q6 := qcell hx 6 (.int .u64 weight) rfl
    try simp only [Act.put, Base.s1, Base.s2, Base.s3]
    intro KK hK
    go_simp
    exact hK _ _ hx (Below.refl _ _) rfl
  apply Rel.rel_one2 7 [(5, 17)] rfl (by kernel_rfl) (by kernel_rfl)
  case hs =>
    intro wx hx
    rintro _ rfl
    try simp only [Act.put, Base.s1, Base.s2, Base.s3]
    intro KK hK
    go_simp
    exact hK _ _ hx (Below.refl _ _) rfl
  apply Rel.rel_one2 8 [(6, 18)] rfl (by kernel_rfl) (by kernel_rfl)
  case hs =>
    intro wx hx
    rintro _ rfl
    have q1 := qcell hx 1 (.int .i64 field) rfl
    have q2 := qcell hx 2 (.string text) rfl
    have q5 := qcell hx 5 (.int .i64 n) rfl
    have q6 := qcell hx 6 (.int .u64 weight) rfl
    try simp only [Act.put, Base.s1, Base.s2, Base.s3]
    intro KK hK
    go_simp
    go_at_call 85
    refine (rdigits_int n N0.out N2.out wx).mono ?_
    rintro e wy ⟨rfl, hby⟩
    exact hK _ _ (bchain hx hby) hby rfl
  apply Rel.rel_one2 9 [] rfl (by kernel_rfl) (by kernel_rfl)
  case hs =>
    intro wx hx
    try simp only [Act.put, Base.s1, Base.s2, Base.s3]
    intro KK hK
    go_simp
    exact hK _ _ hx (Below.refl _ _) rfl
  apply Rel.rel_one2 10 [(8, 20)] rfl (by kernel_rfl) (by kernel_rfl)
  case hs =>
    intro wx hx
    rintro _ rfl
    have q1 := qcell hx 1 (.int .i64 field) rfl
    have q2 := qcell hx 2 (.string text) rfl
    have q5 := qcell hx 5 (.int .i64 n) rfl
    have q6 := qcell hx 6 (.int .u64 weight) rfl
    try simp only [Act.put, Base.s1, Base.s2, Base.s3]
    intro KK hK
    go_simp
    exact hK _ _ hx (Below.refl _ _) rfl
  apply Rel.rel_one2 11 [(9, 21)] rfl (by kernel_rfl) (by kernel_rfl)
  case hs =>
    intro wx hx
    rintro _ rfl
    have q1 := qcell hx 1 (.int .i64 field) rfl
    have q2 := qcell hx 2 (.string text) rfl
    have q5 := qcell hx 5 (.int .i64 n) rfl
    have q6 := qcell hx 6 (.int .u64 weight) rfl
    try simp only [Act.put, Base.s1, Base.s2, Base.s3]
    intro KK hK
    go_simp
    go_at_call 85
    refine (rdigits_int weight W0.out W2.out wx).mono ?_
    rintro e wy ⟨rfl, hby⟩
    exact hK _ _ (bchain hx hby) hby rfl
  apply Rel.rel_one2 12 [] rfl (by kernel_rfl) (by kernel_rfl)
  case hs =>
    intro wx hx
    try simp only [Act.put, Base.s1, Base.s2, Base.s3]
    intro KK hK
    go_simp
    exact hK _ _ hx (Below.refl _ _) rfl
  apply Rel.rel_one2 13 [(11, 23)] rfl (by kernel_rfl) (by kernel_rfl)
  case hs =>
    intro wx hx
    rintro _ rfl
    have q1 := qcell hx 1 (.int .i64 field) rfl
    have q2 := qcell hx 2 (.string text) rfl
    have q5 := qcell hx 5 (.int .i64 n) rfl
    have q6 := qcell hx 6 (.int .u64 weight) rfl
    try simp only [Act.put, Base.s1, Base.s2, Base.s3]
    intro KK hK
    go_simp
    exact hK _ _ hx (Below.refl _ _) rfl
  apply Rel.rel_one2 14 [(12, 24)] rfl (by kernel_rfl) (by kernel_rfl)
  case hs =>
    intro wx hx
    rintro _ rfl
    have q1 := qcell hx 1 (.int .i64 field) rfl
    have q2 := qcell hx 2 (.string text) rfl
    have q5 := qcell hx 5 (.int .i64 n) rfl
    have q6 := qcell hx 6 (.int .u64 weight) rfl
    try simp only [Act.put, Base.s1, Base.s2, Base.s3]
    intro KK hK
    go_simp
    go_at_call 86
    refine (rquoted_any text wx (by have := SZ.out; omega)).mono ?_
    rintro e wy ⟨rfl, hby⟩
    exact hK _ _ (bchain hx hby) hby rfl
  apply Rel.rel_one2 15 [(3, 15)] rfl (by kernel_rfl) (by kernel_rfl)
  case hs =>
    intro wx hx
    rintro _ rfl
    try simp only [Act.put, Base.s1, Base.s2, Base.s3]
    intro KK hK
    go_simp
    exact hK _ _ hx (Below.refl _ _) rfl
  apply Rel.rel_one2 16 [(7, 19)] rfl (by kernel_rfl) (by kernel_rfl)
  case hs =>
    intro wx hx
    rintro _ rfl
    try simp only [Act.put, Base.s1, Base.s2, Base.s3]
    intro KK hK
    go_simp
    exact hK _ _ hx (Below.refl _ _) rfl
  apply Rel.rel_one2 17 [(10, 22)] rfl (by kernel_rfl) (by kernel_rfl)
  case hs =>
    intro wx hx
    rintro _ rfl
    try simp only [Act.put, Base.s1, Base.s2, Base.s3]
    intro KK hK
    go_simp
    exact hK _ _ hx (Below.refl _ _) rfl
  apply Rel.rel_one2 18 [(13, 25)] rfl (by kernel_rfl) (by kernel_rfl)
  case hs =>
    intro wx hx
    rintro _ rfl
    try simp only [Act.put, Base.s1, Base.s2, Base.s3]
    intro KK hK
    go_simp
    exact hK _ _ hx (Below.refl _ _) rfl
  refine Rel.rel_end [(0, 12), (1, 13), (2, 14), (3, 15), (4, 16), (5, 17), (6, 18), (7, 19), (8, 20), (9, 21), (10, 22), (11, 23), (12, 24), (13, 25), (14, 3), (15, 4), (16, 5), (17, 6)] (by kernel_rfl) (by kernel_rfl) ?_
  intro w5 hx5
  rintro _ rfl _ rfl _ rfl _ rfl _ rfl _ rfl _ rfl _ rfl _ rfl _ rfl _ rfl _ rfl _ rfl _ rfl _ rfl _ rfl _ rfl _ rfl
  try simp only [Act.put, Base.s1, Base.s2, Base.s3]
  refine Rel.valsD_ret ?_
  have q14 := qcell hx5 14 (.slice A4 ks.length c4) rfl
  generalize hd1 : Lib.decDigits field.toNat = D1 at *
  generalize hd2 : Lib.decDigits n.toNat = D2 at *
  generalize hd3 : Lib.decDigits weight.toNat = D3 at *
  generalize hd4 : quoteL text = D4 at *
  have HD1 := Lib.hid hd1
  have HD2 := Lib.hid hd2
  have HD3 := Lib.hid hd3
  have HD4 := Lib.hid hd4
  clear hd1 hd2 hd3 hd4
  go_wp2_with fail
  go_loopw [29, 7] (fun i u wr => ∃ j : Nat, j ≤ ks.length ∧ i = .int .i64 j ∧ u = .string ⟨(kidsL (ks.take j) occur 0).toArray⟩ ∧ Below W1.heap.size W1 wr) (fun i _ _ => ks.length - (intOf i).toNat)
  case atStart => exact ⟨0, Nat.zero_le _, rfl, rfl, hx5⟩
  case round =>
    obtain ⟨j, hj, rfl, rfl, hbel⟩ := hrel
    have hkl' := HKS.out
    have hkb := HKB.out j hj
    have hb0 := HBK0.out
    have q14' := qcell hbel 14 (.slice A4 ks.length c4) rfl
    have q13' := qcell hbel 13 (.slice A3 occur.length c3) rfl
    have q0' := qcell hbel 0 (.int .i64 10) rfl
    have q13a : ∀ u, (wr.alloc u).cell? ⟨w.heap.size, 13, none⟩ = some (.slice A3 occur.length c3) := fun u => qcell (Below.alloc hbel hbel.size u) 13 (.slice A3 occur.length c3) rfl
    rcases Nat.lt_or_ge j ks.length with hlt | hge
    · obtain ⟨g, o, rfl, hg, hc⟩ := H4.out (by intro h; subst h; simp at hlt)
      obtain ⟨x, hx1⟩ : ∃ x, ks[j]? = some x := ⟨_, List.getElem?_eq_getElem hlt⟩
      have hbw := bchain hbW hbel
      have hq := (H5.out j x hx1).kept hbw hB
      have hbt := bulks_take hx1
      have hxl := HKL.out x (List.mem_of_getElem? hx1)
      obtain ⟨B1, B2, B3, B4, d1, d2, d3, d4, e, x0, x1, x2, x3, x4, x5, x6, x7, x8, x9, x10, x11, x12, x13, x14⟩ := kid_cells hq (fun j' u hu => (hbw.cell (p := ⟨g, o + j * 15 + j', none⟩) (Nat.lt_of_lt_of_le hg hB)).trans (hc j hlt j' u hu))
      have IH2 := Lib.hid (IHK.out j x hx1)
      rw [e] at IH2
      unfold qcells at IH2
      have HKT0 := Lib.hid (kidsL_take (oc := occur) hx1)
      have hlt2 : (j : Int) < 9223372036854775807 := by omega
      have i1 : (j : Int) < (ks.length : Int) := by omega
      have hbx : Below w.heap.size w (wr.alloc (.cells #[.int .i64 x.h.kind, .int .i64 x.h.field, .string x.h.text, .slice B1 x.h.terms.length d1, .slice B2 x.h.offs.length d2, .int .i64 x.h.n, .int .u64 x.h.weight, .bool x.h.lo.op, .bool x.h.lo.inn, .string x.h.lo.text, .bool x.h.hi.op, .bool x.h.hi.inn, .string x.h.hi.text, .slice B3 x.h.occur.length d3, .slice B4 x.kids.length d4] 29)) := Below.alloc hbw (Nat.le_trans hbW.size hbel.size) _
      have HBX := Lib.hid hbx
      have HBL := Lib.hid hbel
      have lK : (kidsL (ks.take j) occur 0).length ≤ 281474976710656 := by omega
      have lX : (lineL x).length ≤ 281474976710656 := by omega
      generalize hKj : kidsL (ks.take j) occur 0 = Kj at *
      have HKJ := Lib.hid hKj
      clear hKj hkb hb0 hbt hxl
      have hol := HOL.out
      obtain ⟨z, hz⟩ : ∃ z, occur[j]? = some z := ⟨_, List.getElem?_eq_getElem (by omega)⟩
      obtain ⟨g3, o3, rfl, hg3, hc3⟩ := S3.out (by intro h; rw [show occur = [] by simpa [ints] using h] at hz; simp at hz)
      have y : ∀ u, (wr.alloc u).cell? ⟨g3, o3 + j, none⟩ = some (.int .i64 z) := fun u => ((show Below w.heap.size w (wr.alloc u) from Below.alloc hbw (Nat.le_trans hbW.size hbel.size) _).cell (p := ⟨g3, o3 + j, none⟩) hg3).trans (hc3 j (.int .i64 z) (by simp [ints, hz]))
      have hzb := List.all_eq_true.1 HOC.out z (List.mem_of_getElem? hz)
      have i2 : (j : Int) < (occur.length : Int) := by omega
      have i3 : (0 : Int) < (occur.length : Int) := by omega
      have i4 : 0 < occur.length := by omega
      have i5 : decide ((0 : Int) < (occur.length : Int)) = true := decide_eq_true i3
      have i6 : decide (0 < occur.length) = true := decide_eq_true i4
      have HZ := Lib.hid hz
      clear hol hz hc3
      clear hc hq e hx1 hbel hbx hbw
      simp only [occB, Bool.or_eq_true, beq_iff_eq] at hzb
      rcases hzb with (rfl | rfl) | rfl
      · go_wp2_with (go_at_call 48; refine (IH2.out _ HBX.out).mono ?_; rintro e w6 ⟨rfl, hb6⟩)
        go_roundw
        case rel =>
          refine ⟨j + 1, by omega, by go_num, ?_, bchain (Below.alloc HBL.out HBL.out.size _) hb6⟩
          rw [HKT0.out, HZ.out]
          refine congrArg Value.string ?_
          rw [ba_app _ [32], ba_app _ (lineL x)]; simp [occL]
        case measure => simp [intOf]; omega
      · go_wp2_with (go_at_call 48; refine (IH2.out _ HBX.out).mono ?_; rintro e w6 ⟨rfl, hb6⟩)
        go_roundw
        case rel =>
          refine ⟨j + 1, by omega, by go_num, ?_, bchain (Below.alloc HBL.out HBL.out.size _) hb6⟩
          rw [HKT0.out, HZ.out]
          refine congrArg Value.string ?_
          rw [ba_app _ [32], ba_app _ [43], ba_app _ (lineL x)]; simp [occL]
        case measure => simp [intOf]; omega
      · go_wp2_with (go_at_call 48; refine (IH2.out _ HBX.out).mono ?_; rintro e w6 ⟨rfl, hb6⟩)
        go_roundw
        case rel =>
          refine ⟨j + 1, by omega, by go_num, ?_, bchain (Below.alloc HBL.out HBL.out.size _) hb6⟩
          rw [HKT0.out, HZ.out]
          refine congrArg Value.string ?_
          rw [ba_app _ [32], ba_app _ [45], ba_app _ (lineL x)]; simp [occL]
        case measure => simp [intOf]; omega
    · have hj' : j = ks.length := by omega
      have lK : (kidsL (ks.take j) occur 0).length ≤ 281474976710656 := by
        have : bulks (ks.take j) ≤ bulks ks := by rw [hj', List.take_length]; exact Nat.le_refl _
        omega
      have HO := Lib.hid (show kidsL (ks.take j) occur 0 = kidsL ks occur 0 by rw [hj', List.take_length])
      have i1 : ¬ ((j : Int) < (ks.length : Int)) := by omega
      clear hj' hkb hb0
      generalize kidsL (ks.take j) occur 0 = Kj at *
      go_wp2_with fail
      go_ret
      refine ⟨?_, bchain hbW hbel⟩
      refine congrArg (fun b => Ending.returned (.string b)) ?_
      rw [ba_app [40, 108, 105, 115, 116, 32] D2, ba_app _ Kj, ba_app _ [41], HO.out, ← HD2.out]
      simp [lineL, bodyL, hasOf, num]

end Go.Proofs.YtkcfgcdlnojaeaaGreatDoor.RefText10

namespace Go.Proofs.YtkcfgcdlnojaeaaGreatDoor.RefText11
set_option maxRecDepth 100000
open Go.RowKit Go.PlainAid Base Query QrySize BindBase Bytes Digits Quoted QuoteAll NumAll Rel Relb RelbT TextPlain TextLine TextOne LineBase LineLeaf RefQuote RefDigits StrAdd

theorem rdigits_int (x : Int) (h0 : 0 ≤ x) (h1 : x < 18446744073709551616) (w : World) : Calls Tryz.prog 85 #[.int .u64 x] w fun e w' => e = .returned (.string ⟨(Lib.decDigits x.toNat).toArray⟩) ∧ Below w.heap.size w w' := by
  obtain ⟨n, rfl⟩ : ∃ n : Nat, x = n := ⟨x.toNat, (Int.toNat_of_nonneg h0).symm⟩
  exact rdigits_any n w (by omega)

set_option maxHeartbeats 8000000 in
theorem rtext_k11 (hd : Head) (ks : List Qry) (hk : hd.kind = 11) (hw : Hwf hd) (hg : locB 16 false hd ks.length = true) (A1 A2 A3 A4 : Option Addr) (c1 c2 c3 c4 : Nat) (w : World) (B : Nat) (hB : B ≤ w.heap.size) (kc : Nat → List Value) (hks : ks.length ≤ maxLen) (s3 : Slc w w.heap.size A3 (ints hd.occur))
    (h4 : ks ≠ [] → ∃ g o, A4 = some ⟨g, o, none⟩ ∧ g < B ∧ ∀ i, i < ks.length → ∀ j u, (kc i)[j]? = some u → w.cell? ⟨g, o + i * 15 + j, none⟩ = some u) (h5 : ∀ i k, ks[i]? = some k → QVal w B (kc i) k)
    (IH : ∀ i k, ks[i]? = some k → ∀ W, Below w.heap.size w W → Calls Tryz.prog 48 #[.agg (kc i).toArray] W fun e w' => e = .returned (.string ⟨(lineL k).toArray⟩) ∧ Below W.heap.size W w')
    (hkl : ∀ k ∈ ks, (lineL k).length + 4 ≤ 128 * bulk k) (hbk0 : bulk (.mk hd ks) ≤ 1099511627776) :
    Calls Tryz.prog 48 #[.agg (qcells hd ks.length A1 A2 A3 A4 c1 c2 c3 c4)] w fun e w' => e = .returned (.string ⟨(lineL (.mk hd ks)).toArray⟩) ∧ Below w.heap.size w w' := by
  simp only [bulk] at hbk0
  have hbk : hbulk hd ≤ 1099511627776 := by omega
  obtain ⟨hk1, hk2, ok⟩ := ok_of hg
  have hwt := wt_head hw (nk := 0)
  have hbl := body_len (by decide) hg hwt
  have hF := i64_of hw.field
  have hN := i64_of hw.n
  have hW := u64_of hw.weight
  obtain ⟨z1, z2, z3⟩ := bulk_parts hd
  rw [hk] at ok
  obtain ⟨kind, field, text, terms, offs, n, weight, lo, hi, occur⟩ := hd
  simp only at hk hF hN hW z1 z2 z3
  subst hk
  have okn := ok.n0
  have hoe := ok.o0 rfl
  simp only at okn s3 hoe
  have hf0 := f0_of ok
  simp only at hf0
  have hcF : IntKind.u64.wrap field = field := by show field % 18446744073709551616 = field; omega
  have hcN : IntKind.u64.wrap n = n := by show n % 18446744073709551616 = n; omega
  have lF : (Lib.decDigits field.toNat).length ≤ 20 := dd_len (by omega)
  have lN : (Lib.decDigits n.toNat).length ≤ 20 := dd_len (by omega)
  have lW : (Lib.decDigits weight.toNat).length ≤ 20 := dd_len (by omega)
  have lT := quote_len text
  obtain ⟨W1, hW1⟩ : ∃ W, W = w.alloc (.cells (qcells ⟨11, field, text, terms, offs, n, weight, lo, hi, occur⟩ ks.length A1 A2 A3 A4 c1 c2 c3 c4) 29) := ⟨_, rfl⟩
  have K1 : Blk W1 w.heap.size 29 (qcells ⟨11, field, text, terms, offs, n, weight, lo, hi, occur⟩ ks.length A1 A2 A3 A4 c1 c2 c3 c4) := by rw [hW1]; exact Blk.new w _ _
  have hsz : w.heap.size + 1 = W1.heap.size := by rw [hW1]; simp
  have hbW : Below w.heap.size w W1 := by rw [hW1]; (repeat (first | exact Below.refl _ _ | assumption | refine balloc ?_ _ | refine bdrew ?_ | refine bdrewN ?_ _ | refine bchain ?_ (by assumption)))
  have hlt1 : w.heap.size < W1.heap.size := by omega
  have qcell : ∀ {wx : World} (hx : Below W1.heap.size W1 wx) (j : Nat) (u : Value) (_ : (qcells ⟨11, field, text, terms, offs, n, weight, lo, hi, occur⟩ ks.length A1 A2 A3 A4 c1 c2 c3 c4)[j]? = some u), wx.cell? ⟨w.heap.size, j, none⟩ = some u := fun hx j u hu => ((K1.below hx hlt1).cell j).trans hu
  have F0 := Lib.hid hf0
  have F2 := Lib.hid (show field < 18446744073709551616 by omega)
  have N0 := Lib.hid okn
  have N2 := Lib.hid (show n < 18446744073709551616 by omega)
  have W0 := Lib.hid hW.1
  have W2 := Lib.hid hW.2
  have SZ := Lib.hid (show text.size ≤ 1099511627776 by omega)
  have SL := Lib.hid (show lo.text.size ≤ 1099511627776 by omega)
  have SH := Lib.hid (show hi.text.size ≤ 1099511627776 by omega)
  have hts : text.size ≤ 1099511627776 := by omega
  unfold qcells at hW1 ⊢
  have HW := Lib.hid hW1
  clear hW1 hsz hF hN hW z1 z2 z3 okn hf0 hk1 hk2 hwt
  have HKB := Lib.hid (show ∀ j, j ≤ ks.length → (kidsL (ks.take j) occur 0).length ≤ 128 * bulks (ks.take j) from fun j hj => by
    have := kids_len (ks := ks.take j) occur (fun k hk => hkl k (List.mem_of_mem_take hk)) 0
    omega)
  have HKL := Lib.hid hkl
  have HBK0 := Lib.hid hbk0
  have S3 := Lib.hid s3
  have H4 := Lib.hid h4
  have H5 := Lib.hid h5
  have IHK := Lib.hid IH
  have HKS := Lib.hid (show ks.length ≤ 9223372036854775807 from hks)
  have HOE := Lib.hid hoe
  have hol0 : occur.length = 0 := by rw [hoe]; rfl
  have i9 : ¬ ((0 : Int) < (occur.length : Int)) := by omega
  have i8 : ¬ (0 < occur.length) := by omega
  have i7 : decide ((0 : Int) < (occur.length : Int)) = false := decide_eq_false i9
  have i6 : decide (0 < occur.length) = false := decide_eq_false i8
  clear hoe hol0
  clear hbk hbk0 hbl hg ok hw hkl s3 h4 h5 IH hks
  go_enter Tryz.func48, Tryz.ntmps48
  go_upto_region 1 with fail
  rw [← HW.out]
  refine Rel.wp_region_rel (fun wx => Below W1.heap.size W1 wx) (fun wa wb => Below wa.heap.size wa wb) (by kernel_rfl) (by kernel_rfl) (bdrew (Below.refl _ _)) (fun _ => Below.refl _ _) ?_
  apply Rel.rel_one2 1 [] rfl (by kernel_rfl) (by kernel_rfl)
  case hs =>
    intro wx hx
    try simp only [Act.put, Base.s1, Base.s2, Base.s3]
    intro KK hK
    go_simp
    exact hK _ _ hx (Below.refl _ _) rfl
  apply Rel.rel_one2 2 [(0, 12)] rfl (by kernel_rfl) (by kernel_rfl)
  case hs =>
    intro wx hx
    rintro _ rfl
    have q1 := qcell hx 1 (.int .i64 field) rfl
    have q2 := qcell hx 2 (.string text) rfl
    have q5 := qcell hx 5 (.int .i64 n) rfl
    have q6 := qcell hx 6 (.int .u64 weight) rfl
    try simp only [Act.put, Base.s1, Base.s2, Base.s3]
    intro KK hK
    go_simp
    exact hK _ _ hx (Below.refl _ _) rfl
  apply Rel.rel_one2 3 [(1, 13)] rfl (by kernel_rfl) (by kernel_rfl)
  case hs =>
    intro wx hx
    rintro _ rfl
    try simp only [Act.put, Base.s1, Base.s2, Base.s3]
    intro KK hK
    go_simp
    exact hK _ _ hx (Below.refl _ _) rfl
  apply Rel.rel_one2 4 [(2, 14)] rfl (by kernel_rfl) (by kernel_rfl)
  case hs =>
    intro wx hx
    rintro _ rfl
    have q1 := qcell hx 1 (.int .i64 field) rfl
    have q2 := qcell hx 2 (.string text) rfl
    have q5 := qcell hx 5 (.int .i64 n) rfl
    have q6 := qcell hx 6 (.int .u64 weight) rfl
    try simp only [Act.put, Base.s1, Base.s2, Base.s3]
    intro KK hK
    go_simp
    go_at_call 85
    refine (rdigits_int field F0.out F2.out wx).mono ?_
    rintro e wy ⟨rfl, hby⟩
    exact hK _ _ (bchain hx hby) hby rfl
  apply Rel.rel_one2 5 [] rfl (by kernel_rfl) (by kernel_rfl)
  case hs =>
    intro wx hx
    try simp only [Act.put, Base.s1, Base.s2, Base.s3]
    intro KK hK
    go_simp
    exact hK _ _ hx (Below.refl _ _) rfl
  apply Rel.rel_one2 6 [(4, 16)] rfl (by kernel_rfl) (by kernel_rfl)
  case hs =>
    intro wx hx
    rintro _ rfl
    have q1 := qcell hx 1 (.int .i64 field) rfl
    have q2 := qcell hx 2 (.string text) rfl
    have q5 := qcell hx 5 (.int .i64 n) rfl
    have q6 := qcell hx 6 (.int .u64 weight) rfl
    try simp only [Act.put, Base.s1, Base.s2, Base.s3]
    intro KK hK
    go_simp
    exact hK _ _ hx (Below.refl _ _) rfl
  apply Rel.rel_one2 7 [(5, 17)] rfl (by kernel_rfl) (by kernel_rfl)
  case hs =>
    intro wx hx
    rintro _ rfl
    try simp only [Act.put, Base.s1, Base.s2, Base.s3]
    intro KK hK
    go_simp
    exact hK _ _ hx (Below.refl _ _) rfl
  apply Rel.rel_one2 8 [(6, 18)] rfl (by kernel_rfl) (by kernel_rfl)
  case hs =>
    intro wx hx
    rintro _ rfl
    have q1 := qcell hx 1 (.int .i64 field) rfl
    have q2 := qcell hx 2 (.string text) rfl
    have q5 := qcell hx 5 (.int .i64 n) rfl
    have q6 := qcell hx 6 (.int .u64 weight) rfl
    try simp only [Act.put, Base.s1, Base.s2, Base.s3]
    intro KK hK
    go_simp
    go_at_call 85
    refine (rdigits_int n N0.out N2.out wx).mono ?_
    rintro e wy ⟨rfl, hby⟩
    exact hK _ _ (bchain hx hby) hby rfl
  apply Rel.rel_one2 9 [] rfl (by kernel_rfl) (by kernel_rfl)
  case hs =>
    intro wx hx
    try simp only [Act.put, Base.s1, Base.s2, Base.s3]
    intro KK hK
    go_simp
    exact hK _ _ hx (Below.refl _ _) rfl
  apply Rel.rel_one2 10 [(8, 20)] rfl (by kernel_rfl) (by kernel_rfl)
  case hs =>
    intro wx hx
    rintro _ rfl
    have q1 := qcell hx 1 (.int .i64 field) rfl
    have q2 := qcell hx 2 (.string text) rfl
    have q5 := qcell hx 5 (.int .i64 n) rfl
    have q6 := qcell hx 6 (.int .u64 weight) rfl
    try simp only [Act.put, Base.s1, Base.s2, Base.s3]
    intro KK hK
    go_simp
    exact hK _ _ hx (Below.refl _ _) rfl
  apply Rel.rel_one2 11 [(9, 21)] rfl (by kernel_rfl) (by kernel_rfl)
  case hs =>
    intro wx hx
    rintro _ rfl
    have q1 := qcell hx 1 (.int .i64 field) rfl
    have q2 := qcell hx 2 (.string text) rfl
    have q5 := qcell hx 5 (.int .i64 n) rfl
    have q6 := qcell hx 6 (.int .u64 weight) rfl
    try simp only [Act.put, Base.s1, Base.s2, Base.s3]
    intro KK hK
    go_simp
    go_at_call 85
    refine (rdigits_int weight W0.out W2.out wx).mono ?_
    rintro e wy ⟨rfl, hby⟩
    exact hK _ _ (bchain hx hby) hby rfl
  apply Rel.rel_one2 12 [] rfl (by kernel_rfl) (by kernel_rfl)
  case hs =>
    intro wx hx
    try simp only [Act.put, Base.s1, Base.s2, Base.s3]
    intro KK hK
    go_simp
    exact hK _ _ hx (Below.refl _ _) rfl
  apply Rel.rel_one2 13 [(11, 23)] rfl (by kernel_rfl) (by kernel_rfl)
  case hs =>
    intro wx hx
    rintro _ rfl
    have q1 := qcell hx 1 (.int .i64 field) rfl
    have q2 := qcell hx 2 (.string text) rfl
    have q5 := qcell hx 5 (.int .i64 n) rfl
    have q6 := qcell hx 6 (.int .u64 weight) rfl
    try simp only [Act.put, Base.s1, Base.s2, Base.s3]
    intro KK hK
    go_simp
    exact hK _ _ hx (Below.refl _ _) rfl
  apply Rel.rel_one2 14 [(12, 24)] rfl (by kernel_rfl) (by kernel_rfl)
  case hs =>
    intro wx hx
    rintro _ rfl
    have q1 := qcell hx 1 (.int .i64 field) rfl
    have q2 := qcell hx 2 (.string text) rfl
    have q5 := qcell hx 5 (.int .i64 n) rfl
    have q6 := qcell hx 6 (.int .u64 weight) rfl
    try simp only [Act.put, Base.s1, Base.s2, Base.s3]
    intro KK hK
    go_simp
    go_at_call 86
    refine (rquoted_any text wx (by have := SZ.out; omega)).mono ?_
    rintro e wy ⟨rfl, hby⟩
    exact hK _ _ (bchain hx hby) hby rfl
  apply Rel.rel_one2 15 [(3, 15)] rfl (by kernel_rfl) (by kernel_rfl)
  case hs =>
    intro wx hx
    rintro _ rfl
    try simp only [Act.put, Base.s1, Base.s2, Base.s3]
    intro KK hK
    go_simp
    exact hK _ _ hx (Below.refl _ _) rfl
  apply Rel.rel_one2 16 [(7, 19)] rfl (by kernel_rfl) (by kernel_rfl)
  case hs =>
    intro wx hx
    rintro _ rfl
    try simp only [Act.put, Base.s1, Base.s2, Base.s3]
    intro KK hK
    go_simp
    exact hK _ _ hx (Below.refl _ _) rfl
  apply Rel.rel_one2 17 [(10, 22)] rfl (by kernel_rfl) (by kernel_rfl)
  case hs =>
    intro wx hx
    rintro _ rfl
    try simp only [Act.put, Base.s1, Base.s2, Base.s3]
    intro KK hK
    go_simp
    exact hK _ _ hx (Below.refl _ _) rfl
  apply Rel.rel_one2 18 [(13, 25)] rfl (by kernel_rfl) (by kernel_rfl)
  case hs =>
    intro wx hx
    rintro _ rfl
    try simp only [Act.put, Base.s1, Base.s2, Base.s3]
    intro KK hK
    go_simp
    exact hK _ _ hx (Below.refl _ _) rfl
  refine Rel.rel_end [(0, 12), (1, 13), (2, 14), (3, 15), (4, 16), (5, 17), (6, 18), (7, 19), (8, 20), (9, 21), (10, 22), (11, 23), (12, 24), (13, 25), (14, 3), (15, 4), (16, 5), (17, 6)] (by kernel_rfl) (by kernel_rfl) ?_
  intro w5 hx5
  rintro _ rfl _ rfl _ rfl _ rfl _ rfl _ rfl _ rfl _ rfl _ rfl _ rfl _ rfl _ rfl _ rfl _ rfl _ rfl _ rfl _ rfl _ rfl
  try simp only [Act.put, Base.s1, Base.s2, Base.s3]
  refine Rel.valsD_ret ?_
  have q14 := qcell hx5 14 (.slice A4 ks.length c4) rfl
  generalize hd1 : Lib.decDigits field.toNat = D1 at *
  generalize hd2 : Lib.decDigits n.toNat = D2 at *
  generalize hd3 : Lib.decDigits weight.toNat = D3 at *
  generalize hd4 : quoteL text = D4 at *
  have HD1 := Lib.hid hd1
  have HD2 := Lib.hid hd2
  have HD3 := Lib.hid hd3
  have HD4 := Lib.hid hd4
  clear hd1 hd2 hd3 hd4
  go_wp2_with fail
  go_loopw [29, 7] (fun i u wr => ∃ j : Nat, j ≤ ks.length ∧ i = .int .i64 j ∧ u = .string ⟨(kidsL (ks.take j) occur 0).toArray⟩ ∧ Below W1.heap.size W1 wr) (fun i _ _ => ks.length - (intOf i).toNat)
  case atStart => exact ⟨0, Nat.zero_le _, rfl, rfl, hx5⟩
  case round =>
    obtain ⟨j, hj, rfl, rfl, hbel⟩ := hrel
    have hkl' := HKS.out
    have hkb := HKB.out j hj
    have hb0 := HBK0.out
    have q14' := qcell hbel 14 (.slice A4 ks.length c4) rfl
    have q13' := qcell hbel 13 (.slice A3 occur.length c3) rfl
    have q0' := qcell hbel 0 (.int .i64 11) rfl
    have q13a : ∀ u, (wr.alloc u).cell? ⟨w.heap.size, 13, none⟩ = some (.slice A3 occur.length c3) := fun u => qcell (Below.alloc hbel hbel.size u) 13 (.slice A3 occur.length c3) rfl
    rcases Nat.lt_or_ge j ks.length with hlt | hge
    · obtain ⟨g, o, rfl, hg, hc⟩ := H4.out (by intro h; subst h; simp at hlt)
      obtain ⟨x, hx1⟩ : ∃ x, ks[j]? = some x := ⟨_, List.getElem?_eq_getElem hlt⟩
      have hbw := bchain hbW hbel
      have hq := (H5.out j x hx1).kept hbw hB
      have hbt := bulks_take hx1
      have hxl := HKL.out x (List.mem_of_getElem? hx1)
      obtain ⟨B1, B2, B3, B4, d1, d2, d3, d4, e, x0, x1, x2, x3, x4, x5, x6, x7, x8, x9, x10, x11, x12, x13, x14⟩ := kid_cells hq (fun j' u hu => (hbw.cell (p := ⟨g, o + j * 15 + j', none⟩) (Nat.lt_of_lt_of_le hg hB)).trans (hc j hlt j' u hu))
      have IH2 := Lib.hid (IHK.out j x hx1)
      rw [e] at IH2
      unfold qcells at IH2
      have HKT0 := Lib.hid (kidsL_take (oc := occur) hx1)
      have hlt2 : (j : Int) < 9223372036854775807 := by omega
      have i1 : (j : Int) < (ks.length : Int) := by omega
      have hbx : Below w.heap.size w (wr.alloc (.cells #[.int .i64 x.h.kind, .int .i64 x.h.field, .string x.h.text, .slice B1 x.h.terms.length d1, .slice B2 x.h.offs.length d2, .int .i64 x.h.n, .int .u64 x.h.weight, .bool x.h.lo.op, .bool x.h.lo.inn, .string x.h.lo.text, .bool x.h.hi.op, .bool x.h.hi.inn, .string x.h.hi.text, .slice B3 x.h.occur.length d3, .slice B4 x.kids.length d4] 29)) := Below.alloc hbw (Nat.le_trans hbW.size hbel.size) _
      have HBX := Lib.hid hbx
      have HBL := Lib.hid hbel
      have lK : (kidsL (ks.take j) occur 0).length ≤ 281474976710656 := by omega
      have lX : (lineL x).length ≤ 281474976710656 := by omega
      generalize hKj : kidsL (ks.take j) occur 0 = Kj at *
      have HKJ := Lib.hid hKj
      clear hKj hkb hb0 hbt hxl
      clear hc hq e hx1 hbel hbx hbw
      go_wp2_with (go_at_call 48; refine (IH2.out _ HBX.out).mono ?_; rintro e w6 ⟨rfl, hb6⟩)
      go_roundw
      case rel =>
        refine ⟨j + 1, by omega, by go_num, ?_, bchain (Below.alloc HBL.out HBL.out.size _) hb6⟩
        rw [HKT0.out, HOE.out]
        refine congrArg Value.string ?_
        rw [ba_app _ [32], ba_app _ (lineL x)]; simp [occL]
      case measure => simp [intOf]; omega
    · have hj' : j = ks.length := by omega
      have lK : (kidsL (ks.take j) occur 0).length ≤ 281474976710656 := by
        have : bulks (ks.take j) ≤ bulks ks := by rw [hj', List.take_length]; exact Nat.le_refl _
        omega
      have HO := Lib.hid (show kidsL (ks.take j) occur 0 = kidsL ks occur 0 by rw [hj', List.take_length])
      have i1 : ¬ ((j : Int) < (ks.length : Int)) := by omega
      clear hj' hkb hb0
      generalize kidsL (ks.take j) occur 0 = Kj at *
      go_wp2_with fail
      go_ret
      refine ⟨?_, bchain hbW hbel⟩
      refine congrArg (fun b => Ending.returned (.string b)) ?_
      rw [ba_app [40, 109, 97, 120] Kj, ba_app _ [41], HO.out]
      simp [lineL, bodyL, hasOf, num]

end Go.Proofs.YtkcfgcdlnojaeaaGreatDoor.RefText11

namespace Go.Proofs.YtkcfgcdlnojaeaaGreatDoor.RefText12
set_option maxRecDepth 100000
open Go.RowKit Go.PlainAid Base Query QrySize BindBase Bytes Digits Quoted QuoteAll NumAll Rel Relb RelbT TextPlain TextLine TextOne LineBase LineLeaf RefQuote RefDigits StrAdd

theorem rdigits_int (x : Int) (h0 : 0 ≤ x) (h1 : x < 18446744073709551616) (w : World) : Calls Tryz.prog 85 #[.int .u64 x] w fun e w' => e = .returned (.string ⟨(Lib.decDigits x.toNat).toArray⟩) ∧ Below w.heap.size w w' := by
  obtain ⟨n, rfl⟩ : ∃ n : Nat, x = n := ⟨x.toNat, (Int.toNat_of_nonneg h0).symm⟩
  exact rdigits_any n w (by omega)

set_option maxHeartbeats 8000000 in
theorem rtext_k12 (hd : Head) (ks : List Qry) (hk : hd.kind = 12) (hw : Hwf hd) (hg : locB 16 false hd ks.length = true) (A1 A2 A3 A4 : Option Addr) (c1 c2 c3 c4 : Nat) (w : World) (B : Nat) (hB : B ≤ w.heap.size) (kc : Nat → List Value) (hks : ks.length ≤ maxLen) (s3 : Slc w w.heap.size A3 (ints hd.occur))
    (h4 : ks ≠ [] → ∃ g o, A4 = some ⟨g, o, none⟩ ∧ g < B ∧ ∀ i, i < ks.length → ∀ j u, (kc i)[j]? = some u → w.cell? ⟨g, o + i * 15 + j, none⟩ = some u) (h5 : ∀ i k, ks[i]? = some k → QVal w B (kc i) k)
    (IH : ∀ i k, ks[i]? = some k → ∀ W, Below w.heap.size w W → Calls Tryz.prog 48 #[.agg (kc i).toArray] W fun e w' => e = .returned (.string ⟨(lineL k).toArray⟩) ∧ Below W.heap.size W w')
    (hkl : ∀ k ∈ ks, (lineL k).length + 4 ≤ 128 * bulk k) (hbk0 : bulk (.mk hd ks) ≤ 1099511627776) :
    Calls Tryz.prog 48 #[.agg (qcells hd ks.length A1 A2 A3 A4 c1 c2 c3 c4)] w fun e w' => e = .returned (.string ⟨(lineL (.mk hd ks)).toArray⟩) ∧ Below w.heap.size w w' := by
  simp only [bulk] at hbk0
  have hbk : hbulk hd ≤ 1099511627776 := by omega
  obtain ⟨hk1, hk2, ok⟩ := ok_of hg
  have hwt := wt_head hw (nk := 0)
  have hbl := body_len (by decide) hg hwt
  have hF := i64_of hw.field
  have hN := i64_of hw.n
  have hW := u64_of hw.weight
  obtain ⟨z1, z2, z3⟩ := bulk_parts hd
  rw [hk] at ok
  obtain ⟨kind, field, text, terms, offs, n, weight, lo, hi, occur⟩ := hd
  simp only at hk hF hN hW z1 z2 z3
  subst hk
  have okn := ok.n0
  have hoe := ok.o0 rfl
  simp only at okn s3 hoe
  have hf0 := f0_of ok
  simp only at hf0
  have hcF : IntKind.u64.wrap field = field := by show field % 18446744073709551616 = field; omega
  have hcN : IntKind.u64.wrap n = n := by show n % 18446744073709551616 = n; omega
  have lF : (Lib.decDigits field.toNat).length ≤ 20 := dd_len (by omega)
  have lN : (Lib.decDigits n.toNat).length ≤ 20 := dd_len (by omega)
  have lW : (Lib.decDigits weight.toNat).length ≤ 20 := dd_len (by omega)
  have lT := quote_len text
  obtain ⟨W1, hW1⟩ : ∃ W, W = w.alloc (.cells (qcells ⟨12, field, text, terms, offs, n, weight, lo, hi, occur⟩ ks.length A1 A2 A3 A4 c1 c2 c3 c4) 29) := ⟨_, rfl⟩
  have K1 : Blk W1 w.heap.size 29 (qcells ⟨12, field, text, terms, offs, n, weight, lo, hi, occur⟩ ks.length A1 A2 A3 A4 c1 c2 c3 c4) := by rw [hW1]; exact Blk.new w _ _
  have hsz : w.heap.size + 1 = W1.heap.size := by rw [hW1]; simp
  have hbW : Below w.heap.size w W1 := by rw [hW1]; (repeat (first | exact Below.refl _ _ | assumption | refine balloc ?_ _ | refine bdrew ?_ | refine bdrewN ?_ _ | refine bchain ?_ (by assumption)))
  have hlt1 : w.heap.size < W1.heap.size := by omega
  have qcell : ∀ {wx : World} (hx : Below W1.heap.size W1 wx) (j : Nat) (u : Value) (_ : (qcells ⟨12, field, text, terms, offs, n, weight, lo, hi, occur⟩ ks.length A1 A2 A3 A4 c1 c2 c3 c4)[j]? = some u), wx.cell? ⟨w.heap.size, j, none⟩ = some u := fun hx j u hu => ((K1.below hx hlt1).cell j).trans hu
  have F0 := Lib.hid hf0
  have F2 := Lib.hid (show field < 18446744073709551616 by omega)
  have N0 := Lib.hid okn
  have N2 := Lib.hid (show n < 18446744073709551616 by omega)
  have W0 := Lib.hid hW.1
  have W2 := Lib.hid hW.2
  have SZ := Lib.hid (show text.size ≤ 1099511627776 by omega)
  have SL := Lib.hid (show lo.text.size ≤ 1099511627776 by omega)
  have SH := Lib.hid (show hi.text.size ≤ 1099511627776 by omega)
  have hts : text.size ≤ 1099511627776 := by omega
  unfold qcells at hW1 ⊢
  have HW := Lib.hid hW1
  clear hW1 hsz hF hN hW z1 z2 z3 okn hf0 hk1 hk2 hwt
  have HKB := Lib.hid (show ∀ j, j ≤ ks.length → (kidsL (ks.take j) occur 0).length ≤ 128 * bulks (ks.take j) from fun j hj => by
    have := kids_len (ks := ks.take j) occur (fun k hk => hkl k (List.mem_of_mem_take hk)) 0
    omega)
  have HKL := Lib.hid hkl
  have HBK0 := Lib.hid hbk0
  have S3 := Lib.hid s3
  have H4 := Lib.hid h4
  have H5 := Lib.hid h5
  have IHK := Lib.hid IH
  have HKS := Lib.hid (show ks.length ≤ 9223372036854775807 from hks)
  have HOE := Lib.hid hoe
  have hol0 : occur.length = 0 := by rw [hoe]; rfl
  have i9 : ¬ ((0 : Int) < (occur.length : Int)) := by omega
  have i8 : ¬ (0 < occur.length) := by omega
  have i7 : decide ((0 : Int) < (occur.length : Int)) = false := decide_eq_false i9
  have i6 : decide (0 < occur.length) = false := decide_eq_false i8
  clear hoe hol0
  clear hbk hbk0 hbl hg ok hw hkl s3 h4 h5 IH hks
  go_enter Tryz.func48, Tryz.ntmps48
  go_upto_region 1 with fail
  rw [← HW.out]
  refine Rel.wp_region_rel (fun wx => Below W1.heap.size W1 wx) (fun wa wb => Below wa.heap.size wa wb) (by kernel_rfl) (by kernel_rfl) (bdrew (Below.refl _ _)) (fun _ => Below.refl _ _) ?_
  apply Rel.rel_one2 1 [] rfl (by kernel_rfl) (by kernel_rfl)
  case hs =>
    intro wx hx
    try simp only [Act.put, Base.s1, Base.s2, Base.s3]
    intro KK hK
    go_simp
    exact hK _ _ hx (Below.refl _ _) rfl
  apply Rel.rel_one2 2 [(0, 12)] rfl (by kernel_rfl) (by kernel_rfl)
  case hs =>
    intro wx hx
    rintro _ rfl
    have q1 := qcell hx 1 (.int .i64 field) rfl
    have q2 := qcell hx 2 (.string text) rfl
    have q5 := qcell hx 5 (.int .i64 n) rfl
    have q6 := qcell hx 6 (.int .u64 weight) rfl
    try simp only [Act.put, Base.s1, Base.s2, Base.s3]
    intro KK hK
    go_simp
    exact hK _ _ hx (Below.refl _ _) rfl
  apply Rel.rel_one2 3 [(1, 13)] rfl (by kernel_rfl) (by kernel_rfl)
  case hs =>
    intro wx hx
    rintro _ rfl
    try simp only [Act.put, Base.s1, Base.s2, Base.s3]
    intro KK hK
    go_simp
    exact hK _ _ hx (Below.refl _ _) rfl
  apply Rel.rel_one2 4 [(2, 14)] rfl (by kernel_rfl) (by kernel_rfl)
  case hs =>
    intro wx hx
    rintro _ rfl
    have q1 := qcell hx 1 (.int .i64 field) rfl
    have q2 := qcell hx 2 (.string text) rfl
    have q5 := qcell hx 5 (.int .i64 n) rfl
    have q6 := qcell hx 6 (.int .u64 weight) rfl
    try simp only [Act.put, Base.s1, Base.s2, Base.s3]
    intro KK hK
    go_simp
    go_at_call 85
    refine (rdigits_int field F0.out F2.out wx).mono ?_
    rintro e wy ⟨rfl, hby⟩
    exact hK _ _ (bchain hx hby) hby rfl
  apply Rel.rel_one2 5 [] rfl (by kernel_rfl) (by kernel_rfl)
  case hs =>
    intro wx hx
    try simp only [Act.put, Base.s1, Base.s2, Base.s3]
    intro KK hK
    go_simp
    exact hK _ _ hx (Below.refl _ _) rfl
  apply Rel.rel_one2 6 [(4, 16)] rfl (by kernel_rfl) (by kernel_rfl)
  case hs =>
    intro wx hx
    rintro _ rfl
    have q1 := qcell hx 1 (.int .i64 field) rfl
    have q2 := qcell hx 2 (.string text) rfl
    have q5 := qcell hx 5 (.int .i64 n) rfl
    have q6 := qcell hx 6 (.int .u64 weight) rfl
    try simp only [Act.put, Base.s1, Base.s2, Base.s3]
    intro KK hK
    go_simp
    exact hK _ _ hx (Below.refl _ _) rfl
  apply Rel.rel_one2 7 [(5, 17)] rfl (by kernel_rfl) (by kernel_rfl)
  case hs =>
    intro wx hx
    rintro _ rfl
    try simp only [Act.put, Base.s1, Base.s2, Base.s3]
    intro KK hK
    go_simp
    exact hK _ _ hx (Below.refl _ _) rfl
  apply Rel.rel_one2 8 [(6, 18)] rfl (by kernel_rfl) (by kernel_rfl)
  case hs =>
    intro wx hx
    rintro _ rfl
    have q1 := qcell hx 1 (.int .i64 field) rfl
    have q2 := qcell hx 2 (.string text) rfl
    have q5 := qcell hx 5 (.int .i64 n) rfl
    have q6 := qcell hx 6 (.int .u64 weight) rfl
    try simp only [Act.put, Base.s1, Base.s2, Base.s3]
    intro KK hK
    go_simp
    go_at_call 85
    refine (rdigits_int n N0.out N2.out wx).mono ?_
    rintro e wy ⟨rfl, hby⟩
    exact hK _ _ (bchain hx hby) hby rfl
  apply Rel.rel_one2 9 [] rfl (by kernel_rfl) (by kernel_rfl)
  case hs =>
    intro wx hx
    try simp only [Act.put, Base.s1, Base.s2, Base.s3]
    intro KK hK
    go_simp
    exact hK _ _ hx (Below.refl _ _) rfl
  apply Rel.rel_one2 10 [(8, 20)] rfl (by kernel_rfl) (by kernel_rfl)
  case hs =>
    intro wx hx
    rintro _ rfl
    have q1 := qcell hx 1 (.int .i64 field) rfl
    have q2 := qcell hx 2 (.string text) rfl
    have q5 := qcell hx 5 (.int .i64 n) rfl
    have q6 := qcell hx 6 (.int .u64 weight) rfl
    try simp only [Act.put, Base.s1, Base.s2, Base.s3]
    intro KK hK
    go_simp
    exact hK _ _ hx (Below.refl _ _) rfl
  apply Rel.rel_one2 11 [(9, 21)] rfl (by kernel_rfl) (by kernel_rfl)
  case hs =>
    intro wx hx
    rintro _ rfl
    have q1 := qcell hx 1 (.int .i64 field) rfl
    have q2 := qcell hx 2 (.string text) rfl
    have q5 := qcell hx 5 (.int .i64 n) rfl
    have q6 := qcell hx 6 (.int .u64 weight) rfl
    try simp only [Act.put, Base.s1, Base.s2, Base.s3]
    intro KK hK
    go_simp
    go_at_call 85
    refine (rdigits_int weight W0.out W2.out wx).mono ?_
    rintro e wy ⟨rfl, hby⟩
    exact hK _ _ (bchain hx hby) hby rfl
  apply Rel.rel_one2 12 [] rfl (by kernel_rfl) (by kernel_rfl)
  case hs =>
    intro wx hx
    try simp only [Act.put, Base.s1, Base.s2, Base.s3]
    intro KK hK
    go_simp
    exact hK _ _ hx (Below.refl _ _) rfl
  apply Rel.rel_one2 13 [(11, 23)] rfl (by kernel_rfl) (by kernel_rfl)
  case hs =>
    intro wx hx
    rintro _ rfl
    have q1 := qcell hx 1 (.int .i64 field) rfl
    have q2 := qcell hx 2 (.string text) rfl
    have q5 := qcell hx 5 (.int .i64 n) rfl
    have q6 := qcell hx 6 (.int .u64 weight) rfl
    try simp only [Act.put, Base.s1, Base.s2, Base.s3]
    intro KK hK
    go_simp
    exact hK _ _ hx (Below.refl _ _) rfl
  apply Rel.rel_one2 14 [(12, 24)] rfl (by kernel_rfl) (by kernel_rfl)
  case hs =>
    intro wx hx
    rintro _ rfl
    have q1 := qcell hx 1 (.int .i64 field) rfl
    have q2 := qcell hx 2 (.string text) rfl
    have q5 := qcell hx 5 (.int .i64 n) rfl
    have q6 := qcell hx 6 (.int .u64 weight) rfl
    try simp only [Act.put, Base.s1, Base.s2, Base.s3]
    intro KK hK
    go_simp
    go_at_call 86
    refine (rquoted_any text wx (by have := SZ.out; omega)).mono ?_
    rintro e wy ⟨rfl, hby⟩
    exact hK _ _ (bchain hx hby) hby rfl
  apply Rel.rel_one2 15 [(3, 15)] rfl (by kernel_rfl) (by kernel_rfl)
  case hs =>
    intro wx hx
    rintro _ rfl
    try simp only [Act.put, Base.s1, Base.s2, Base.s3]
    intro KK hK
    go_simp
    exact hK _ _ hx (Below.refl _ _) rfl
  apply Rel.rel_one2 16 [(7, 19)] rfl (by kernel_rfl) (by kernel_rfl)
  case hs =>
    intro wx hx
    rintro _ rfl
    try simp only [Act.put, Base.s1, Base.s2, Base.s3]
    intro KK hK
    go_simp
    exact hK _ _ hx (Below.refl _ _) rfl
  apply Rel.rel_one2 17 [(10, 22)] rfl (by kernel_rfl) (by kernel_rfl)
  case hs =>
    intro wx hx
    rintro _ rfl
    try simp only [Act.put, Base.s1, Base.s2, Base.s3]
    intro KK hK
    go_simp
    exact hK _ _ hx (Below.refl _ _) rfl
  apply Rel.rel_one2 18 [(13, 25)] rfl (by kernel_rfl) (by kernel_rfl)
  case hs =>
    intro wx hx
    rintro _ rfl
    try simp only [Act.put, Base.s1, Base.s2, Base.s3]
    intro KK hK
    go_simp
    exact hK _ _ hx (Below.refl _ _) rfl
  refine Rel.rel_end [(0, 12), (1, 13), (2, 14), (3, 15), (4, 16), (5, 17), (6, 18), (7, 19), (8, 20), (9, 21), (10, 22), (11, 23), (12, 24), (13, 25), (14, 3), (15, 4), (16, 5), (17, 6)] (by kernel_rfl) (by kernel_rfl) ?_
  intro w5 hx5
  rintro _ rfl _ rfl _ rfl _ rfl _ rfl _ rfl _ rfl _ rfl _ rfl _ rfl _ rfl _ rfl _ rfl _ rfl _ rfl _ rfl _ rfl _ rfl
  try simp only [Act.put, Base.s1, Base.s2, Base.s3]
  refine Rel.valsD_ret ?_
  have q14 := qcell hx5 14 (.slice A4 ks.length c4) rfl
  generalize hd1 : Lib.decDigits field.toNat = D1 at *
  generalize hd2 : Lib.decDigits n.toNat = D2 at *
  generalize hd3 : Lib.decDigits weight.toNat = D3 at *
  generalize hd4 : quoteL text = D4 at *
  have HD1 := Lib.hid hd1
  have HD2 := Lib.hid hd2
  have HD3 := Lib.hid hd3
  have HD4 := Lib.hid hd4
  clear hd1 hd2 hd3 hd4
  go_wp2_with fail
  go_loopw [29, 7] (fun i u wr => ∃ j : Nat, j ≤ ks.length ∧ i = .int .i64 j ∧ u = .string ⟨(kidsL (ks.take j) occur 0).toArray⟩ ∧ Below W1.heap.size W1 wr) (fun i _ _ => ks.length - (intOf i).toNat)
  case atStart => exact ⟨0, Nat.zero_le _, rfl, rfl, hx5⟩
  case round =>
    obtain ⟨j, hj, rfl, rfl, hbel⟩ := hrel
    have hkl' := HKS.out
    have hkb := HKB.out j hj
    have hb0 := HBK0.out
    have q14' := qcell hbel 14 (.slice A4 ks.length c4) rfl
    have q13' := qcell hbel 13 (.slice A3 occur.length c3) rfl
    have q0' := qcell hbel 0 (.int .i64 12) rfl
    have q13a : ∀ u, (wr.alloc u).cell? ⟨w.heap.size, 13, none⟩ = some (.slice A3 occur.length c3) := fun u => qcell (Below.alloc hbel hbel.size u) 13 (.slice A3 occur.length c3) rfl
    rcases Nat.lt_or_ge j ks.length with hlt | hge
    · obtain ⟨g, o, rfl, hg, hc⟩ := H4.out (by intro h; subst h; simp at hlt)
      obtain ⟨x, hx1⟩ : ∃ x, ks[j]? = some x := ⟨_, List.getElem?_eq_getElem hlt⟩
      have hbw := bchain hbW hbel
      have hq := (H5.out j x hx1).kept hbw hB
      have hbt := bulks_take hx1
      have hxl := HKL.out x (List.mem_of_getElem? hx1)
      obtain ⟨B1, B2, B3, B4, d1, d2, d3, d4, e, x0, x1, x2, x3, x4, x5, x6, x7, x8, x9, x10, x11, x12, x13, x14⟩ := kid_cells hq (fun j' u hu => (hbw.cell (p := ⟨g, o + j * 15 + j', none⟩) (Nat.lt_of_lt_of_le hg hB)).trans (hc j hlt j' u hu))
      have IH2 := Lib.hid (IHK.out j x hx1)
      rw [e] at IH2
      unfold qcells at IH2
      have HKT0 := Lib.hid (kidsL_take (oc := occur) hx1)
      have hlt2 : (j : Int) < 9223372036854775807 := by omega
      have i1 : (j : Int) < (ks.length : Int) := by omega
      have hbx : Below w.heap.size w (wr.alloc (.cells #[.int .i64 x.h.kind, .int .i64 x.h.field, .string x.h.text, .slice B1 x.h.terms.length d1, .slice B2 x.h.offs.length d2, .int .i64 x.h.n, .int .u64 x.h.weight, .bool x.h.lo.op, .bool x.h.lo.inn, .string x.h.lo.text, .bool x.h.hi.op, .bool x.h.hi.inn, .string x.h.hi.text, .slice B3 x.h.occur.length d3, .slice B4 x.kids.length d4] 29)) := Below.alloc hbw (Nat.le_trans hbW.size hbel.size) _
      have HBX := Lib.hid hbx
      have HBL := Lib.hid hbel
      have lK : (kidsL (ks.take j) occur 0).length ≤ 281474976710656 := by omega
      have lX : (lineL x).length ≤ 281474976710656 := by omega
      generalize hKj : kidsL (ks.take j) occur 0 = Kj at *
      have HKJ := Lib.hid hKj
      clear hKj hkb hb0 hbt hxl
      clear hc hq e hx1 hbel hbx hbw
      go_wp2_with (go_at_call 48; refine (IH2.out _ HBX.out).mono ?_; rintro e w6 ⟨rfl, hb6⟩)
      go_roundw
      case rel =>
        refine ⟨j + 1, by omega, by go_num, ?_, bchain (Below.alloc HBL.out HBL.out.size _) hb6⟩
        rw [HKT0.out, HOE.out]
        refine congrArg Value.string ?_
        rw [ba_app _ [32], ba_app _ (lineL x)]; simp [occL]
      case measure => simp [intOf]; omega
    · have hj' : j = ks.length := by omega
      have lK : (kidsL (ks.take j) occur 0).length ≤ 281474976710656 := by
        have : bulks (ks.take j) ≤ bulks ks := by rw [hj', List.take_length]; exact Nat.le_refl _
        omega
      have HO := Lib.hid (show kidsL (ks.take j) occur 0 = kidsL ks occur 0 by rw [hj', List.take_length])
      have i1 : ¬ ((j : Int) < (ks.length : Int)) := by omega
      clear hj' hkb hb0
      generalize kidsL (ks.take j) occur 0 = Kj at *
      go_wp2_with fail
      go_ret
      refine ⟨?_, bchain hbW hbel⟩
      refine congrArg (fun b => Ending.returned (.string b)) ?_
      rw [ba_app [40, 110, 111, 116] Kj, ba_app _ [41], HO.out]
      simp [lineL, bodyL, hasOf, num]

set_option maxHeartbeats 8000000 in
theorem rtext_k13 (hd : Head) (ks : List Qry) (hk : hd.kind = 13) (hw : Hwf hd) (hg : locB 16 false hd ks.length = true) (A1 A2 A3 A4 : Option Addr) (c1 c2 c3 c4 : Nat) (w : World) (B : Nat) (hB : B ≤ w.heap.size) (kc : Nat → List Value) (hks : ks.length ≤ maxLen) (s3 : Slc w w.heap.size A3 (ints hd.occur))
    (h4 : ks ≠ [] → ∃ g o, A4 = some ⟨g, o, none⟩ ∧ g < B ∧ ∀ i, i < ks.length → ∀ j u, (kc i)[j]? = some u → w.cell? ⟨g, o + i * 15 + j, none⟩ = some u) (h5 : ∀ i k, ks[i]? = some k → QVal w B (kc i) k)
    (IH : ∀ i k, ks[i]? = some k → ∀ W, Below w.heap.size w W → Calls Tryz.prog 48 #[.agg (kc i).toArray] W fun e w' => e = .returned (.string ⟨(lineL k).toArray⟩) ∧ Below W.heap.size W w')
    (hkl : ∀ k ∈ ks, (lineL k).length + 4 ≤ 128 * bulk k) (hbk0 : bulk (.mk hd ks) ≤ 1099511627776) :
    Calls Tryz.prog 48 #[.agg (qcells hd ks.length A1 A2 A3 A4 c1 c2 c3 c4)] w fun e w' => e = .returned (.string ⟨(lineL (.mk hd ks)).toArray⟩) ∧ Below w.heap.size w w' := by
  simp only [bulk] at hbk0
  have hbk : hbulk hd ≤ 1099511627776 := by omega
  obtain ⟨hk1, hk2, ok⟩ := ok_of hg
  have hwt := wt_head hw (nk := 0)
  have hbl := body_len (by decide) hg hwt
  have hF := i64_of hw.field
  have hN := i64_of hw.n
  have hW := u64_of hw.weight
  obtain ⟨z1, z2, z3⟩ := bulk_parts hd
  rw [hk] at ok
  obtain ⟨kind, field, text, terms, offs, n, weight, lo, hi, occur⟩ := hd
  simp only at hk hF hN hW z1 z2 z3
  subst hk
  have okn := ok.n0
  have hoe := ok.o0 rfl
  simp only at okn s3 hoe
  have hf0 := f0_of ok
  simp only at hf0
  have hcF : IntKind.u64.wrap field = field := by show field % 18446744073709551616 = field; omega
  have hcN : IntKind.u64.wrap n = n := by show n % 18446744073709551616 = n; omega
  have lF : (Lib.decDigits field.toNat).length ≤ 20 := dd_len (by omega)
  have lN : (Lib.decDigits n.toNat).length ≤ 20 := dd_len (by omega)
  have lW : (Lib.decDigits weight.toNat).length ≤ 20 := dd_len (by omega)
  have lT := quote_len text
  obtain ⟨W1, hW1⟩ : ∃ W, W = w.alloc (.cells (qcells ⟨13, field, text, terms, offs, n, weight, lo, hi, occur⟩ ks.length A1 A2 A3 A4 c1 c2 c3 c4) 29) := ⟨_, rfl⟩
  have K1 : Blk W1 w.heap.size 29 (qcells ⟨13, field, text, terms, offs, n, weight, lo, hi, occur⟩ ks.length A1 A2 A3 A4 c1 c2 c3 c4) := by rw [hW1]; exact Blk.new w _ _
  have hsz : w.heap.size + 1 = W1.heap.size := by rw [hW1]; simp
  have hbW : Below w.heap.size w W1 := by rw [hW1]; (repeat (first | exact Below.refl _ _ | assumption | refine balloc ?_ _ | refine bdrew ?_ | refine bdrewN ?_ _ | refine bchain ?_ (by assumption)))
  have hlt1 : w.heap.size < W1.heap.size := by omega
  have qcell : ∀ {wx : World} (hx : Below W1.heap.size W1 wx) (j : Nat) (u : Value) (_ : (qcells ⟨13, field, text, terms, offs, n, weight, lo, hi, occur⟩ ks.length A1 A2 A3 A4 c1 c2 c3 c4)[j]? = some u), wx.cell? ⟨w.heap.size, j, none⟩ = some u := fun hx j u hu => ((K1.below hx hlt1).cell j).trans hu
  have F0 := Lib.hid hf0
  have F2 := Lib.hid (show field < 18446744073709551616 by omega)
  have N0 := Lib.hid okn
  have N2 := Lib.hid (show n < 18446744073709551616 by omega)
  have W0 := Lib.hid hW.1
  have W2 := Lib.hid hW.2
  have SZ := Lib.hid (show text.size ≤ 1099511627776 by omega)
  have SL := Lib.hid (show lo.text.size ≤ 1099511627776 by omega)
  have SH := Lib.hid (show hi.text.size ≤ 1099511627776 by omega)
  have hts : text.size ≤ 1099511627776 := by omega
  unfold qcells at hW1 ⊢
  have HW := Lib.hid hW1
  clear hW1 hsz hF hN hW z1 z2 z3 okn hf0 hk1 hk2 hwt
  have HKB := Lib.hid (show ∀ j, j ≤ ks.length → (kidsL (ks.take j) occur 0).length ≤ 128 * bulks (ks.take j) from fun j hj => by
    have := kids_len (ks := ks.take j) occur (fun k hk => hkl k (List.mem_of_mem_take hk)) 0
    omega)
  have HKL := Lib.hid hkl
  have HBK0 := Lib.hid hbk0
  have S3 := Lib.hid s3
  have H4 := Lib.hid h4
  have H5 := Lib.hid h5
  have IHK := Lib.hid IH
  have HKS := Lib.hid (show ks.length ≤ 9223372036854775807 from hks)
  have HOE := Lib.hid hoe
  have hol0 : occur.length = 0 := by rw [hoe]; rfl
  have i9 : ¬ ((0 : Int) < (occur.length : Int)) := by omega
  have i8 : ¬ (0 < occur.length) := by omega
  have i7 : decide ((0 : Int) < (occur.length : Int)) = false := decide_eq_false i9
  have i6 : decide (0 < occur.length) = false := decide_eq_false i8
  clear hoe hol0
  clear hbk hbk0 hbl hg ok hw hkl s3 h4 h5 IH hks
  go_enter Tryz.func48, Tryz.ntmps48
  go_upto_region 1 with fail
  rw [← HW.out]
  refine Rel.wp_region_rel (fun wx => Below W1.heap.size W1 wx) (fun wa wb => Below wa.heap.size wa wb) (by kernel_rfl) (by kernel_rfl) (bdrew (Below.refl _ _)) (fun _ => Below.refl _ _) ?_
  apply Rel.rel_one2 1 [] rfl (by kernel_rfl) (by kernel_rfl)
  case hs =>
    intro wx hx
    try simp only [Act.put, Base.s1, Base.s2, Base.s3]
    intro KK hK
    go_simp
    exact hK _ _ hx (Below.refl _ _) rfl
  apply Rel.rel_one2 2 [(0, 12)] rfl (by kernel_rfl) (by kernel_rfl)
  case hs =>
    intro wx hx
    rintro _ rfl
    have q1 := qcell hx 1 (.int .i64 field) rfl
    have q2 := qcell hx 2 (.string text) rfl
    have q5 := qcell hx 5 (.int .i64 n) rfl
    have q6 := qcell hx 6 (.int .u64 weight) rfl
    try simp only [Act.put, Base.s1, Base.s2, Base.s3]
    intro KK hK
    go_simp
    exact hK _ _ hx (Below.refl _ _) rfl
  apply Rel.rel_one2 3 [(1, 13)] rfl (by kernel_rfl) (by kernel_rfl)
  case hs =>
    intro wx hx
    rintro _ rfl
    try simp only [Act.put, Base.s1, Base.s2, Base.s3]
    intro KK hK
    go_simp
    exact hK _ _ hx (Below.refl _ _) rfl
  apply Rel.rel_one2 4 [(2, 14)] rfl (by kernel_rfl) (by kernel_rfl)
  case hs =>
    intro wx hx
    rintro _ rfl
    have q1 := qcell hx 1 (.int .i64 field) rfl
    have q2 := qcell hx 2 (.string text) rfl
    have q5 := qcell hx 5 (.int .i64 n) rfl
    have q6 := qcell hx 6 (.int .u64 weight) rfl
    try simp only [Act.put, Base.s1, Base.s2, Base.s3]
    intro KK hK
    go_simp
    go_at_call 85
    refine (rdigits_int field F0.out F2.out wx).mono ?_
    rintro e wy ⟨rfl, hby⟩
    exact hK _ _ (bchain hx hby) hby rfl
  apply Rel.rel_one2 5 [] rfl (by kernel_rfl) (by kernel_rfl)
  case hs =>
    intro wx hx
    try simp only [Act.put, Base.s1, Base.s2, Base.s3]
    intro KK hK
    go_simp
    exact hK _ _ hx (Below.refl _ _) rfl
  apply Rel.rel_one2 6 [(4, 16)] rfl (by kernel_rfl) (by kernel_rfl)
  case hs =>
    intro wx hx
    rintro _ rfl
    have q1 := qcell hx 1 (.int .i64 field) rfl
    have q2 := qcell hx 2 (.string text) rfl
    have q5 := qcell hx 5 (.int .i64 n) rfl
    have q6 := qcell hx 6 (.int .u64 weight) rfl
    try simp only [Act.put, Base.s1, Base.s2, Base.s3]
    intro KK hK
    go_simp
    exact hK _ _ hx (Below.refl _ _) rfl
  apply Rel.rel_one2 7 [(5, 17)] rfl (by kernel_rfl) (by kernel_rfl)
  case hs =>
    intro wx hx
    rintro _ rfl
    try simp only [Act.put, Base.s1, Base.s2, Base.s3]
    intro KK hK
    go_simp
    exact hK _ _ hx (Below.refl _ _) rfl
  apply Rel.rel_one2 8 [(6, 18)] rfl (by kernel_rfl) (by kernel_rfl)
  case hs =>
    intro wx hx
    rintro _ rfl
    have q1 := qcell hx 1 (.int .i64 field) rfl
    have q2 := qcell hx 2 (.string text) rfl
    have q5 := qcell hx 5 (.int .i64 n) rfl
    have q6 := qcell hx 6 (.int .u64 weight) rfl
    try simp only [Act.put, Base.s1, Base.s2, Base.s3]
    intro KK hK
    go_simp
    go_at_call 85
    refine (rdigits_int n N0.out N2.out wx).mono ?_
    rintro e wy ⟨rfl, hby⟩
    exact hK _ _ (bchain hx hby) hby rfl
  apply Rel.rel_one2 9 [] rfl (by kernel_rfl) (by kernel_rfl)
  case hs =>
    intro wx hx
    try simp only [Act.put, Base.s1, Base.s2, Base.s3]
    intro KK hK
    go_simp
    exact hK _ _ hx (Below.refl _ _) rfl
  apply Rel.rel_one2 10 [(8, 20)] rfl (by kernel_rfl) (by kernel_rfl)
  case hs =>
    intro wx hx
    rintro _ rfl
    have q1 := qcell hx 1 (.int .i64 field) rfl
    have q2 := qcell hx 2 (.string text) rfl
    have q5 := qcell hx 5 (.int .i64 n) rfl
    have q6 := qcell hx 6 (.int .u64 weight) rfl
    try simp only [Act.put, Base.s1, Base.s2, Base.s3]
    intro KK hK
    go_simp
    exact hK _ _ hx (Below.refl _ _) rfl
  apply Rel.rel_one2 11 [(9, 21)] rfl (by kernel_rfl) (by kernel_rfl)
  case hs =>
    intro wx hx
    rintro _ rfl
    have q1 := qcell hx 1 (.int .i64 field) rfl
    have q2 := qcell hx 2 (.string text) rfl
    have q5 := qcell hx 5 (.int .i64 n) rfl
    have q6 := qcell hx 6 (.int .u64 weight) rfl
    try simp only [Act.put, Base.s1, Base.s2, Base.s3]
    intro KK hK
    go_simp
    go_at_call 85
    refine (rdigits_int weight W0.out W2.out wx).mono ?_
    rintro e wy ⟨rfl, hby⟩
    exact hK _ _ (bchain hx hby) hby rfl
  apply Rel.rel_one2 12 [] rfl (by kernel_rfl) (by kernel_rfl)
  case hs =>
    intro wx hx
    try simp only [Act.put, Base.s1, Base.s2, Base.s3]
    intro KK hK
    go_simp
    exact hK _ _ hx (Below.refl _ _) rfl
  apply Rel.rel_one2 13 [(11, 23)] rfl (by kernel_rfl) (by kernel_rfl)
  case hs =>
    intro wx hx
    rintro _ rfl
    have q1 := qcell hx 1 (.int .i64 field) rfl
    have q2 := qcell hx 2 (.string text) rfl
    have q5 := qcell hx 5 (.int .i64 n) rfl
    have q6 := qcell hx 6 (.int .u64 weight) rfl
    try simp only [Act.put, Base.s1, Base.s2, Base.s3]
    intro KK hK
    go_simp
    exact hK _ _ hx (Below.refl _ _) rfl
  apply Rel.rel_one2 14 [(12, 24)] rfl (by kernel_rfl) (by kernel_rfl)
  case hs =>
    intro wx hx
    rintro _ rfl
    have q1 := qcell hx 1 (.int .i64 field) rfl
    have q2 := qcell hx 2 (.string text) rfl
    have q5 := qcell hx 5 (.int .i64 n) rfl
    have q6 := qcell hx 6 (.int .u64 weight) rfl
    try simp only [Act.put, Base.s1, Base.s2, Base.s3]
    intro KK hK
    go_simp
    go_at_call 86
    refine (rquoted_any text wx (by have := SZ.out; omega)).mono ?_
    rintro e wy ⟨rfl, hby⟩
    exact hK _ _ (bchain hx hby) hby rfl
  apply Rel.rel_one2 15 [(3, 15)] rfl (by kernel_rfl) (by kernel_rfl)
  case hs =>
    intro wx hx
    rintro _ rfl
    try simp only [Act.put, Base.s1, Base.s2, Base.s3]
    intro KK hK
    go_simp
    exact hK _ _ hx (Below.refl _ _) rfl
  apply Rel.rel_one2 16 [(7, 19)] rfl (by kernel_rfl) (by kernel_rfl)
  case hs =>
    intro wx hx
    rintro _ rfl
    try simp only [Act.put, Base.s1, Base.s2, Base.s3]
    intro KK hK
    go_simp
    exact hK _ _ hx (Below.refl _ _) rfl
  apply Rel.rel_one2 17 [(10, 22)] rfl (by kernel_rfl) (by kernel_rfl)
  case hs =>
    intro wx hx
    rintro _ rfl
    try simp only [Act.put, Base.s1, Base.s2, Base.s3]
    intro KK hK
    go_simp
    exact hK _ _ hx (Below.refl _ _) rfl
  apply Rel.rel_one2 18 [(13, 25)] rfl (by kernel_rfl) (by kernel_rfl)
  case hs =>
    intro wx hx
    rintro _ rfl
    try simp only [Act.put, Base.s1, Base.s2, Base.s3]
    intro KK hK
    go_simp
    exact hK _ _ hx (Below.refl _ _) rfl
  refine Rel.rel_end [(0, 12), (1, 13), (2, 14), (3, 15), (4, 16), (5, 17), (6, 18), (7, 19), (8, 20), (9, 21), (10, 22), (11, 23), (12, 24), (13, 25), (14, 3), (15, 4), (16, 5), (17, 6)] (by kernel_rfl) (by kernel_rfl) ?_
  intro w5 hx5
  rintro _ rfl _ rfl _ rfl _ rfl _ rfl _ rfl _ rfl _ rfl _ rfl _ rfl _ rfl _ rfl _ rfl _ rfl _ rfl _ rfl _ rfl _ rfl
  try simp only [Act.put, Base.s1, Base.s2, Base.s3]
  refine Rel.valsD_ret ?_
  have q14 := qcell hx5 14 (.slice A4 ks.length c4) rfl
  generalize hd1 : Lib.decDigits field.toNat = D1 at *
  generalize hd2 : Lib.decDigits n.toNat = D2 at *
  generalize hd3 : Lib.decDigits weight.toNat = D3 at *
  generalize hd4 : quoteL text = D4 at *
  have HD1 := Lib.hid hd1
  have HD2 := Lib.hid hd2
  have HD3 := Lib.hid hd3
  have HD4 := Lib.hid hd4
  clear hd1 hd2 hd3 hd4
  go_wp2_with fail
  go_loopw [29, 7] (fun i u wr => ∃ j : Nat, j ≤ ks.length ∧ i = .int .i64 j ∧ u = .string ⟨(kidsL (ks.take j) occur 0).toArray⟩ ∧ Below W1.heap.size W1 wr) (fun i _ _ => ks.length - (intOf i).toNat)
  case atStart => exact ⟨0, Nat.zero_le _, rfl, rfl, hx5⟩
  case round =>
    obtain ⟨j, hj, rfl, rfl, hbel⟩ := hrel
    have hkl' := HKS.out
    have hkb := HKB.out j hj
    have hb0 := HBK0.out
    have q14' := qcell hbel 14 (.slice A4 ks.length c4) rfl
    have q13' := qcell hbel 13 (.slice A3 occur.length c3) rfl
    have q0' := qcell hbel 0 (.int .i64 13) rfl
    have q13a : ∀ u, (wr.alloc u).cell? ⟨w.heap.size, 13, none⟩ = some (.slice A3 occur.length c3) := fun u => qcell (Below.alloc hbel hbel.size u) 13 (.slice A3 occur.length c3) rfl
    rcases Nat.lt_or_ge j ks.length with hlt | hge
    · obtain ⟨g, o, rfl, hg, hc⟩ := H4.out (by intro h; subst h; simp at hlt)
      obtain ⟨x, hx1⟩ : ∃ x, ks[j]? = some x := ⟨_, List.getElem?_eq_getElem hlt⟩
      have hbw := bchain hbW hbel
      have hq := (H5.out j x hx1).kept hbw hB
      have hbt := bulks_take hx1
      have hxl := HKL.out x (List.mem_of_getElem? hx1)
      obtain ⟨B1, B2, B3, B4, d1, d2, d3, d4, e, x0, x1, x2, x3, x4, x5, x6, x7, x8, x9, x10, x11, x12, x13, x14⟩ := kid_cells hq (fun j' u hu => (hbw.cell (p := ⟨g, o + j * 15 + j', none⟩) (Nat.lt_of_lt_of_le hg hB)).trans (hc j hlt j' u hu))
      have IH2 := Lib.hid (IHK.out j x hx1)
      rw [e] at IH2
      unfold qcells at IH2
      have HKT0 := Lib.hid (kidsL_take (oc := occur) hx1)
      have hlt2 : (j : Int) < 9223372036854775807 := by omega
      have i1 : (j : Int) < (ks.length : Int) := by omega
      have hbx : Below w.heap.size w (wr.alloc (.cells #[.int .i64 x.h.kind, .int .i64 x.h.field, .string x.h.text, .slice B1 x.h.terms.length d1, .slice B2 x.h.offs.length d2, .int .i64 x.h.n, .int .u64 x.h.weight, .bool x.h.lo.op, .bool x.h.lo.inn, .string x.h.lo.text, .bool x.h.hi.op, .bool x.h.hi.inn, .string x.h.hi.text, .slice B3 x.h.occur.length d3, .slice B4 x.kids.length d4] 29)) := Below.alloc hbw (Nat.le_trans hbW.size hbel.size) _
      have HBX := Lib.hid hbx
      have HBL := Lib.hid hbel
      have lK : (kidsL (ks.take j) occur 0).length ≤ 281474976710656 := by omega
      have lX : (lineL x).length ≤ 281474976710656 := by omega
      generalize hKj : kidsL (ks.take j) occur 0 = Kj at *
      have HKJ := Lib.hid hKj
      clear hKj hkb hb0 hbt hxl
      clear hc hq e hx1 hbel hbx hbw
      go_wp2_with (go_at_call 48; refine (IH2.out _ HBX.out).mono ?_; rintro e w6 ⟨rfl, hb6⟩)
      go_roundw
      case rel =>
        refine ⟨j + 1, by omega, by go_num, ?_, bchain (Below.alloc HBL.out HBL.out.size _) hb6⟩
        rw [HKT0.out, HOE.out]
        refine congrArg Value.string ?_
        rw [ba_app _ [32], ba_app _ (lineL x)]; simp [occL]
      case measure => simp [intOf]; omega
    · have hj' : j = ks.length := by omega
      have lK : (kidsL (ks.take j) occur 0).length ≤ 281474976710656 := by
        have : bulks (ks.take j) ≤ bulks ks := by rw [hj', List.take_length]; exact Nat.le_refl _
        omega
      have HO := Lib.hid (show kidsL (ks.take j) occur 0 = kidsL ks occur 0 by rw [hj', List.take_length])
      have i1 : ¬ ((j : Int) < (ks.length : Int)) := by omega
      clear hj' hkb hb0
      generalize kidsL (ks.take j) occur 0 = Kj at *
      go_wp2_with fail
      go_ret
      refine ⟨?_, bchain hbW hbel⟩
      refine congrArg (fun b => Ending.returned (.string b)) ?_
      rw [ba_app [40, 98, 111, 111, 115, 116, 32] D3, ba_app _ Kj, ba_app _ [41], HO.out, ← HD3.out]
      simp [lineL, bodyL, hasOf, num]

set_option maxHeartbeats 8000000 in
theorem rtext_k14 (hd : Head) (ks : List Qry) (hk : hd.kind = 14) (hw : Hwf hd) (hg : locB 16 false hd ks.length = true) (A1 A2 A3 A4 : Option Addr) (c1 c2 c3 c4 : Nat) (w : World) (B : Nat) (hB : B ≤ w.heap.size) (kc : Nat → List Value) (hks : ks.length ≤ maxLen) (s3 : Slc w w.heap.size A3 (ints hd.occur))
    (h4 : ks ≠ [] → ∃ g o, A4 = some ⟨g, o, none⟩ ∧ g < B ∧ ∀ i, i < ks.length → ∀ j u, (kc i)[j]? = some u → w.cell? ⟨g, o + i * 15 + j, none⟩ = some u) (h5 : ∀ i k, ks[i]? = some k → QVal w B (kc i) k)
    (IH : ∀ i k, ks[i]? = some k → ∀ W, Below w.heap.size w W → Calls Tryz.prog 48 #[.agg (kc i).toArray] W fun e w' => e = .returned (.string ⟨(lineL k).toArray⟩) ∧ Below W.heap.size W w')
    (hkl : ∀ k ∈ ks, (lineL k).length + 4 ≤ 128 * bulk k) (hbk0 : bulk (.mk hd ks) ≤ 1099511627776) :
    Calls Tryz.prog 48 #[.agg (qcells hd ks.length A1 A2 A3 A4 c1 c2 c3 c4)] w fun e w' => e = .returned (.string ⟨(lineL (.mk hd ks)).toArray⟩) ∧ Below w.heap.size w w' := by
  simp only [bulk] at hbk0
  have hbk : hbulk hd ≤ 1099511627776 := by omega
  obtain ⟨hk1, hk2, ok⟩ := ok_of hg
  have hwt := wt_head hw (nk := 0)
  have hbl := body_len (by decide) hg hwt
  have hF := i64_of hw.field
  have hN := i64_of hw.n
  have hW := u64_of hw.weight
  obtain ⟨z1, z2, z3⟩ := bulk_parts hd
  rw [hk] at ok
  obtain ⟨kind, field, text, terms, offs, n, weight, lo, hi, occur⟩ := hd
  simp only at hk hF hN hW z1 z2 z3
  subst hk
  have okn := ok.n0
  have hoe := ok.o0 rfl
  simp only at okn s3 hoe
  have hf0 := f0_of ok
  simp only at hf0
  have hcF : IntKind.u64.wrap field = field := by show field % 18446744073709551616 = field; omega
  have hcN : IntKind.u64.wrap n = n := by show n % 18446744073709551616 = n; omega
  have lF : (Lib.decDigits field.toNat).length ≤ 20 := dd_len (by omega)
  have lN : (Lib.decDigits n.toNat).length ≤ 20 := dd_len (by omega)
  have lW : (Lib.decDigits weight.toNat).length ≤ 20 := dd_len (by omega)
  have lT := quote_len text
  obtain ⟨W1, hW1⟩ : ∃ W, W = w.alloc (.cells (qcells ⟨14, field, text, terms, offs, n, weight, lo, hi, occur⟩ ks.length A1 A2 A3 A4 c1 c2 c3 c4) 29) := ⟨_, rfl⟩
  have K1 : Blk W1 w.heap.size 29 (qcells ⟨14, field, text, terms, offs, n, weight, lo, hi, occur⟩ ks.length A1 A2 A3 A4 c1 c2 c3 c4) := by rw [hW1]; exact Blk.new w _ _
  have hsz : w.heap.size + 1 = W1.heap.size := by rw [hW1]; simp
  have hbW : Below w.heap.size w W1 := by rw [hW1]; (repeat (first | exact Below.refl _ _ | assumption | refine balloc ?_ _ | refine bdrew ?_ | refine bdrewN ?_ _ | refine bchain ?_ (by assumption)))
  have hlt1 : w.heap.size < W1.heap.size := by omega
  have qcell : ∀ {wx : World} (hx : Below W1.heap.size W1 wx) (j : Nat) (u : Value) (_ : (qcells ⟨14, field, text, terms, offs, n, weight, lo, hi, occur⟩ ks.length A1 A2 A3 A4 c1 c2 c3 c4)[j]? = some u), wx.cell? ⟨w.heap.size, j, none⟩ = some u := fun hx j u hu => ((K1.below hx hlt1).cell j).trans hu
  have F0 := Lib.hid hf0
  have F2 := Lib.hid (show field < 18446744073709551616 by omega)
  have N0 := Lib.hid okn
  have N2 := Lib.hid (show n < 18446744073709551616 by omega)
  have W0 := Lib.hid hW.1
  have W2 := Lib.hid hW.2
  have SZ := Lib.hid (show text.size ≤ 1099511627776 by omega)
  have SL := Lib.hid (show lo.text.size ≤ 1099511627776 by omega)
  have SH := Lib.hid (show hi.text.size ≤ 1099511627776 by omega)
  have hts : text.size ≤ 1099511627776 := by omega
  unfold qcells at hW1 ⊢
  have HW := Lib.hid hW1
  clear hW1 hsz hF hN hW z1 z2 z3 okn hf0 hk1 hk2 hwt
  have HKB := Lib.hid (show ∀ j, j ≤ ks.length → (kidsL (ks.take j) occur 0).length ≤ 128 * bulks (ks.take j) from fun j hj => by
    have := kids_len (ks := ks.take j) occur (fun k hk => hkl k (List.mem_of_mem_take hk)) 0
    omega)
  have HKL := Lib.hid hkl
  have HBK0 := Lib.hid hbk0
  have S3 := Lib.hid s3
  have H4 := Lib.hid h4
  have H5 := Lib.hid h5
  have IHK := Lib.hid IH
  have HKS := Lib.hid (show ks.length ≤ 9223372036854775807 from hks)
  have HOE := Lib.hid hoe
  have hol0 : occur.length = 0 := by rw [hoe]; rfl
  have i9 : ¬ ((0 : Int) < (occur.length : Int)) := by omega
  have i8 : ¬ (0 < occur.length) := by omega
  have i7 : decide ((0 : Int) < (occur.length : Int)) = false := decide_eq_false i9
  have i6 : decide (0 < occur.length) = false := decide_eq_false i8
  clear hoe hol0
  clear hbk hbk0 hbl hg ok hw hkl s3 h4 h5 IH hks
  go_enter Tryz.func48, Tryz.ntmps48
  go_upto_region 1 with fail
  rw [← HW.out]
  refine Rel.wp_region_rel (fun wx => Below W1.heap.size W1 wx) (fun wa wb => Below wa.heap.size wa wb) (by kernel_rfl) (by kernel_rfl) (bdrew (Below.refl _ _)) (fun _ => Below.refl _ _) ?_
  apply Rel.rel_one2 1 [] rfl (by kernel_rfl) (by kernel_rfl)
  case hs =>
    intro wx hx
    try simp only [Act.put, Base.s1, Base.s2, Base.s3]
    intro KK hK
    go_simp
    exact hK _ _ hx (Below.refl _ _) rfl
  apply Rel.rel_one2 2 [(0, 12)] rfl (by kernel_rfl) (by kernel_rfl)
  case hs =>
    intro wx hx
    rintro _ rfl
    have q1 := qcell hx 1 (.int .i64 field) rfl
    have q2 := qcell hx 2 (.string text) rfl
    have q5 := qcell hx 5 (.int .i64 n) rfl
    have q6 := qcell hx 6 (.int .u64 weight) rfl
    try simp only [Act.put, Base.s1, Base.s2, Base.s3]
    intro KK hK
    go_simp
    exact hK _ _ hx (Below.refl _ _) rfl
  apply Rel.rel_one2 3 [(1, 13)] rfl (by kernel_rfl) (by kernel_rfl)
  case hs =>
    intro wx hx
    rintro _ rfl
    try simp only [Act.put, Base.s1, Base.s2, Base.s3]
    intro KK hK
    go_simp
    exact hK _ _ hx (Below.refl _ _) rfl
  apply Rel.rel_one2 4 [(2, 14)] rfl (by kernel_rfl) (by kernel_rfl)
  case hs =>
    intro wx hx
    rintro _ rfl
    have q1 := qcell hx 1 (.int .i64 field) rfl
    have q2 := qcell hx 2 (.string text) rfl
    have q5 := qcell hx 5 (.int .i64 n) rfl
    have q6 := qcell hx 6 (.int .u64 weight) rfl
    try simp only [Act.put, Base.s1, Base.s2, Base.s3]
    intro KK hK
    go_simp
    go_at_call 85
    refine (rdigits_int field F0.out F2.out wx).mono ?_
    rintro e wy ⟨rfl, hby⟩
    exact hK _ _ (bchain hx hby) hby rfl
  apply Rel.rel_one2 5 [] rfl (by kernel_rfl) (by kernel_rfl)
  case hs =>
    intro wx hx
    try simp only [Act.put, Base.s1, Base.s2, Base.s3]
    intro KK hK
    go_simp
    exact hK _ _ hx (Below.refl _ _) rfl
  apply Rel.rel_one2 6 [(4, 16)] rfl (by kernel_rfl) (by kernel_rfl)
  case hs =>
    intro wx hx
    rintro _ rfl
    have q1 := qcell hx 1 (.int .i64 field) rfl
    have q2 := qcell hx 2 (.string text) rfl
    have q5 := qcell hx 5 (.int .i64 n) rfl
    have q6 := qcell hx 6 (.int .u64 weight) rfl
    try simp only [Act.put, Base.s1, Base.s2, Base.s3]
    intro KK hK
    go_simp
    exact hK _ _ hx (Below.refl _ _) rfl
  apply Rel.rel_one2 7 [(5, 17)] rfl (by kernel_rfl) (by kernel_rfl)
  case hs =>
    intro wx hx
    rintro _ rfl
    try simp only [Act.put, Base.s1, Base.s2, Base.s3]
    intro KK hK
    go_simp
    exact hK _ _ hx (Below.refl _ _) rfl
  apply Rel.rel_one2 8 [(6, 18)] rfl (by kernel_rfl) (by kernel_rfl)
  case hs =>
    intro wx hx
    rintro _ rfl
    have q1 := qcell hx 1 (.int .i64 field) rfl
    have q2 := qcell hx 2 (.string text) rfl
    have q5 := qcell hx 5 (.int .i64 n) rfl
    have q6 := qcell hx 6 (.int .u64 weight) rfl
    try simp only [Act.put, Base.s1, Base.s2, Base.s3]
    intro KK hK
    go_simp
    go_at_call 85
    refine (rdigits_int n N0.out N2.out wx).mono ?_
    rintro e wy ⟨rfl, hby⟩
    exact hK _ _ (bchain hx hby) hby rfl
  apply Rel.rel_one2 9 [] rfl (by kernel_rfl) (by kernel_rfl)
  case hs =>
    intro wx hx
    try simp only [Act.put, Base.s1, Base.s2, Base.s3]
    intro KK hK
    go_simp
    exact hK _ _ hx (Below.refl _ _) rfl
  apply Rel.rel_one2 10 [(8, 20)] rfl (by kernel_rfl) (by kernel_rfl)
  case hs =>
    intro wx hx
    rintro _ rfl
    have q1 := qcell hx 1 (.int .i64 field) rfl
    have q2 := qcell hx 2 (.string text) rfl
    have q5 := qcell hx 5 (.int .i64 n) rfl
    have q6 := qcell hx 6 (.int .u64 weight) rfl
    try simp only [Act.put, Base.s1, Base.s2, Base.s3]
    intro KK hK
    go_simp
    exact hK _ _ hx (Below.refl _ _) rfl
  apply Rel.rel_one2 11 [(9, 21)] rfl (by kernel_rfl) (by kernel_rfl)
  case hs =>
    intro wx hx
    rintro _ rfl
    have q1 := qcell hx 1 (.int .i64 field) rfl
    have q2 := qcell hx 2 (.string text) rfl
    have q5 := qcell hx 5 (.int .i64 n) rfl
    have q6 := qcell hx 6 (.int .u64 weight) rfl
    try simp only [Act.put, Base.s1, Base.s2, Base.s3]
    intro KK hK
    go_simp
    go_at_call 85
    refine (rdigits_int weight W0.out W2.out wx).mono ?_
    rintro e wy ⟨rfl, hby⟩
    exact hK _ _ (bchain hx hby) hby rfl
  apply Rel.rel_one2 12 [] rfl (by kernel_rfl) (by kernel_rfl)
  case hs =>
    intro wx hx
    try simp only [Act.put, Base.s1, Base.s2, Base.s3]
    intro KK hK
    go_simp
    exact hK _ _ hx (Below.refl _ _) rfl
  apply Rel.rel_one2 13 [(11, 23)] rfl (by kernel_rfl) (by kernel_rfl)
  case hs =>
    intro wx hx
    rintro _ rfl
    have q1 := qcell hx 1 (.int .i64 field) rfl
    have q2 := qcell hx 2 (.string text) rfl
    have q5 := qcell hx 5 (.int .i64 n) rfl
    have q6 := qcell hx 6 (.int .u64 weight) rfl
    try simp only [Act.put, Base.s1, Base.s2, Base.s3]
    intro KK hK
    go_simp
    exact hK _ _ hx (Below.refl _ _) rfl
  apply Rel.rel_one2 14 [(12, 24)] rfl (by kernel_rfl) (by kernel_rfl)
  case hs =>
    intro wx hx
    rintro _ rfl
    have q1 := qcell hx 1 (.int .i64 field) rfl
    have q2 := qcell hx 2 (.string text) rfl
    have q5 := qcell hx 5 (.int .i64 n) rfl
    have q6 := qcell hx 6 (.int .u64 weight) rfl
    try simp only [Act.put, Base.s1, Base.s2, Base.s3]
    intro KK hK
    go_simp
    go_at_call 86
    refine (rquoted_any text wx (by have := SZ.out; omega)).mono ?_
    rintro e wy ⟨rfl, hby⟩
    exact hK _ _ (bchain hx hby) hby rfl
  apply Rel.rel_one2 15 [(3, 15)] rfl (by kernel_rfl) (by kernel_rfl)
  case hs =>
    intro wx hx
    rintro _ rfl
    try simp only [Act.put, Base.s1, Base.s2, Base.s3]
    intro KK hK
    go_simp
    exact hK _ _ hx (Below.refl _ _) rfl
  apply Rel.rel_one2 16 [(7, 19)] rfl (by kernel_rfl) (by kernel_rfl)
  case hs =>
    intro wx hx
    rintro _ rfl
    try simp only [Act.put, Base.s1, Base.s2, Base.s3]
    intro KK hK
    go_simp
    exact hK _ _ hx (Below.refl _ _) rfl
  apply Rel.rel_one2 17 [(10, 22)] rfl (by kernel_rfl) (by kernel_rfl)
  case hs =>
    intro wx hx
    rintro _ rfl
    try simp only [Act.put, Base.s1, Base.s2, Base.s3]
    intro KK hK
    go_simp
    exact hK _ _ hx (Below.refl _ _) rfl
  apply Rel.rel_one2 18 [(13, 25)] rfl (by kernel_rfl) (by kernel_rfl)
  case hs =>
    intro wx hx
    rintro _ rfl
    try simp only [Act.put, Base.s1, Base.s2, Base.s3]
    intro KK hK
    go_simp
    exact hK _ _ hx (Below.refl _ _) rfl
  refine Rel.rel_end [(0, 12), (1, 13), (2, 14), (3, 15), (4, 16), (5, 17), (6, 18), (7, 19), (8, 20), (9, 21), (10, 22), (11, 23), (12, 24), (13, 25), (14, 3), (15, 4), (16, 5), (17, 6)] (by kernel_rfl) (by kernel_rfl) ?_
  intro w5 hx5
  rintro _ rfl _ rfl _ rfl _ rfl _ rfl _ rfl _ rfl _ rfl _ rfl _ rfl _ rfl _ rfl _ rfl _ rfl _ rfl _ rfl _ rfl _ rfl
  try simp only [Act.put, Base.s1, Base.s2, Base.s3]
  refine Rel.valsD_ret ?_
  have q14 := qcell hx5 14 (.slice A4 ks.length c4) rfl
  generalize hd1 : Lib.decDigits field.toNat = D1 at *
  generalize hd2 : Lib.decDigits n.toNat = D2 at *
  generalize hd3 : Lib.decDigits weight.toNat = D3 at *
  generalize hd4 : quoteL text = D4 at *
  have HD1 := Lib.hid hd1
  have HD2 := Lib.hid hd2
  have HD3 := Lib.hid hd3
  have HD4 := Lib.hid hd4
  clear hd1 hd2 hd3 hd4
  go_wp2_with fail
  go_loopw [29, 7] (fun i u wr => ∃ j : Nat, j ≤ ks.length ∧ i = .int .i64 j ∧ u = .string ⟨(kidsL (ks.take j) occur 0).toArray⟩ ∧ Below W1.heap.size W1 wr) (fun i _ _ => ks.length - (intOf i).toNat)
  case atStart => exact ⟨0, Nat.zero_le _, rfl, rfl, hx5⟩
  case round =>
    obtain ⟨j, hj, rfl, rfl, hbel⟩ := hrel
    have hkl' := HKS.out
    have hkb := HKB.out j hj
    have hb0 := HBK0.out
    have q14' := qcell hbel 14 (.slice A4 ks.length c4) rfl
    have q13' := qcell hbel 13 (.slice A3 occur.length c3) rfl
    have q0' := qcell hbel 0 (.int .i64 14) rfl
    have q13a : ∀ u, (wr.alloc u).cell? ⟨w.heap.size, 13, none⟩ = some (.slice A3 occur.length c3) := fun u => qcell (Below.alloc hbel hbel.size u) 13 (.slice A3 occur.length c3) rfl
    rcases Nat.lt_or_ge j ks.length with hlt | hge
    · obtain ⟨g, o, rfl, hg, hc⟩ := H4.out (by intro h; subst h; simp at hlt)
      obtain ⟨x, hx1⟩ : ∃ x, ks[j]? = some x := ⟨_, List.getElem?_eq_getElem hlt⟩
      have hbw := bchain hbW hbel
      have hq := (H5.out j x hx1).kept hbw hB
      have hbt := bulks_take hx1
      have hxl := HKL.out x (List.mem_of_getElem? hx1)
      obtain ⟨B1, B2, B3, B4, d1, d2, d3, d4, e, x0, x1, x2, x3, x4, x5, x6, x7, x8, x9, x10, x11, x12, x13, x14⟩ := kid_cells hq (fun j' u hu => (hbw.cell (p := ⟨g, o + j * 15 + j', none⟩) (Nat.lt_of_lt_of_le hg hB)).trans (hc j hlt j' u hu))
      have IH2 := Lib.hid (IHK.out j x hx1)
      rw [e] at IH2
      unfold qcells at IH2
      have HKT0 := Lib.hid (kidsL_take (oc := occur) hx1)
      have hlt2 : (j : Int) < 9223372036854775807 := by omega
      have i1 : (j : Int) < (ks.length : Int) := by omega
      have hbx : Below w.heap.size w (wr.alloc (.cells #[.int .i64 x.h.kind, .int .i64 x.h.field, .string x.h.text, .slice B1 x.h.terms.length d1, .slice B2 x.h.offs.length d2, .int .i64 x.h.n, .int .u64 x.h.weight, .bool x.h.lo.op, .bool x.h.lo.inn, .string x.h.lo.text, .bool x.h.hi.op, .bool x.h.hi.inn, .string x.h.hi.text, .slice B3 x.h.occur.length d3, .slice B4 x.kids.length d4] 29)) := Below.alloc hbw (Nat.le_trans hbW.size hbel.size) _
      have HBX := Lib.hid hbx
      have HBL := Lib.hid hbel
      have lK : (kidsL (ks.take j) occur 0).length ≤ 281474976710656 := by omega
      have lX : (lineL x).length ≤ 281474976710656 := by omega
      generalize hKj : kidsL (ks.take j) occur 0 = Kj at *
      have HKJ := Lib.hid hKj
      clear hKj hkb hb0 hbt hxl
      clear hc hq e hx1 hbel hbx hbw
      go_wp2_with (go_at_call 48; refine (IH2.out _ HBX.out).mono ?_; rintro e w6 ⟨rfl, hb6⟩)
      go_roundw
      case rel =>
        refine ⟨j + 1, by omega, by go_num, ?_, bchain (Below.alloc HBL.out HBL.out.size _) hb6⟩
        rw [HKT0.out, HOE.out]
        refine congrArg Value.string ?_
        rw [ba_app _ [32], ba_app _ (lineL x)]; simp [occL]
      case measure => simp [intOf]; omega
    · have hj' : j = ks.length := by omega
      have lK : (kidsL (ks.take j) occur 0).length ≤ 281474976710656 := by
        have : bulks (ks.take j) ≤ bulks ks := by rw [hj', List.take_length]; exact Nat.le_refl _
        omega
      have HO := Lib.hid (show kidsL (ks.take j) occur 0 = kidsL ks occur 0 by rw [hj', List.take_length])
      have i1 : ¬ ((j : Int) < (ks.length : Int)) := by omega
      clear hj' hkb hb0
      generalize kidsL (ks.take j) occur 0 = Kj at *
      go_wp2_with fail
      go_ret
      refine ⟨?_, bchain hbW hbel⟩
      refine congrArg (fun b => Ending.returned (.string b)) ?_
      rw [ba_app [40, 99, 111, 110, 115, 116, 32] D3, ba_app _ Kj, ba_app _ [41], HO.out, ← HD3.out]
      simp [lineL, bodyL, hasOf, num]

end Go.Proofs.YtkcfgcdlnojaeaaGreatDoor.RefText12
