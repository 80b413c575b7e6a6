/-
  The walk of the reference's text over queries of some kinds.
-/
import Derived.Test.YtkcfgcdlnojaeaaGreatDoorDRefQ
import Derived.Test.YtkcfgcdlnojaeaaGreatDoorDRel
import Derived.Test.YtkcfgcdlnojaeaaGreatDoorDLine
set_option linter.unusedVariables false
set_option linter.unusedSimpArgs false
namespace Go.Proofs.YtkcfgcdlnojaeaaGreatDoor.RefText1
set_option maxRecDepth 100000
open Go.RowKit Go.PlainAid Base Query QrySize BindBase Bytes Digits Quoted QuoteAll NumAll Rel Relb RelbT TextPlain TextLine TextOne LineBase LineLeaf RefQuote RefDigits StrAdd

theorem rdigits_int (x : Int) (h0 : 0 ≤ x) (h1 : x < 18446744073709551616) (w : World) : Calls Tryz.prog 85 #[.int .u64 x] w fun e w' => e = .returned (.string ⟨(Lib.decDigits x.toNat).toArray⟩) ∧ Below w.heap.size w w' := by
  obtain ⟨n, rfl⟩ : ∃ n : Nat, x = n := ⟨x.toNat, (Int.toNat_of_nonneg h0).symm⟩
  exact rdigits_any n w (by omega)

set_option maxHeartbeats 4000000 in
theorem rtext_k1 (hd : Head) (hk : hd.kind = 1) (hw : Hwf hd) (hg : locB 16 false hd 0 = true) (A1 A2 A3 A4 : Option Addr) (c1 c2 c3 c4 : Nat) (w : World) (hbk : hbulk hd ≤ 1099511627776) :
    Calls Tryz.prog 48 #[.agg (qcells hd 0 A1 A2 A3 A4 c1 c2 c3 c4)] w fun e w' => e = .returned (.string ⟨(lineL (.mk hd [])).toArray⟩) ∧ Below w.heap.size w w' := by
  obtain ⟨hk1, hk2, ok⟩ := ok_of hg
  have hwt := wt_head hw (nk := 0)
  have hbl := body_len (by decide) hg hwt
  have hF := i64_of hw.field
  have hN := i64_of hw.n
  have hW := u64_of hw.weight
  obtain ⟨z1, z2, z3⟩ := bulk_parts hd
  rw [hk] at ok
  obtain ⟨kind, field, text, terms, offs, n, weight, lo, hi, occur⟩ := hd
  simp only at hk hF hN hW z1 z2 z3
  subst hk
  have okn := ok.n0
  simp only at okn
  have hf0 := f0_of ok
  simp only at hf0
  have hcF : IntKind.u64.wrap field = field := by show field % 18446744073709551616 = field; omega
  have hcN : IntKind.u64.wrap n = n := by show n % 18446744073709551616 = n; omega
  have lF : (Lib.decDigits field.toNat).length ≤ 20 := dd_len (by omega)
  have lN : (Lib.decDigits n.toNat).length ≤ 20 := dd_len (by omega)
  have lW : (Lib.decDigits weight.toNat).length ≤ 20 := dd_len (by omega)
  have lT := quote_len text
  obtain ⟨W1, hW1⟩ : ∃ W, W = w.alloc (.cells (qcells ⟨1, field, text, terms, offs, n, weight, lo, hi, occur⟩ 0 A1 A2 A3 A4 c1 c2 c3 c4) 29) := ⟨_, rfl⟩
  have K1 : Blk W1 w.heap.size 29 (qcells ⟨1, field, text, terms, offs, n, weight, lo, hi, occur⟩ 0 A1 A2 A3 A4 c1 c2 c3 c4) := by rw [hW1]; exact Blk.new w _ _
  have hsz : w.heap.size + 1 = W1.heap.size := by rw [hW1]; simp
  have hbW : Below w.heap.size w W1 := by rw [hW1]; (repeat (first | exact Below.refl _ _ | assumption | refine balloc ?_ _ | refine bdrew ?_ | refine bdrewN ?_ _ | refine bchain ?_ (by assumption)))
  have hlt1 : w.heap.size < W1.heap.size := by omega
  have qcell : ∀ {wx : World} (hx : Below W1.heap.size W1 wx) (j : Nat) (u : Value) (_ : (qcells ⟨1, field, text, terms, offs, n, weight, lo, hi, occur⟩ 0 A1 A2 A3 A4 c1 c2 c3 c4)[j]? = some u), wx.cell? ⟨w.heap.size, j, none⟩ = some u := fun hx j u hu => ((K1.below hx hlt1).cell j).trans hu
  have F0 := Lib.hid hf0
  have F2 := Lib.hid (show field < 18446744073709551616 by omega)
  have N0 := Lib.hid okn
  have N2 := Lib.hid (show n < 18446744073709551616 by omega)
  have W0 := Lib.hid hW.1
  have W2 := Lib.hid hW.2
  have SZ := Lib.hid (show text.size ≤ 1099511627776 by omega)
  have SL := Lib.hid (show lo.text.size ≤ 1099511627776 by omega)
  have SH := Lib.hid (show hi.text.size ≤ 1099511627776 by omega)
  have hts : text.size ≤ 1099511627776 := by omega
  unfold qcells at hW1 ⊢
  have HW := Lib.hid hW1
  clear hW1 hsz hF hN hW z1 z2 z3 okn hf0 hk1 hk2 hwt
  have HL := Lib.hid (show lineL (.mk ⟨1, field, text, terms, offs, n, weight, lo, hi, occur⟩ []) = lineL (.mk ⟨1, field, text, terms, offs, n, weight, lo, hi, occur⟩ []) from rfl)
  clear hbk hbl hg ok hw
  go_enter Tryz.func48, Tryz.ntmps48
  go_upto_region 1 with fail
  rw [← HW.out]
  refine Rel.wp_region_rel (fun wx => Below W1.heap.size W1 wx) (fun wa wb => Below wa.heap.size wa wb) (by kernel_rfl) (by kernel_rfl) (bdrew (Below.refl _ _)) (fun _ => Below.refl _ _) ?_
  apply Rel.rel_one2 1 [] rfl (by kernel_rfl) (by kernel_rfl)
  case hs =>
    intro wx hx
    try simp only [Act.put, Base.s1, Base.s2, Base.s3]
    intro KK hK
    go_simp
    exact hK _ _ hx (Below.refl _ _) rfl
  apply Rel.rel_one2 2 [(0, 12)] rfl (by kernel_rfl) (by kernel_rfl)
  case hs =>
    intro wx hx
    rintro _ rfl
    have q1 := qcell hx 1 (.int .i64 field) rfl
    have q2 := qcell hx 2 (.string text) rfl
    have q5 := qcell hx 5 (.int .i64 n) rfl
    have q6 := qcell hx 6 (.int .u64 weight) rfl
    try simp only [Act.put, Base.s1, Base.s2, Base.s3]
    intro KK hK
    go_simp
    exact hK _ _ hx (Below.refl _ _) rfl
  apply Rel.rel_one2 3 [(1, 13)] rfl (by kernel_rfl) (by kernel_rfl)
  case hs =>
    intro wx hx
    rintro _ rfl
    try simp only [Act.put, Base.s1, Base.s2, Base.s3]
    intro KK hK
    go_simp
    exact hK _ _ hx (Below.refl _ _) rfl
  apply Rel.rel_one2 4 [(2, 14)] rfl (by kernel_rfl) (by kernel_rfl)
  case hs =>
    intro wx hx
    rintro _ rfl
    have q1 := qcell hx 1 (.int .i64 field) rfl
    have q2 := qcell hx 2 (.string text) rfl
    have q5 := qcell hx 5 (.int .i64 n) rfl
    have q6 := qcell hx 6 (.int .u64 weight) rfl
    try simp only [Act.put, Base.s1, Base.s2, Base.s3]
    intro KK hK
    go_simp
    go_at_call 85
    refine (rdigits_int field F0.out F2.out wx).mono ?_
    rintro e wy ⟨rfl, hby⟩
    exact hK _ _ (bchain hx hby) hby rfl
  apply Rel.rel_one2 5 [] rfl (by kernel_rfl) (by kernel_rfl)
  case hs =>
    intro wx hx
    try simp only [Act.put, Base.s1, Base.s2, Base.s3]
    intro KK hK
    go_simp
    exact hK _ _ hx (Below.refl _ _) rfl
  apply Rel.rel_one2 6 [(4, 16)] rfl (by kernel_rfl) (by kernel_rfl)
  case hs =>
    intro wx hx
    rintro _ rfl
    have q1 := qcell hx 1 (.int .i64 field) rfl
    have q2 := qcell hx 2 (.string text) rfl
    have q5 := qcell hx 5 (.int .i64 n) rfl
    have q6 := qcell hx 6 (.int .u64 weight) rfl
    try simp only [Act.put, Base.s1, Base.s2, Base.s3]
    intro KK hK
    go_simp
    exact hK _ _ hx (Below.refl _ _) rfl
  apply Rel.rel_one2 7 [(5, 17)] rfl (by kernel_rfl) (by kernel_rfl)
  case hs =>
    intro wx hx
    rintro _ rfl
    try simp only [Act.put, Base.s1, Base.s2, Base.s3]
    intro KK hK
    go_simp
    exact hK _ _ hx (Below.refl _ _) rfl
  apply Rel.rel_one2 8 [(6, 18)] rfl (by kernel_rfl) (by kernel_rfl)
  case hs =>
    intro wx hx
    rintro _ rfl
    have q1 := qcell hx 1 (.int .i64 field) rfl
    have q2 := qcell hx 2 (.string text) rfl
    have q5 := qcell hx 5 (.int .i64 n) rfl
    have q6 := qcell hx 6 (.int .u64 weight) rfl
    try simp only [Act.put, Base.s1, Base.s2, Base.s3]
    intro KK hK
    go_simp
    go_at_call 85
    refine (rdigits_int n N0.out N2.out wx).mono ?_
    rintro e wy ⟨rfl, hby⟩
    exact hK _ _ (bchain hx hby) hby rfl
  apply Rel.rel_one2 9 [] rfl (by kernel_rfl) (by kernel_rfl)
  case hs =>
    intro wx hx
    try simp only [Act.put, Base.s1, Base.s2, Base.s3]
    intro KK hK
    go_simp
    exact hK _ _ hx (Below.refl _ _) rfl
  apply Rel.rel_one2 10 [(8, 20)] rfl (by kernel_rfl) (by kernel_rfl)
  case hs =>
    intro wx hx
    rintro _ rfl
    have q1 := qcell hx 1 (.int .i64 field) rfl
    have q2 := qcell hx 2 (.string text) rfl
    have q5 := qcell hx 5 (.int .i64 n) rfl
    have q6 := qcell hx 6 (.int .u64 weight) rfl
    try simp only [Act.put, Base.s1, Base.s2, Base.s3]
    intro KK hK
    go_simp
    exact hK _ _ hx (Below.refl _ _) rfl
  apply Rel.rel_one2 11 [(9, 21)] rfl (by kernel_rfl) (by kernel_rfl)
  case hs =>
    intro wx hx
    rintro _ rfl
    have q1 := qcell hx 1 (.int .i64 field) rfl
    have q2 := qcell hx 2 (.string text) rfl
    have q5 := qcell hx 5 (.int .i64 n) rfl
    have q6 := qcell hx 6 (.int .u64 weight) rfl
    try simp only [Act.put, Base.s1, Base.s2, Base.s3]
    intro KK hK
    go_simp
    go_at_call 85
    refine (rdigits_int weight W0.out W2.out wx).mono ?_
    rintro e wy ⟨rfl, hby⟩
    exact hK _ _ (bchain hx hby) hby rfl
  apply Rel.rel_one2 12 [] rfl (by kernel_rfl) (by kernel_rfl)
  case hs =>
    intro wx hx
    try simp only [Act.put, Base.s1, Base.s2, Base.s3]
    intro KK hK
    go_simp
    exact hK _ _ hx (Below.refl _ _) rfl
  apply Rel.rel_one2 13 [(11, 23)] rfl (by kernel_rfl) (by kernel_rfl)
  case hs =>
    intro wx hx
    rintro _ rfl
    have q1 := qcell hx 1 (.int .i64 field) rfl
    have q2 := qcell hx 2 (.string text) rfl
    have q5 := qcell hx 5 (.int .i64 n) rfl
    have q6 := qcell hx 6 (.int .u64 weight) rfl
    try simp only [Act.put, Base.s1, Base.s2, Base.s3]
    intro KK hK
    go_simp
    exact hK _ _ hx (Below.refl _ _) rfl
  apply Rel.rel_one2 14 [(12, 24)] rfl (by kernel_rfl) (by kernel_rfl)
  case hs =>
    intro wx hx
    rintro _ rfl
    have q1 := qcell hx 1 (.int .i64 field) rfl
    have q2 := qcell hx 2 (.string text) rfl
    have q5 := qcell hx 5 (.int .i64 n) rfl
    have q6 := qcell hx 6 (.int .u64 weight) rfl
    try simp only [Act.put, Base.s1, Base.s2, Base.s3]
    intro KK hK
    go_simp
    go_at_call 86
    refine (rquoted_any text wx (by have := SZ.out; omega)).mono ?_
    rintro e wy ⟨rfl, hby⟩
    exact hK _ _ (bchain hx hby) hby rfl
  apply Rel.rel_one2 15 [(3, 15)] rfl (by kernel_rfl) (by kernel_rfl)
  case hs =>
    intro wx hx
    rintro _ rfl
    try simp only [Act.put, Base.s1, Base.s2, Base.s3]
    intro KK hK
    go_simp
    exact hK _ _ hx (Below.refl _ _) rfl
  apply Rel.rel_one2 16 [(7, 19)] rfl (by kernel_rfl) (by kernel_rfl)
  case hs =>
    intro wx hx
    rintro _ rfl
    try simp only [Act.put, Base.s1, Base.s2, Base.s3]
    intro KK hK
    go_simp
    exact hK _ _ hx (Below.refl _ _) rfl
  apply Rel.rel_one2 17 [(10, 22)] rfl (by kernel_rfl) (by kernel_rfl)
  case hs =>
    intro wx hx
    rintro _ rfl
    try simp only [Act.put, Base.s1, Base.s2, Base.s3]
    intro KK hK
    go_simp
    exact hK _ _ hx (Below.refl _ _) rfl
  apply Rel.rel_one2 18 [(13, 25)] rfl (by kernel_rfl) (by kernel_rfl)
  case hs =>
    intro wx hx
    rintro _ rfl
    try simp only [Act.put, Base.s1, Base.s2, Base.s3]
    intro KK hK
    go_simp
    exact hK _ _ hx (Below.refl _ _) rfl
  refine Rel.rel_end [(0, 12), (1, 13), (2, 14), (3, 15), (4, 16), (5, 17), (6, 18), (7, 19), (8, 20), (9, 21), (10, 22), (11, 23), (12, 24), (13, 25), (14, 3), (15, 4), (16, 5), (17, 6)] (by kernel_rfl) (by kernel_rfl) ?_
  intro wx hx
  rintro _ rfl _ rfl _ rfl _ rfl _ rfl _ rfl _ rfl _ rfl _ rfl _ rfl _ rfl _ rfl _ rfl _ rfl _ rfl _ rfl _ rfl _ rfl
  try simp only [Act.put, Base.s1, Base.s2, Base.s3]
  refine Rel.valsD_ret ?_
  have q14 := qcell hx 14 (.slice A4 0 c4) rfl
  have q0 := qcell hx 0 (.int .i64 1) rfl
  generalize hd1 : Lib.decDigits field.toNat = D1 at *
  generalize hd2 : Lib.decDigits n.toNat = D2 at *
  generalize hd3 : Lib.decDigits weight.toNat = D3 at *
  generalize hd4 : quoteL text = D4 at *
  have HD1 := Lib.hid hd1
  have HD2 := Lib.hid hd2
  have HD3 := Lib.hid hd3
  have HD4 := Lib.hid hd4
  clear hd1 hd2 hd3 hd4
  go_wp2_with fail
  refine wp_loop_rounds 1 ?_
  rw [rounds_succ]
  go_wp2_with (refine wpList_sadd (by rfl) (by rfl) (by simp only [List.length_append, List.length_cons, List.length_nil]; omega) ?_)
  go_ret
  refine ⟨congrArg (fun l : List UInt8 => Ending.returned (.string ⟨l.toArray⟩)) ?_, bchain hbW hx⟩
  simp [lineL, bodyL, kidsL, hasOf, num]

set_option maxHeartbeats 4000000 in
theorem rtext_k2 (hd : Head) (hk : hd.kind = 2) (hw : Hwf hd) (hg : locB 16 false hd 0 = true) (A1 A2 A3 A4 : Option Addr) (c1 c2 c3 c4 : Nat) (w : World) (hbk : hbulk hd ≤ 1099511627776) :
    Calls Tryz.prog 48 #[.agg (qcells hd 0 A1 A2 A3 A4 c1 c2 c3 c4)] w fun e w' => e = .returned (.string ⟨(lineL (.mk hd [])).toArray⟩) ∧ Below w.heap.size w w' := by
  obtain ⟨hk1, hk2, ok⟩ := ok_of hg
  have hwt := wt_head hw (nk := 0)
  have hbl := body_len (by decide) hg hwt
  have hF := i64_of hw.field
  have hN := i64_of hw.n
  have hW := u64_of hw.weight
  obtain ⟨z1, z2, z3⟩ := bulk_parts hd
  rw [hk] at ok
  obtain ⟨kind, field, text, terms, offs, n, weight, lo, hi, occur⟩ := hd
  simp only at hk hF hN hW z1 z2 z3
  subst hk
  have okn := ok.n0
  simp only at okn
  have hf0 := f0_of ok
  simp only at hf0
  have hcF : IntKind.u64.wrap field = field := by show field % 18446744073709551616 = field; omega
  have hcN : IntKind.u64.wrap n = n := by show n % 18446744073709551616 = n; omega
  have lF : (Lib.decDigits field.toNat).length ≤ 20 := dd_len (by omega)
  have lN : (Lib.decDigits n.toNat).length ≤ 20 := dd_len (by omega)
  have lW : (Lib.decDigits weight.toNat).length ≤ 20 := dd_len (by omega)
  have lT := quote_len text
  obtain ⟨W1, hW1⟩ : ∃ W, W = w.alloc (.cells (qcells ⟨2, field, text, terms, offs, n, weight, lo, hi, occur⟩ 0 A1 A2 A3 A4 c1 c2 c3 c4) 29) := ⟨_, rfl⟩
  have K1 : Blk W1 w.heap.size 29 (qcells ⟨2, field, text, terms, offs, n, weight, lo, hi, occur⟩ 0 A1 A2 A3 A4 c1 c2 c3 c4) := by rw [hW1]; exact Blk.new w _ _
  have hsz : w.heap.size + 1 = W1.heap.size := by rw [hW1]; simp
  have hbW : Below w.heap.size w W1 := by rw [hW1]; (repeat (first | exact Below.refl _ _ | assumption | refine balloc ?_ _ | refine bdrew ?_ | refine bdrewN ?_ _ | refine bchain ?_ (by assumption)))
  have hlt1 : w.heap.size < W1.heap.size := by omega
  have qcell : ∀ {wx : World} (hx : Below W1.heap.size W1 wx) (j : Nat) (u : Value) (_ : (qcells ⟨2, field, text, terms, offs, n, weight, lo, hi, occur⟩ 0 A1 A2 A3 A4 c1 c2 c3 c4)[j]? = some u), wx.cell? ⟨w.heap.size, j, none⟩ = some u := fun hx j u hu => ((K1.below hx hlt1).cell j).trans hu
  have F0 := Lib.hid hf0
  have F2 := Lib.hid (show field < 18446744073709551616 by omega)
  have N0 := Lib.hid okn
  have N2 := Lib.hid (show n < 18446744073709551616 by omega)
  have W0 := Lib.hid hW.1
  have W2 := Lib.hid hW.2
  have SZ := Lib.hid (show text.size ≤ 1099511627776 by omega)
  have SL := Lib.hid (show lo.text.size ≤ 1099511627776 by omega)
  have SH := Lib.hid (show hi.text.size ≤ 1099511627776 by omega)
  have hts : text.size ≤ 1099511627776 := by omega
  unfold qcells at hW1 ⊢
  have HW := Lib.hid hW1
  clear hW1 hsz hF hN hW z1 z2 z3 okn hf0 hk1 hk2 hwt
  have HL := Lib.hid (show lineL (.mk ⟨2, field, text, terms, offs, n, weight, lo, hi, occur⟩ []) = lineL (.mk ⟨2, field, text, terms, offs, n, weight, lo, hi, occur⟩ []) from rfl)
  clear hbk hbl hg ok hw
  go_enter Tryz.func48, Tryz.ntmps48
  go_upto_region 1 with fail
  rw [← HW.out]
  refine Rel.wp_region_rel (fun wx => Below W1.heap.size W1 wx) (fun wa wb => Below wa.heap.size wa wb) (by kernel_rfl) (by kernel_rfl) (bdrew (Below.refl _ _)) (fun _ => Below.refl _ _) ?_
  apply Rel.rel_one2 1 [] rfl (by kernel_rfl) (by kernel_rfl)
  case hs =>
    intro wx hx
    try simp only [Act.put, Base.s1, Base.s2, Base.s3]
    intro KK hK
    go_simp
    exact hK _ _ hx (Below.refl _ _) rfl
  apply Rel.rel_one2 2 [(0, 12)] rfl (by kernel_rfl) (by kernel_rfl)
  case hs =>
    intro wx hx
    rintro _ rfl
    have q1 := qcell hx 1 (.int .i64 field) rfl
    have q2 := qcell hx 2 (.string text) rfl
    have q5 := qcell hx 5 (.int .i64 n) rfl
    have q6 := qcell hx 6 (.int .u64 weight) rfl
    try simp only [Act.put, Base.s1, Base.s2, Base.s3]
    intro KK hK
    go_simp
    exact hK _ _ hx (Below.refl _ _) rfl
  apply Rel.rel_one2 3 [(1, 13)] rfl (by kernel_rfl) (by kernel_rfl)
  case hs =>
    intro wx hx
    rintro _ rfl
    try simp only [Act.put, Base.s1, Base.s2, Base.s3]
    intro KK hK
    go_simp
    exact hK _ _ hx (Below.refl _ _) rfl
  apply Rel.rel_one2 4 [(2, 14)] rfl (by kernel_rfl) (by kernel_rfl)
  case hs =>
    intro wx hx
    rintro _ rfl
    have q1 := qcell hx 1 (.int .i64 field) rfl
    have q2 := qcell hx 2 (.string text) rfl
    have q5 := qcell hx 5 (.int .i64 n) rfl
    have q6 := qcell hx 6 (.int .u64 weight) rfl
    try simp only [Act.put, Base.s1, Base.s2, Base.s3]
    intro KK hK
    go_simp
    go_at_call 85
    refine (rdigits_int field F0.out F2.out wx).mono ?_
    rintro e wy ⟨rfl, hby⟩
    exact hK _ _ (bchain hx hby) hby rfl
  apply Rel.rel_one2 5 [] rfl (by kernel_rfl) (by kernel_rfl)
  case hs =>
    intro wx hx
    try simp only [Act.put, Base.s1, Base.s2, Base.s3]
    intro KK hK
    go_simp
    exact hK _ _ hx (Below.refl _ _) rfl
  apply Rel.rel_one2 6 [(4, 16)] rfl (by kernel_rfl) (by kernel_rfl)
  case hs =>
    intro wx hx
    rintro _ rfl
    have q1 := qcell hx 1 (.int .i64 field) rfl
    have q2 := qcell hx 2 (.string text) rfl
    have q5 := qcell hx 5 (.int .i64 n) rfl
    have q6 := qcell hx 6 (.int .u64 weight) rfl
    try simp only [Act.put, Base.s1, Base.s2, Base.s3]
    intro KK hK
    go_simp
    exact hK _ _ hx (Below.refl _ _) rfl
  apply Rel.rel_one2 7 [(5, 17)] rfl (by kernel_rfl) (by kernel_rfl)
  case hs =>
    intro wx hx
    rintro _ rfl
    try simp only [Act.put, Base.s1, Base.s2, Base.s3]
    intro KK hK
    go_simp
    exact hK _ _ hx (Below.refl _ _) rfl
  apply Rel.rel_one2 8 [(6, 18)] rfl (by kernel_rfl) (by kernel_rfl)
  case hs =>
    intro wx hx
    rintro _ rfl
    have q1 := qcell hx 1 (.int .i64 field) rfl
    have q2 := qcell hx 2 (.string text) rfl
    have q5 := qcell hx 5 (.int .i64 n) rfl
    have q6 := qcell hx 6 (.int .u64 weight) rfl
    try simp only [Act.put, Base.s1, Base.s2, Base.s3]
    intro KK hK
    go_simp
    go_at_call 85
    refine (rdigits_int n N0.out N2.out wx).mono ?_
    rintro e wy ⟨rfl, hby⟩
    exact hK _ _ (bchain hx hby) hby rfl
  apply Rel.rel_one2 9 [] rfl (by kernel_rfl) (by kernel_rfl)
  case hs =>
    intro wx hx
    try simp only [Act.put, Base.s1, Base.s2, Base.s3]
    intro KK hK
    go_simp
    exact hK _ _ hx (Below.refl _ _) rfl
  apply Rel.rel_one2 10 [(8, 20)] rfl (by kernel_rfl) (by kernel_rfl)
  case hs =>
    intro wx hx
    rintro _ rfl
    have q1 := qcell hx 1 (.int .i64 field) rfl
    have q2 := qcell hx 2 (.string text) rfl
    have q5 := qcell hx 5 (.int .i64 n) rfl
    have q6 := qcell hx 6 (.int .u64 weight) rfl
    try simp only [Act.put, Base.s1, Base.s2, Base.s3]
    intro KK hK
    go_simp
    exact hK _ _ hx (Below.refl _ _) rfl
  apply Rel.rel_one2 11 [(9, 21)] rfl (by kernel_rfl) (by kernel_rfl)
  case hs =>
    intro wx hx
    rintro _ rfl
    have q1 := qcell hx 1 (.int .i64 field) rfl
    have q2 := qcell hx 2 (.string text) rfl
    have q5 := qcell hx 5 (.int .i64 n) rfl
    have q6 := qcell hx 6 (.int .u64 weight) rfl
    try simp only [Act.put, Base.s1, Base.s2, Base.s3]
    intro KK hK
    go_simp
    go_at_call 85
    refine (rdigits_int weight W0.out W2.out wx).mono ?_
    rintro e wy ⟨rfl, hby⟩
    exact hK _ _ (bchain hx hby) hby rfl
  apply Rel.rel_one2 12 [] rfl (by kernel_rfl) (by kernel_rfl)
  case hs =>
    intro wx hx
    try simp only [Act.put, Base.s1, Base.s2, Base.s3]
    intro KK hK
    go_simp
    exact hK _ _ hx (Below.refl _ _) rfl
  apply Rel.rel_one2 13 [(11, 23)] rfl (by kernel_rfl) (by kernel_rfl)
  case hs =>
    intro wx hx
    rintro _ rfl
    have q1 := qcell hx 1 (.int .i64 field) rfl
    have q2 := qcell hx 2 (.string text) rfl
    have q5 := qcell hx 5 (.int .i64 n) rfl
    have q6 := qcell hx 6 (.int .u64 weight) rfl
    try simp only [Act.put, Base.s1, Base.s2, Base.s3]
    intro KK hK
    go_simp
    exact hK _ _ hx (Below.refl _ _) rfl
  apply Rel.rel_one2 14 [(12, 24)] rfl (by kernel_rfl) (by kernel_rfl)
  case hs =>
    intro wx hx
    rintro _ rfl
    have q1 := qcell hx 1 (.int .i64 field) rfl
    have q2 := qcell hx 2 (.string text) rfl
    have q5 := qcell hx 5 (.int .i64 n) rfl
    have q6 := qcell hx 6 (.int .u64 weight) rfl
    try simp only [Act.put, Base.s1, Base.s2, Base.s3]
    intro KK hK
    go_simp
    go_at_call 86
    refine (rquoted_any text wx (by have := SZ.out; omega)).mono ?_
    rintro e wy ⟨rfl, hby⟩
    exact hK _ _ (bchain hx hby) hby rfl
  apply Rel.rel_one2 15 [(3, 15)] rfl (by kernel_rfl) (by kernel_rfl)
  case hs =>
    intro wx hx
    rintro _ rfl
    try simp only [Act.put, Base.s1, Base.s2, Base.s3]
    intro KK hK
    go_simp
    exact hK _ _ hx (Below.refl _ _) rfl
  apply Rel.rel_one2 16 [(7, 19)] rfl (by kernel_rfl) (by kernel_rfl)
  case hs =>
    intro wx hx
    rintro _ rfl
    try simp only [Act.put, Base.s1, Base.s2, Base.s3]
    intro KK hK
    go_simp
    exact hK _ _ hx (Below.refl _ _) rfl
  apply Rel.rel_one2 17 [(10, 22)] rfl (by kernel_rfl) (by kernel_rfl)
  case hs =>
    intro wx hx
    rintro _ rfl
    try simp only [Act.put, Base.s1, Base.s2, Base.s3]
    intro KK hK
    go_simp
    exact hK _ _ hx (Below.refl _ _) rfl
  apply Rel.rel_one2 18 [(13, 25)] rfl (by kernel_rfl) (by kernel_rfl)
  case hs =>
    intro wx hx
    rintro _ rfl
    try simp only [Act.put, Base.s1, Base.s2, Base.s3]
    intro KK hK
    go_simp
    exact hK _ _ hx (Below.refl _ _) rfl
  refine Rel.rel_end [(0, 12), (1, 13), (2, 14), (3, 15), (4, 16), (5, 17), (6, 18), (7, 19), (8, 20), (9, 21), (10, 22), (11, 23), (12, 24), (13, 25), (14, 3), (15, 4), (16, 5), (17, 6)] (by kernel_rfl) (by kernel_rfl) ?_
  intro wx hx
  rintro _ rfl _ rfl _ rfl _ rfl _ rfl _ rfl _ rfl _ rfl _ rfl _ rfl _ rfl _ rfl _ rfl _ rfl _ rfl _ rfl _ rfl _ rfl
  try simp only [Act.put, Base.s1, Base.s2, Base.s3]
  refine Rel.valsD_ret ?_
  have q14 := qcell hx 14 (.slice A4 0 c4) rfl
  have q0 := qcell hx 0 (.int .i64 2) rfl
  generalize hd1 : Lib.decDigits field.toNat = D1 at *
  generalize hd2 : Lib.decDigits n.toNat = D2 at *
  generalize hd3 : Lib.decDigits weight.toNat = D3 at *
  generalize hd4 : quoteL text = D4 at *
  have HD1 := Lib.hid hd1
  have HD2 := Lib.hid hd2
  have HD3 := Lib.hid hd3
  have HD4 := Lib.hid hd4
  clear hd1 hd2 hd3 hd4
  go_wp2_with fail
  refine wp_loop_rounds 1 ?_
  rw [rounds_succ]
  go_wp2_with (refine wpList_sadd (by rfl) (by rfl) (by simp only [List.length_append, List.length_cons, List.length_nil]; omega) ?_)
  go_ret
  refine ⟨congrArg (fun l : List UInt8 => Ending.returned (.string ⟨l.toArray⟩)) ?_, bchain hbW hx⟩
  simp [lineL, bodyL, kidsL, hasOf, num]

set_option maxHeartbeats 4000000 in
theorem rtext_k3 (hd : Head) (hk : hd.kind = 3) (hw : Hwf hd) (hg : locB 16 false hd 0 = true) (A1 A2 A3 A4 : Option Addr) (c1 c2 c3 c4 : Nat) (w : World) (hbk : hbulk hd ≤ 1099511627776) :
    Calls Tryz.prog 48 #[.agg (qcells hd 0 A1 A2 A3 A4 c1 c2 c3 c4)] w fun e w' => e = .returned (.string ⟨(lineL (.mk hd [])).toArray⟩) ∧ Below w.heap.size w w' := by
  obtain ⟨hk1, hk2, ok⟩ := ok_of hg
  have hwt := wt_head hw (nk := 0)
  have hbl := body_len (by decide) hg hwt
  have hF := i64_of hw.field
  have hN := i64_of hw.n
  have hW := u64_of hw.weight
  obtain ⟨z1, z2, z3⟩ := bulk_parts hd
  rw [hk] at ok
  obtain ⟨kind, field, text, terms, offs, n, weight, lo, hi, occur⟩ := hd
  simp only at hk hF hN hW z1 z2 z3
  subst hk
  have okn := ok.n0
  simp only at okn
  have hf0 := f0_of ok
  simp only at hf0
  have hcF : IntKind.u64.wrap field = field := by show field % 18446744073709551616 = field; omega
  have hcN : IntKind.u64.wrap n = n := by show n % 18446744073709551616 = n; omega
  have lF : (Lib.decDigits field.toNat).length ≤ 20 := dd_len (by omega)
  have lN : (Lib.decDigits n.toNat).length ≤ 20 := dd_len (by omega)
  have lW : (Lib.decDigits weight.toNat).length ≤ 20 := dd_len (by omega)
  have lT := quote_len text
  obtain ⟨W1, hW1⟩ : ∃ W, W = w.alloc (.cells (qcells ⟨3, field, text, terms, offs, n, weight, lo, hi, occur⟩ 0 A1 A2 A3 A4 c1 c2 c3 c4) 29) := ⟨_, rfl⟩
  have K1 : Blk W1 w.heap.size 29 (qcells ⟨3, field, text, terms, offs, n, weight, lo, hi, occur⟩ 0 A1 A2 A3 A4 c1 c2 c3 c4) := by rw [hW1]; exact Blk.new w _ _
  have hsz : w.heap.size + 1 = W1.heap.size := by rw [hW1]; simp
  have hbW : Below w.heap.size w W1 := by rw [hW1]; (repeat (first | exact Below.refl _ _ | assumption | refine balloc ?_ _ | refine bdrew ?_ | refine bdrewN ?_ _ | refine bchain ?_ (by assumption)))
  have hlt1 : w.heap.size < W1.heap.size := by omega
  have qcell : ∀ {wx : World} (hx : Below W1.heap.size W1 wx) (j : Nat) (u : Value) (_ : (qcells ⟨3, field, text, terms, offs, n, weight, lo, hi, occur⟩ 0 A1 A2 A3 A4 c1 c2 c3 c4)[j]? = some u), wx.cell? ⟨w.heap.size, j, none⟩ = some u := fun hx j u hu => ((K1.below hx hlt1).cell j).trans hu
  have F0 := Lib.hid hf0
  have F2 := Lib.hid (show field < 18446744073709551616 by omega)
  have N0 := Lib.hid okn
  have N2 := Lib.hid (show n < 18446744073709551616 by omega)
  have W0 := Lib.hid hW.1
  have W2 := Lib.hid hW.2
  have SZ := Lib.hid (show text.size ≤ 1099511627776 by omega)
  have SL := Lib.hid (show lo.text.size ≤ 1099511627776 by omega)
  have SH := Lib.hid (show hi.text.size ≤ 1099511627776 by omega)
  have hts : text.size ≤ 1099511627776 := by omega
  unfold qcells at hW1 ⊢
  have HW := Lib.hid hW1
  clear hW1 hsz hF hN hW z1 z2 z3 okn hf0 hk1 hk2 hwt
  have HL := Lib.hid (show lineL (.mk ⟨3, field, text, terms, offs, n, weight, lo, hi, occur⟩ []) = lineL (.mk ⟨3, field, text, terms, offs, n, weight, lo, hi, occur⟩ []) from rfl)
  clear hbk hbl hg ok hw
  go_enter Tryz.func48, Tryz.ntmps48
  go_upto_region 1 with fail
  rw [← HW.out]
  refine Rel.wp_region_rel (fun wx => Below W1.heap.size W1 wx) (fun wa wb => Below wa.heap.size wa wb) (by kernel_rfl) (by kernel_rfl) (bdrew (Below.refl _ _)) (fun _ => Below.refl _ _) ?_
  apply Rel.rel_one2 1 [] rfl (by kernel_rfl) (by kernel_rfl)
  case hs =>
    intro wx hx
    try simp only [Act.put, Base.s1, Base.s2, Base.s3]
    intro KK hK
    go_simp
    exact hK _ _ hx (Below.refl _ _) rfl
  apply Rel.rel_one2 2 [(0, 12)] rfl (by kernel_rfl) (by kernel_rfl)
  case hs =>
    intro wx hx
    rintro _ rfl
    have q1 := qcell hx 1 (.int .i64 field) rfl
    have q2 := qcell hx 2 (.string text) rfl
    have q5 := qcell hx 5 (.int .i64 n) rfl
    have q6 := qcell hx 6 (.int .u64 weight) rfl
    try simp only [Act.put, Base.s1, Base.s2, Base.s3]
    intro KK hK
    go_simp
    exact hK _ _ hx (Below.refl _ _) rfl
  apply Rel.rel_one2 3 [(1, 13)] rfl (by kernel_rfl) (by kernel_rfl)
  case hs =>
    intro wx hx
    rintro _ rfl
    try simp only [Act.put, Base.s1, Base.s2, Base.s3]
    intro KK hK
    go_simp
    exact hK _ _ hx (Below.refl _ _) rfl
  apply Rel.rel_one2 4 [(2, 14)] rfl (by kernel_rfl) (by kernel_rfl)
  case hs =>
    intro wx hx
    rintro _ rfl
    have q1 := qcell hx 1 (.int .i64 field) rfl
    have q2 := qcell hx 2 (.string text) rfl
    have q5 := qcell hx 5 (.int .i64 n) rfl
    have q6 := qcell hx 6 (.int .u64 weight) rfl
    try simp only [Act.put, Base.s1, Base.s2, Base.s3]
    intro KK hK
    go_simp
    go_at_call 85
    refine (rdigits_int field F0.out F2.out wx).mono ?_
    rintro e wy ⟨rfl, hby⟩
    exact hK _ _ (bchain hx hby) hby rfl
  apply Rel.rel_one2 5 [] rfl (by kernel_rfl) (by kernel_rfl)
  case hs =>
    intro wx hx
    try simp only [Act.put, Base.s1, Base.s2, Base.s3]
    intro KK hK
    go_simp
    exact hK _ _ hx (Below.refl _ _) rfl
  apply Rel.rel_one2 6 [(4, 16)] rfl (by kernel_rfl) (by kernel_rfl)
  case hs =>
    intro wx hx
    rintro _ rfl
    have q1 := qcell hx 1 (.int .i64 field) rfl
    have q2 := qcell hx 2 (.string text) rfl
    have q5 := qcell hx 5 (.int .i64 n) rfl
    have q6 := qcell hx 6 (.int .u64 weight) rfl
    try simp only [Act.put, Base.s1, Base.s2, Base.s3]
    intro KK hK
    go_simp
    exact hK _ _ hx (Below.refl _ _) rfl
  apply Rel.rel_one2 7 [(5, 17)] rfl (by kernel_rfl) (by kernel_rfl)
  case hs =>
    intro wx hx
    rintro _ rfl
    try simp only [Act.put, Base.s1, Base.s2, Base.s3]
    intro KK hK
    go_simp
    exact hK _ _ hx (Below.refl _ _) rfl
  apply Rel.rel_one2 8 [(6, 18)] rfl (by kernel_rfl) (by kernel_rfl)
  case hs =>
    intro wx hx
    rintro _ rfl
    have q1 := qcell hx 1 (.int .i64 field) rfl
    have q2 := qcell hx 2 (.string text) rfl
    have q5 := qcell hx 5 (.int .i64 n) rfl
    have q6 := qcell hx 6 (.int .u64 weight) rfl
    try simp only [Act.put, Base.s1, Base.s2, Base.s3]
    intro KK hK
    go_simp
    go_at_call 85
    refine (rdigits_int n N0.out N2.out wx).mono ?_
    rintro e wy ⟨rfl, hby⟩
    exact hK _ _ (bchain hx hby) hby rfl
  apply Rel.rel_one2 9 [] rfl (by kernel_rfl) (by kernel_rfl)
  case hs =>
    intro wx hx
    try simp only [Act.put, Base.s1, Base.s2, Base.s3]
    intro KK hK
    go_simp
    exact hK _ _ hx (Below.refl _ _) rfl
  apply Rel.rel_one2 10 [(8, 20)] rfl (by kernel_rfl) (by kernel_rfl)
  case hs =>
    intro wx hx
    rintro _ rfl
    have q1 := qcell hx 1 (.int .i64 field) rfl
    have q2 := qcell hx 2 (.string text) rfl
    have q5 := qcell hx 5 (.int .i64 n) rfl
    have q6 := qcell hx 6 (.int .u64 weight) rfl
    try simp only [Act.put, Base.s1, Base.s2, Base.s3]
    intro KK hK
    go_simp
    exact hK _ _ hx (Below.refl _ _) rfl
  apply Rel.rel_one2 11 [(9, 21)] rfl (by kernel_rfl) (by kernel_rfl)
  case hs =>
    intro wx hx
    rintro _ rfl
    have q1 := qcell hx 1 (.int .i64 field) rfl
    have q2 := qcell hx 2 (.string text) rfl
    have q5 := qcell hx 5 (.int .i64 n) rfl
    have q6 := qcell hx 6 (.int .u64 weight) rfl
    try simp only [Act.put, Base.s1, Base.s2, Base.s3]
    intro KK hK
    go_simp
    go_at_call 85
    refine (rdigits_int weight W0.out W2.out wx).mono ?_
    rintro e wy ⟨rfl, hby⟩
    exact hK _ _ (bchain hx hby) hby rfl
  apply Rel.rel_one2 12 [] rfl (by kernel_rfl) (by kernel_rfl)
  case hs =>
    intro wx hx
    try simp only [Act.put, Base.s1, Base.s2, Base.s3]
    intro KK hK
    go_simp
    exact hK _ _ hx (Below.refl _ _) rfl
  apply Rel.rel_one2 13 [(11, 23)] rfl (by kernel_rfl) (by kernel_rfl)
  case hs =>
    intro wx hx
    rintro _ rfl
    have q1 := qcell hx 1 (.int .i64 field) rfl
    have q2 := qcell hx 2 (.string text) rfl
    have q5 := qcell hx 5 (.int .i64 n) rfl
    have q6 := qcell hx 6 (.int .u64 weight) rfl
    try simp only [Act.put, Base.s1, Base.s2, Base.s3]
    intro KK hK
    go_simp
    exact hK _ _ hx (Below.refl _ _) rfl
  apply Rel.rel_one2 14 [(12, 24)] rfl (by kernel_rfl) (by kernel_rfl)
  case hs =>
    intro wx hx
    rintro _ rfl
    have q1 := qcell hx 1 (.int .i64 field) rfl
    have q2 := qcell hx 2 (.string text) rfl
    have q5 := qcell hx 5 (.int .i64 n) rfl
    have q6 := qcell hx 6 (.int .u64 weight) rfl
    try simp only [Act.put, Base.s1, Base.s2, Base.s3]
    intro KK hK
    go_simp
    go_at_call 86
    refine (rquoted_any text wx (by have := SZ.out; omega)).mono ?_
    rintro e wy ⟨rfl, hby⟩
    exact hK _ _ (bchain hx hby) hby rfl
  apply Rel.rel_one2 15 [(3, 15)] rfl (by kernel_rfl) (by kernel_rfl)
  case hs =>
    intro wx hx
    rintro _ rfl
    try simp only [Act.put, Base.s1, Base.s2, Base.s3]
    intro KK hK
    go_simp
    exact hK _ _ hx (Below.refl _ _) rfl
  apply Rel.rel_one2 16 [(7, 19)] rfl (by kernel_rfl) (by kernel_rfl)
  case hs =>
    intro wx hx
    rintro _ rfl
    try simp only [Act.put, Base.s1, Base.s2, Base.s3]
    intro KK hK
    go_simp
    exact hK _ _ hx (Below.refl _ _) rfl
  apply Rel.rel_one2 17 [(10, 22)] rfl (by kernel_rfl) (by kernel_rfl)
  case hs =>
    intro wx hx
    rintro _ rfl
    try simp only [Act.put, Base.s1, Base.s2, Base.s3]
    intro KK hK
    go_simp
    exact hK _ _ hx (Below.refl _ _) rfl
  apply Rel.rel_one2 18 [(13, 25)] rfl (by kernel_rfl) (by kernel_rfl)
  case hs =>
    intro wx hx
    rintro _ rfl
    try simp only [Act.put, Base.s1, Base.s2, Base.s3]
    intro KK hK
    go_simp
    exact hK _ _ hx (Below.refl _ _) rfl
  refine Rel.rel_end [(0, 12), (1, 13), (2, 14), (3, 15), (4, 16), (5, 17), (6, 18), (7, 19), (8, 20), (9, 21), (10, 22), (11, 23), (12, 24), (13, 25), (14, 3), (15, 4), (16, 5), (17, 6)] (by kernel_rfl) (by kernel_rfl) ?_
  intro wx hx
  rintro _ rfl _ rfl _ rfl _ rfl _ rfl _ rfl _ rfl _ rfl _ rfl _ rfl _ rfl _ rfl _ rfl _ rfl _ rfl _ rfl _ rfl _ rfl
  try simp only [Act.put, Base.s1, Base.s2, Base.s3]
  refine Rel.valsD_ret ?_
  have q14 := qcell hx 14 (.slice A4 0 c4) rfl
  have q0 := qcell hx 0 (.int .i64 3) rfl
  generalize hd1 : Lib.decDigits field.toNat = D1 at *
  generalize hd2 : Lib.decDigits n.toNat = D2 at *
  generalize hd3 : Lib.decDigits weight.toNat = D3 at *
  generalize hd4 : quoteL text = D4 at *
  have HD1 := Lib.hid hd1
  have HD2 := Lib.hid hd2
  have HD3 := Lib.hid hd3
  have HD4 := Lib.hid hd4
  clear hd1 hd2 hd3 hd4
  go_wp2_with fail
  refine wp_loop_rounds 1 ?_
  rw [rounds_succ]
  go_wp2_with (refine wpList_sadd (by rfl) (by rfl) (by simp only [List.length_append, List.length_cons, List.length_nil]; omega) ?_)
  go_ret
  refine ⟨congrArg (fun l : List UInt8 => Ending.returned (.string ⟨l.toArray⟩)) ?_, bchain hbW hx⟩
  rw [← HD1.out]
  simp [lineL, bodyL, kidsL, hasOf, num]

set_option maxHeartbeats 4000000 in
theorem rtext_k4 (hd : Head) (hk : hd.kind = 4) (hw : Hwf hd) (hg : locB 16 false hd 0 = true) (A1 A2 A3 A4 : Option Addr) (c1 c2 c3 c4 : Nat) (w : World) (hbk : hbulk hd ≤ 1099511627776) :
    Calls Tryz.prog 48 #[.agg (qcells hd 0 A1 A2 A3 A4 c1 c2 c3 c4)] w fun e w' => e = .returned (.string ⟨(lineL (.mk hd [])).toArray⟩) ∧ Below w.heap.size w w' := by
  obtain ⟨hk1, hk2, ok⟩ := ok_of hg
  have hwt := wt_head hw (nk := 0)
  have hbl := body_len (by decide) hg hwt
  have hF := i64_of hw.field
  have hN := i64_of hw.n
  have hW := u64_of hw.weight
  obtain ⟨z1, z2, z3⟩ := bulk_parts hd
  rw [hk] at ok
  obtain ⟨kind, field, text, terms, offs, n, weight, lo, hi, occur⟩ := hd
  simp only at hk hF hN hW z1 z2 z3
  subst hk
  have okn := ok.n0
  simp only at okn
  have hf0 := f0_of ok
  simp only at hf0
  have hcF : IntKind.u64.wrap field = field := by show field % 18446744073709551616 = field; omega
  have hcN : IntKind.u64.wrap n = n := by show n % 18446744073709551616 = n; omega
  have lF : (Lib.decDigits field.toNat).length ≤ 20 := dd_len (by omega)
  have lN : (Lib.decDigits n.toNat).length ≤ 20 := dd_len (by omega)
  have lW : (Lib.decDigits weight.toNat).length ≤ 20 := dd_len (by omega)
  have lT := quote_len text
  obtain ⟨W1, hW1⟩ : ∃ W, W = w.alloc (.cells (qcells ⟨4, field, text, terms, offs, n, weight, lo, hi, occur⟩ 0 A1 A2 A3 A4 c1 c2 c3 c4) 29) := ⟨_, rfl⟩
  have K1 : Blk W1 w.heap.size 29 (qcells ⟨4, field, text, terms, offs, n, weight, lo, hi, occur⟩ 0 A1 A2 A3 A4 c1 c2 c3 c4) := by rw [hW1]; exact Blk.new w _ _
  have hsz : w.heap.size + 1 = W1.heap.size := by rw [hW1]; simp
  have hbW : Below w.heap.size w W1 := by rw [hW1]; (repeat (first | exact Below.refl _ _ | assumption | refine balloc ?_ _ | refine bdrew ?_ | refine bdrewN ?_ _ | refine bchain ?_ (by assumption)))
  have hlt1 : w.heap.size < W1.heap.size := by omega
  have qcell : ∀ {wx : World} (hx : Below W1.heap.size W1 wx) (j : Nat) (u : Value) (_ : (qcells ⟨4, field, text, terms, offs, n, weight, lo, hi, occur⟩ 0 A1 A2 A3 A4 c1 c2 c3 c4)[j]? = some u), wx.cell? ⟨w.heap.size, j, none⟩ = some u := fun hx j u hu => ((K1.below hx hlt1).cell j).trans hu
  have F0 := Lib.hid hf0
  have F2 := Lib.hid (show field < 18446744073709551616 by omega)
  have N0 := Lib.hid okn
  have N2 := Lib.hid (show n < 18446744073709551616 by omega)
  have W0 := Lib.hid hW.1
  have W2 := Lib.hid hW.2
  have SZ := Lib.hid (show text.size ≤ 1099511627776 by omega)
  have SL := Lib.hid (show lo.text.size ≤ 1099511627776 by omega)
  have SH := Lib.hid (show hi.text.size ≤ 1099511627776 by omega)
  have hts : text.size ≤ 1099511627776 := by omega
  unfold qcells at hW1 ⊢
  have HW := Lib.hid hW1
  clear hW1 hsz hF hN hW z1 z2 z3 okn hf0 hk1 hk2 hwt
  have HL := Lib.hid (show lineL (.mk ⟨4, field, text, terms, offs, n, weight, lo, hi, occur⟩ []) = lineL (.mk ⟨4, field, text, terms, offs, n, weight, lo, hi, occur⟩ []) from rfl)
  clear hbk hbl hg ok hw
  go_enter Tryz.func48, Tryz.ntmps48
  go_upto_region 1 with fail
  rw [← HW.out]
  refine Rel.wp_region_rel (fun wx => Below W1.heap.size W1 wx) (fun wa wb => Below wa.heap.size wa wb) (by kernel_rfl) (by kernel_rfl) (bdrew (Below.refl _ _)) (fun _ => Below.refl _ _) ?_
  apply Rel.rel_one2 1 [] rfl (by kernel_rfl) (by kernel_rfl)
  case hs =>
    intro wx hx
    try simp only [Act.put, Base.s1, Base.s2, Base.s3]
    intro KK hK
    go_simp
    exact hK _ _ hx (Below.refl _ _) rfl
  apply Rel.rel_one2 2 [(0, 12)] rfl (by kernel_rfl) (by kernel_rfl)
  case hs =>
    intro wx hx
    rintro _ rfl
    have q1 := qcell hx 1 (.int .i64 field) rfl
    have q2 := qcell hx 2 (.string text) rfl
    have q5 := qcell hx 5 (.int .i64 n) rfl
    have q6 := qcell hx 6 (.int .u64 weight) rfl
    try simp only [Act.put, Base.s1, Base.s2, Base.s3]
    intro KK hK
    go_simp
    exact hK _ _ hx (Below.refl _ _) rfl
  apply Rel.rel_one2 3 [(1, 13)] rfl (by kernel_rfl) (by kernel_rfl)
  case hs =>
    intro wx hx
    rintro _ rfl
    try simp only [Act.put, Base.s1, Base.s2, Base.s3]
    intro KK hK
    go_simp
    exact hK _ _ hx (Below.refl _ _) rfl
  apply Rel.rel_one2 4 [(2, 14)] rfl (by kernel_rfl) (by kernel_rfl)
  case hs =>
    intro wx hx
    rintro _ rfl
    have q1 := qcell hx 1 (.int .i64 field) rfl
    have q2 := qcell hx 2 (.string text) rfl
    have q5 := qcell hx 5 (.int .i64 n) rfl
    have q6 := qcell hx 6 (.int .u64 weight) rfl
    try simp only [Act.put, Base.s1, Base.s2, Base.s3]
    intro KK hK
    go_simp
    go_at_call 85
    refine (rdigits_int field F0.out F2.out wx).mono ?_
    rintro e wy ⟨rfl, hby⟩
    exact hK _ _ (bchain hx hby) hby rfl
  apply Rel.rel_one2 5 [] rfl (by kernel_rfl) (by kernel_rfl)
  case hs =>
    intro wx hx
    try simp only [Act.put, Base.s1, Base.s2, Base.s3]
    intro KK hK
    go_simp
    exact hK _ _ hx (Below.refl _ _) rfl
  apply Rel.rel_one2 6 [(4, 16)] rfl (by kernel_rfl) (by kernel_rfl)
  case hs =>
    intro wx hx
    rintro _ rfl
    have q1 := qcell hx 1 (.int .i64 field) rfl
    have q2 := qcell hx 2 (.string text) rfl
    have q5 := qcell hx 5 (.int .i64 n) rfl
    have q6 := qcell hx 6 (.int .u64 weight) rfl
    try simp only [Act.put, Base.s1, Base.s2, Base.s3]
    intro KK hK
    go_simp
    exact hK _ _ hx (Below.refl _ _) rfl
  apply Rel.rel_one2 7 [(5, 17)] rfl (by kernel_rfl) (by kernel_rfl)
  case hs =>
    intro wx hx
    rintro _ rfl
    try simp only [Act.put, Base.s1, Base.s2, Base.s3]
    intro KK hK
    go_simp
    exact hK _ _ hx (Below.refl _ _) rfl
  apply Rel.rel_one2 8 [(6, 18)] rfl (by kernel_rfl) (by kernel_rfl)
  case hs =>
    intro wx hx
    rintro _ rfl
    have q1 := qcell hx 1 (.int .i64 field) rfl
    have q2 := qcell hx 2 (.string text) rfl
    have q5 := qcell hx 5 (.int .i64 n) rfl
    have q6 := qcell hx 6 (.int .u64 weight) rfl
    try simp only [Act.put, Base.s1, Base.s2, Base.s3]
    intro KK hK
    go_simp
    go_at_call 85
    refine (rdigits_int n N0.out N2.out wx).mono ?_
    rintro e wy ⟨rfl, hby⟩
    exact hK _ _ (bchain hx hby) hby rfl
  apply Rel.rel_one2 9 [] rfl (by kernel_rfl) (by kernel_rfl)
  case hs =>
    intro wx hx
    try simp only [Act.put, Base.s1, Base.s2, Base.s3]
    intro KK hK
    go_simp
    exact hK _ _ hx (Below.refl _ _) rfl
  apply Rel.rel_one2 10 [(8, 20)] rfl (by kernel_rfl) (by kernel_rfl)
  case hs =>
    intro wx hx
    rintro _ rfl
    have q1 := qcell hx 1 (.int .i64 field) rfl
    have q2 := qcell hx 2 (.string text) rfl
    have q5 := qcell hx 5 (.int .i64 n) rfl
    have q6 := qcell hx 6 (.int .u64 weight) rfl
    try simp only [Act.put, Base.s1, Base.s2, Base.s3]
    intro KK hK
    go_simp
    exact hK _ _ hx (Below.refl _ _) rfl
  apply Rel.rel_one2 11 [(9, 21)] rfl (by kernel_rfl) (by kernel_rfl)
  case hs =>
    intro wx hx
    rintro _ rfl
    have q1 := qcell hx 1 (.int .i64 field) rfl
    have q2 := qcell hx 2 (.string text) rfl
    have q5 := qcell hx 5 (.int .i64 n) rfl
    have q6 := qcell hx 6 (.int .u64 weight) rfl
    try simp only [Act.put, Base.s1, Base.s2, Base.s3]
    intro KK hK
    go_simp
    go_at_call 85
    refine (rdigits_int weight W0.out W2.out wx).mono ?_
    rintro e wy ⟨rfl, hby⟩
    exact hK _ _ (bchain hx hby) hby rfl
  apply Rel.rel_one2 12 [] rfl (by kernel_rfl) (by kernel_rfl)
  case hs =>
    intro wx hx
    try simp only [Act.put, Base.s1, Base.s2, Base.s3]
    intro KK hK
    go_simp
    exact hK _ _ hx (Below.refl _ _) rfl
  apply Rel.rel_one2 13 [(11, 23)] rfl (by kernel_rfl) (by kernel_rfl)
  case hs =>
    intro wx hx
    rintro _ rfl
    have q1 := qcell hx 1 (.int .i64 field) rfl
    have q2 := qcell hx 2 (.string text) rfl
    have q5 := qcell hx 5 (.int .i64 n) rfl
    have q6 := qcell hx 6 (.int .u64 weight) rfl
    try simp only [Act.put, Base.s1, Base.s2, Base.s3]
    intro KK hK
    go_simp
    exact hK _ _ hx (Below.refl _ _) rfl
  apply Rel.rel_one2 14 [(12, 24)] rfl (by kernel_rfl) (by kernel_rfl)
  case hs =>
    intro wx hx
    rintro _ rfl
    have q1 := qcell hx 1 (.int .i64 field) rfl
    have q2 := qcell hx 2 (.string text) rfl
    have q5 := qcell hx 5 (.int .i64 n) rfl
    have q6 := qcell hx 6 (.int .u64 weight) rfl
    try simp only [Act.put, Base.s1, Base.s2, Base.s3]
    intro KK hK
    go_simp
    go_at_call 86
    refine (rquoted_any text wx (by have := SZ.out; omega)).mono ?_
    rintro e wy ⟨rfl, hby⟩
    exact hK _ _ (bchain hx hby) hby rfl
  apply Rel.rel_one2 15 [(3, 15)] rfl (by kernel_rfl) (by kernel_rfl)
  case hs =>
    intro wx hx
    rintro _ rfl
    try simp only [Act.put, Base.s1, Base.s2, Base.s3]
    intro KK hK
    go_simp
    exact hK _ _ hx (Below.refl _ _) rfl
  apply Rel.rel_one2 16 [(7, 19)] rfl (by kernel_rfl) (by kernel_rfl)
  case hs =>
    intro wx hx
    rintro _ rfl
    try simp only [Act.put, Base.s1, Base.s2, Base.s3]
    intro KK hK
    go_simp
    exact hK _ _ hx (Below.refl _ _) rfl
  apply Rel.rel_one2 17 [(10, 22)] rfl (by kernel_rfl) (by kernel_rfl)
  case hs =>
    intro wx hx
    rintro _ rfl
    try simp only [Act.put, Base.s1, Base.s2, Base.s3]
    intro KK hK
    go_simp
    exact hK _ _ hx (Below.refl _ _) rfl
  apply Rel.rel_one2 18 [(13, 25)] rfl (by kernel_rfl) (by kernel_rfl)
  case hs =>
    intro wx hx
    rintro _ rfl
    try simp only [Act.put, Base.s1, Base.s2, Base.s3]
    intro KK hK
    go_simp
    exact hK _ _ hx (Below.refl _ _) rfl
  refine Rel.rel_end [(0, 12), (1, 13), (2, 14), (3, 15), (4, 16), (5, 17), (6, 18), (7, 19), (8, 20), (9, 21), (10, 22), (11, 23), (12, 24), (13, 25), (14, 3), (15, 4), (16, 5), (17, 6)] (by kernel_rfl) (by kernel_rfl) ?_
  intro wx hx
  rintro _ rfl _ rfl _ rfl _ rfl _ rfl _ rfl _ rfl _ rfl _ rfl _ rfl _ rfl _ rfl _ rfl _ rfl _ rfl _ rfl _ rfl _ rfl
  try simp only [Act.put, Base.s1, Base.s2, Base.s3]
  refine Rel.valsD_ret ?_
  have q14 := qcell hx 14 (.slice A4 0 c4) rfl
  have q0 := qcell hx 0 (.int .i64 4) rfl
  generalize hd1 : Lib.decDigits field.toNat = D1 at *
  generalize hd2 : Lib.decDigits n.toNat = D2 at *
  generalize hd3 : Lib.decDigits weight.toNat = D3 at *
  generalize hd4 : quoteL text = D4 at *
  have HD1 := Lib.hid hd1
  have HD2 := Lib.hid hd2
  have HD3 := Lib.hid hd3
  have HD4 := Lib.hid hd4
  clear hd1 hd2 hd3 hd4
  go_wp2_with fail
  refine wp_loop_rounds 1 ?_
  rw [rounds_succ]
  go_wp2_with (refine wpList_sadd (by rfl) (by rfl) (by simp only [List.length_append, List.length_cons, List.length_nil]; omega) ?_)
  go_ret
  refine ⟨congrArg (fun l : List UInt8 => Ending.returned (.string ⟨l.toArray⟩)) ?_, bchain hbW hx⟩
  rw [← HD1.out, ← HD3.out, ← HD4.out]
  simp [lineL, bodyL, kidsL, hasOf, num]

set_option maxHeartbeats 4000000 in
theorem rtext_k6 (hd : Head) (hk : hd.kind = 6) (hw : Hwf hd) (hg : locB 16 false hd 0 = true) (A1 A2 A3 A4 : Option Addr) (c1 c2 c3 c4 : Nat) (w : World) (hbk : hbulk hd ≤ 1099511627776) :
    Calls Tryz.prog 48 #[.agg (qcells hd 0 A1 A2 A3 A4 c1 c2 c3 c4)] w fun e w' => e = .returned (.string ⟨(lineL (.mk hd [])).toArray⟩) ∧ Below w.heap.size w w' := by
  obtain ⟨hk1, hk2, ok⟩ := ok_of hg
  have hwt := wt_head hw (nk := 0)
  have hbl := body_len (by decide) hg hwt
  have hF := i64_of hw.field
  have hN := i64_of hw.n
  have hW := u64_of hw.weight
  obtain ⟨z1, z2, z3⟩ := bulk_parts hd
  rw [hk] at ok
  obtain ⟨kind, field, text, terms, offs, n, weight, lo, hi, occur⟩ := hd
  simp only at hk hF hN hW z1 z2 z3
  subst hk
  have okn := ok.n0
  simp only at okn
  have hf0 := f0_of ok
  simp only at hf0
  have hcF : IntKind.u64.wrap field = field := by show field % 18446744073709551616 = field; omega
  have hcN : IntKind.u64.wrap n = n := by show n % 18446744073709551616 = n; omega
  have lF : (Lib.decDigits field.toNat).length ≤ 20 := dd_len (by omega)
  have lN : (Lib.decDigits n.toNat).length ≤ 20 := dd_len (by omega)
  have lW : (Lib.decDigits weight.toNat).length ≤ 20 := dd_len (by omega)
  have lT := quote_len text
  obtain ⟨W1, hW1⟩ : ∃ W, W = w.alloc (.cells (qcells ⟨6, field, text, terms, offs, n, weight, lo, hi, occur⟩ 0 A1 A2 A3 A4 c1 c2 c3 c4) 29) := ⟨_, rfl⟩
  have K1 : Blk W1 w.heap.size 29 (qcells ⟨6, field, text, terms, offs, n, weight, lo, hi, occur⟩ 0 A1 A2 A3 A4 c1 c2 c3 c4) := by rw [hW1]; exact Blk.new w _ _
  have hsz : w.heap.size + 1 = W1.heap.size := by rw [hW1]; simp
  have hbW : Below w.heap.size w W1 := by rw [hW1]; (repeat (first | exact Below.refl _ _ | assumption | refine balloc ?_ _ | refine bdrew ?_ | refine bdrewN ?_ _ | refine bchain ?_ (by assumption)))
  have hlt1 : w.heap.size < W1.heap.size := by omega
  have qcell : ∀ {wx : World} (hx : Below W1.heap.size W1 wx) (j : Nat) (u : Value) (_ : (qcells ⟨6, field, text, terms, offs, n, weight, lo, hi, occur⟩ 0 A1 A2 A3 A4 c1 c2 c3 c4)[j]? = some u), wx.cell? ⟨w.heap.size, j, none⟩ = some u := fun hx j u hu => ((K1.below hx hlt1).cell j).trans hu
  have F0 := Lib.hid hf0
  have F2 := Lib.hid (show field < 18446744073709551616 by omega)
  have N0 := Lib.hid okn
  have N2 := Lib.hid (show n < 18446744073709551616 by omega)
  have W0 := Lib.hid hW.1
  have W2 := Lib.hid hW.2
  have SZ := Lib.hid (show text.size ≤ 1099511627776 by omega)
  have SL := Lib.hid (show lo.text.size ≤ 1099511627776 by omega)
  have SH := Lib.hid (show hi.text.size ≤ 1099511627776 by omega)
  have hts : text.size ≤ 1099511627776 := by omega
  unfold qcells at hW1 ⊢
  have HW := Lib.hid hW1
  clear hW1 hsz hF hN hW z1 z2 z3 okn hf0 hk1 hk2 hwt
  have HL := Lib.hid (show lineL (.mk ⟨6, field, text, terms, offs, n, weight, lo, hi, occur⟩ []) = lineL (.mk ⟨6, field, text, terms, offs, n, weight, lo, hi, occur⟩ []) from rfl)
  clear hbk hbl hg ok hw
  go_enter Tryz.func48, Tryz.ntmps48
  go_upto_region 1 with fail
  rw [← HW.out]
  refine Rel.wp_region_rel (fun wx => Below W1.heap.size W1 wx) (fun wa wb => Below wa.heap.size wa wb) (by kernel_rfl) (by kernel_rfl) (bdrew (Below.refl _ _)) (fun _ => Below.refl _ _) ?_
  apply Rel.rel_one2 1 [] rfl (by kernel_rfl) (by kernel_rfl)
  case hs =>
    intro wx hx
    try simp only [Act.put, Base.s1, Base.s2, Base.s3]
    intro KK hK
    go_simp
    exact hK _ _ hx (Below.refl _ _) rfl
  apply Rel.rel_one2 2 [(0, 12)] rfl (by kernel_rfl) (by kernel_rfl)
  case hs =>
    intro wx hx
    rintro _ rfl
    have q1 := qcell hx 1 (.int .i64 field) rfl
    have q2 := qcell hx 2 (.string text) rfl
    have q5 := qcell hx 5 (.int .i64 n) rfl
    have q6 := qcell hx 6 (.int .u64 weight) rfl
    try simp only [Act.put, Base.s1, Base.s2, Base.s3]
    intro KK hK
    go_simp
    exact hK _ _ hx (Below.refl _ _) rfl
  apply Rel.rel_one2 3 [(1, 13)] rfl (by kernel_rfl) (by kernel_rfl)
  case hs =>
    intro wx hx
    rintro _ rfl
    try simp only [Act.put, Base.s1, Base.s2, Base.s3]
    intro KK hK
    go_simp
    exact hK _ _ hx (Below.refl _ _) rfl
  apply Rel.rel_one2 4 [(2, 14)] rfl (by kernel_rfl) (by kernel_rfl)
  case hs =>
    intro wx hx
    rintro _ rfl
    have q1 := qcell hx 1 (.int .i64 field) rfl
    have q2 := qcell hx 2 (.string text) rfl
    have q5 := qcell hx 5 (.int .i64 n) rfl
    have q6 := qcell hx 6 (.int .u64 weight) rfl
    try simp only [Act.put, Base.s1, Base.s2, Base.s3]
    intro KK hK
    go_simp
    go_at_call 85
    refine (rdigits_int field F0.out F2.out wx).mono ?_
    rintro e wy ⟨rfl, hby⟩
    exact hK _ _ (bchain hx hby) hby rfl
  apply Rel.rel_one2 5 [] rfl (by kernel_rfl) (by kernel_rfl)
  case hs =>
    intro wx hx
    try simp only [Act.put, Base.s1, Base.s2, Base.s3]
    intro KK hK
    go_simp
    exact hK _ _ hx (Below.refl _ _) rfl
  apply Rel.rel_one2 6 [(4, 16)] rfl (by kernel_rfl) (by kernel_rfl)
  case hs =>
    intro wx hx
    rintro _ rfl
    have q1 := qcell hx 1 (.int .i64 field) rfl
    have q2 := qcell hx 2 (.string text) rfl
    have q5 := qcell hx 5 (.int .i64 n) rfl
    have q6 := qcell hx 6 (.int .u64 weight) rfl
    try simp only [Act.put, Base.s1, Base.s2, Base.s3]
    intro KK hK
    go_simp
    exact hK _ _ hx (Below.refl _ _) rfl
  apply Rel.rel_one2 7 [(5, 17)] rfl (by kernel_rfl) (by kernel_rfl)
  case hs =>
    intro wx hx
    rintro _ rfl
    try simp only [Act.put, Base.s1, Base.s2, Base.s3]
    intro KK hK
    go_simp
    exact hK _ _ hx (Below.refl _ _) rfl
  apply Rel.rel_one2 8 [(6, 18)] rfl (by kernel_rfl) (by kernel_rfl)
  case hs =>
    intro wx hx
    rintro _ rfl
    have q1 := qcell hx 1 (.int .i64 field) rfl
    have q2 := qcell hx 2 (.string text) rfl
    have q5 := qcell hx 5 (.int .i64 n) rfl
    have q6 := qcell hx 6 (.int .u64 weight) rfl
    try simp only [Act.put, Base.s1, Base.s2, Base.s3]
    intro KK hK
    go_simp
    go_at_call 85
    refine (rdigits_int n N0.out N2.out wx).mono ?_
    rintro e wy ⟨rfl, hby⟩
    exact hK _ _ (bchain hx hby) hby rfl
  apply Rel.rel_one2 9 [] rfl (by kernel_rfl) (by kernel_rfl)
  case hs =>
    intro wx hx
    try simp only [Act.put, Base.s1, Base.s2, Base.s3]
    intro KK hK
    go_simp
    exact hK _ _ hx (Below.refl _ _) rfl
  apply Rel.rel_one2 10 [(8, 20)] rfl (by kernel_rfl) (by kernel_rfl)
  case hs =>
    intro wx hx
    rintro _ rfl
    have q1 := qcell hx 1 (.int .i64 field) rfl
    have q2 := qcell hx 2 (.string text) rfl
    have q5 := qcell hx 5 (.int .i64 n) rfl
    have q6 := qcell hx 6 (.int .u64 weight) rfl
    try simp only [Act.put, Base.s1, Base.s2, Base.s3]
    intro KK hK
    go_simp
    exact hK _ _ hx (Below.refl _ _) rfl
  apply Rel.rel_one2 11 [(9, 21)] rfl (by kernel_rfl) (by kernel_rfl)
  case hs =>
    intro wx hx
    rintro _ rfl
    have q1 := qcell hx 1 (.int .i64 field) rfl
    have q2 := qcell hx 2 (.string text) rfl
    have q5 := qcell hx 5 (.int .i64 n) rfl
    have q6 := qcell hx 6 (.int .u64 weight) rfl
    try simp only [Act.put, Base.s1, Base.s2, Base.s3]
    intro KK hK
    go_simp
    go_at_call 85
    refine (rdigits_int weight W0.out W2.out wx).mono ?_
    rintro e wy ⟨rfl, hby⟩
    exact hK _ _ (bchain hx hby) hby rfl
  apply Rel.rel_one2 12 [] rfl (by kernel_rfl) (by kernel_rfl)
  case hs =>
    intro wx hx
    try simp only [Act.put, Base.s1, Base.s2, Base.s3]
    intro KK hK
    go_simp
    exact hK _ _ hx (Below.refl _ _) rfl
  apply Rel.rel_one2 13 [(11, 23)] rfl (by kernel_rfl) (by kernel_rfl)
  case hs =>
    intro wx hx
    rintro _ rfl
    have q1 := qcell hx 1 (.int .i64 field) rfl
    have q2 := qcell hx 2 (.string text) rfl
    have q5 := qcell hx 5 (.int .i64 n) rfl
    have q6 := qcell hx 6 (.int .u64 weight) rfl
    try simp only [Act.put, Base.s1, Base.s2, Base.s3]
    intro KK hK
    go_simp
    exact hK _ _ hx (Below.refl _ _) rfl
  apply Rel.rel_one2 14 [(12, 24)] rfl (by kernel_rfl) (by kernel_rfl)
  case hs =>
    intro wx hx
    rintro _ rfl
    have q1 := qcell hx 1 (.int .i64 field) rfl
    have q2 := qcell hx 2 (.string text) rfl
    have q5 := qcell hx 5 (.int .i64 n) rfl
    have q6 := qcell hx 6 (.int .u64 weight) rfl
    try simp only [Act.put, Base.s1, Base.s2, Base.s3]
    intro KK hK
    go_simp
    go_at_call 86
    refine (rquoted_any text wx (by have := SZ.out; omega)).mono ?_
    rintro e wy ⟨rfl, hby⟩
    exact hK _ _ (bchain hx hby) hby rfl
  apply Rel.rel_one2 15 [(3, 15)] rfl (by kernel_rfl) (by kernel_rfl)
  case hs =>
    intro wx hx
    rintro _ rfl
    try simp only [Act.put, Base.s1, Base.s2, Base.s3]
    intro KK hK
    go_simp
    exact hK _ _ hx (Below.refl _ _) rfl
  apply Rel.rel_one2 16 [(7, 19)] rfl (by kernel_rfl) (by kernel_rfl)
  case hs =>
    intro wx hx
    rintro _ rfl
    try simp only [Act.put, Base.s1, Base.s2, Base.s3]
    intro KK hK
    go_simp
    exact hK _ _ hx (Below.refl _ _) rfl
  apply Rel.rel_one2 17 [(10, 22)] rfl (by kernel_rfl) (by kernel_rfl)
  case hs =>
    intro wx hx
    rintro _ rfl
    try simp only [Act.put, Base.s1, Base.s2, Base.s3]
    intro KK hK
    go_simp
    exact hK _ _ hx (Below.refl _ _) rfl
  apply Rel.rel_one2 18 [(13, 25)] rfl (by kernel_rfl) (by kernel_rfl)
  case hs =>
    intro wx hx
    rintro _ rfl
    try simp only [Act.put, Base.s1, Base.s2, Base.s3]
    intro KK hK
    go_simp
    exact hK _ _ hx (Below.refl _ _) rfl
  refine Rel.rel_end [(0, 12), (1, 13), (2, 14), (3, 15), (4, 16), (5, 17), (6, 18), (7, 19), (8, 20), (9, 21), (10, 22), (11, 23), (12, 24), (13, 25), (14, 3), (15, 4), (16, 5), (17, 6)] (by kernel_rfl) (by kernel_rfl) ?_
  intro wx hx
  rintro _ rfl _ rfl _ rfl _ rfl _ rfl _ rfl _ rfl _ rfl _ rfl _ rfl _ rfl _ rfl _ rfl _ rfl _ rfl _ rfl _ rfl _ rfl
  try simp only [Act.put, Base.s1, Base.s2, Base.s3]
  refine Rel.valsD_ret ?_
  have q14 := qcell hx 14 (.slice A4 0 c4) rfl
  have q0 := qcell hx 0 (.int .i64 6) rfl
  generalize hd1 : Lib.decDigits field.toNat = D1 at *
  generalize hd2 : Lib.decDigits n.toNat = D2 at *
  generalize hd3 : Lib.decDigits weight.toNat = D3 at *
  generalize hd4 : quoteL text = D4 at *
  have HD1 := Lib.hid hd1
  have HD2 := Lib.hid hd2
  have HD3 := Lib.hid hd3
  have HD4 := Lib.hid hd4
  clear hd1 hd2 hd3 hd4
  go_wp2_with fail
  refine wp_loop_rounds 1 ?_
  rw [rounds_succ]
  go_wp2_with (refine wpList_sadd (by rfl) (by rfl) (by simp only [List.length_append, List.length_cons, List.length_nil]; omega) ?_)
  go_ret
  refine ⟨congrArg (fun l : List UInt8 => Ending.returned (.string ⟨l.toArray⟩)) ?_, bchain hbW hx⟩
  rw [← HD1.out, ← HD4.out]
  simp [lineL, bodyL, kidsL, hasOf, num]

set_option maxHeartbeats 4000000 in
theorem rtext_k7 (hd : Head) (hk : hd.kind = 7) (hw : Hwf hd) (hg : locB 16 false hd 0 = true) (A1 A2 A3 A4 : Option Addr) (c1 c2 c3 c4 : Nat) (w : World) (hbk : hbulk hd ≤ 1099511627776) :
    Calls Tryz.prog 48 #[.agg (qcells hd 0 A1 A2 A3 A4 c1 c2 c3 c4)] w fun e w' => e = .returned (.string ⟨(lineL (.mk hd [])).toArray⟩) ∧ Below w.heap.size w w' := by
  obtain ⟨hk1, hk2, ok⟩ := ok_of hg
  have hwt := wt_head hw (nk := 0)
  have hbl := body_len (by decide) hg hwt
  have hF := i64_of hw.field
  have hN := i64_of hw.n
  have hW := u64_of hw.weight
  obtain ⟨z1, z2, z3⟩ := bulk_parts hd
  rw [hk] at ok
  obtain ⟨kind, field, text, terms, offs, n, weight, lo, hi, occur⟩ := hd
  simp only at hk hF hN hW z1 z2 z3
  subst hk
  have okn := ok.n0
  simp only at okn
  have hf0 := f0_of ok
  simp only at hf0
  have hcF : IntKind.u64.wrap field = field := by show field % 18446744073709551616 = field; omega
  have hcN : IntKind.u64.wrap n = n := by show n % 18446744073709551616 = n; omega
  have lF : (Lib.decDigits field.toNat).length ≤ 20 := dd_len (by omega)
  have lN : (Lib.decDigits n.toNat).length ≤ 20 := dd_len (by omega)
  have lW : (Lib.decDigits weight.toNat).length ≤ 20 := dd_len (by omega)
  have lT := quote_len text
  obtain ⟨W1, hW1⟩ : ∃ W, W = w.alloc (.cells (qcells ⟨7, field, text, terms, offs, n, weight, lo, hi, occur⟩ 0 A1 A2 A3 A4 c1 c2 c3 c4) 29) := ⟨_, rfl⟩
  have K1 : Blk W1 w.heap.size 29 (qcells ⟨7, field, text, terms, offs, n, weight, lo, hi, occur⟩ 0 A1 A2 A3 A4 c1 c2 c3 c4) := by rw [hW1]; exact Blk.new w _ _
  have hsz : w.heap.size + 1 = W1.heap.size := by rw [hW1]; simp
  have hbW : Below w.heap.size w W1 := by rw [hW1]; (repeat (first | exact Below.refl _ _ | assumption | refine balloc ?_ _ | refine bdrew ?_ | refine bdrewN ?_ _ | refine bchain ?_ (by assumption)))
  have hlt1 : w.heap.size < W1.heap.size := by omega
  have qcell : ∀ {wx : World} (hx : Below W1.heap.size W1 wx) (j : Nat) (u : Value) (_ : (qcells ⟨7, field, text, terms, offs, n, weight, lo, hi, occur⟩ 0 A1 A2 A3 A4 c1 c2 c3 c4)[j]? = some u), wx.cell? ⟨w.heap.size, j, none⟩ = some u := fun hx j u hu => ((K1.below hx hlt1).cell j).trans hu
  have F0 := Lib.hid hf0
  have F2 := Lib.hid (show field < 18446744073709551616 by omega)
  have N0 := Lib.hid okn
  have N2 := Lib.hid (show n < 18446744073709551616 by omega)
  have W0 := Lib.hid hW.1
  have W2 := Lib.hid hW.2
  have SZ := Lib.hid (show text.size ≤ 1099511627776 by omega)
  have SL := Lib.hid (show lo.text.size ≤ 1099511627776 by omega)
  have SH := Lib.hid (show hi.text.size ≤ 1099511627776 by omega)
  have hts : text.size ≤ 1099511627776 := by omega
  unfold qcells at hW1 ⊢
  have HW := Lib.hid hW1
  clear hW1 hsz hF hN hW z1 z2 z3 okn hf0 hk1 hk2 hwt
  have HL := Lib.hid (show lineL (.mk ⟨7, field, text, terms, offs, n, weight, lo, hi, occur⟩ []) = lineL (.mk ⟨7, field, text, terms, offs, n, weight, lo, hi, occur⟩ []) from rfl)
  clear hbk hbl hg ok hw
  go_enter Tryz.func48, Tryz.ntmps48
  go_upto_region 1 with fail
  rw [← HW.out]
  refine Rel.wp_region_rel (fun wx => Below W1.heap.size W1 wx) (fun wa wb => Below wa.heap.size wa wb) (by kernel_rfl) (by kernel_rfl) (bdrew (Below.refl _ _)) (fun _ => Below.refl _ _) ?_
  apply Rel.rel_one2 1 [] rfl (by kernel_rfl) (by kernel_rfl)
  case hs =>
    intro wx hx
    try simp only [Act.put, Base.s1, Base.s2, Base.s3]
    intro KK hK
    go_simp
    exact hK _ _ hx (Below.refl _ _) rfl
  apply Rel.rel_one2 2 [(0, 12)] rfl (by kernel_rfl) (by kernel_rfl)
  case hs =>
    intro wx hx
    rintro _ rfl
    have q1 := qcell hx 1 (.int .i64 field) rfl
    have q2 := qcell hx 2 (.string text) rfl
    have q5 := qcell hx 5 (.int .i64 n) rfl
    have q6 := qcell hx 6 (.int .u64 weight) rfl
    try simp only [Act.put, Base.s1, Base.s2, Base.s3]
    intro KK hK
    go_simp
    exact hK _ _ hx (Below.refl _ _) rfl
  apply Rel.rel_one2 3 [(1, 13)] rfl (by kernel_rfl) (by kernel_rfl)
  case hs =>
    intro wx hx
    rintro _ rfl
    try simp only [Act.put, Base.s1, Base.s2, Base.s3]
    intro KK hK
    go_simp
    exact hK _ _ hx (Below.refl _ _) rfl
  apply Rel.rel_one2 4 [(2, 14)] rfl (by kernel_rfl) (by kernel_rfl)
  case hs =>
    intro wx hx
    rintro _ rfl
    have q1 := qcell hx 1 (.int .i64 field) rfl
    have q2 := qcell hx 2 (.string text) rfl
    have q5 := qcell hx 5 (.int .i64 n) rfl
    have q6 := qcell hx 6 (.int .u64 weight) rfl
    try simp only [Act.put, Base.s1, Base.s2, Base.s3]
    intro KK hK
    go_simp
    go_at_call 85
    refine (rdigits_int field F0.out F2.out wx).mono ?_
    rintro e wy ⟨rfl, hby⟩
    exact hK _ _ (bchain hx hby) hby rfl
  apply Rel.rel_one2 5 [] rfl (by kernel_rfl) (by kernel_rfl)
  case hs =>
    intro wx hx
    try simp only [Act.put, Base.s1, Base.s2, Base.s3]
    intro KK hK
    go_simp
    exact hK _ _ hx (Below.refl _ _) rfl
  apply Rel.rel_one2 6 [(4, 16)] rfl (by kernel_rfl) (by kernel_rfl)
  case hs =>
    intro wx hx
    rintro _ rfl
    have q1 := qcell hx 1 (.int .i64 field) rfl
    have q2 := qcell hx 2 (.string text) rfl
    have q5 := qcell hx 5 (.int .i64 n) rfl
    have q6 := qcell hx 6 (.int .u64 weight) rfl
    try simp only [Act.put, Base.s1, Base.s2, Base.s3]
    intro KK hK
    go_simp
    exact hK _ _ hx (Below.refl _ _) rfl
  apply Rel.rel_one2 7 [(5, 17)] rfl (by kernel_rfl) (by kernel_rfl)
  case hs =>
    intro wx hx
    rintro _ rfl
    try simp only [Act.put, Base.s1, Base.s2, Base.s3]
    intro KK hK
    go_simp
    exact hK _ _ hx (Below.refl _ _) rfl
  apply Rel.rel_one2 8 [(6, 18)] rfl (by kernel_rfl) (by kernel_rfl)
  case hs =>
    intro wx hx
    rintro _ rfl
    have q1 := qcell hx 1 (.int .i64 field) rfl
    have q2 := qcell hx 2 (.string text) rfl
    have q5 := qcell hx 5 (.int .i64 n) rfl
    have q6 := qcell hx 6 (.int .u64 weight) rfl
    try simp only [Act.put, Base.s1, Base.s2, Base.s3]
    intro KK hK
    go_simp
    go_at_call 85
    refine (rdigits_int n N0.out N2.out wx).mono ?_
    rintro e wy ⟨rfl, hby⟩
    exact hK _ _ (bchain hx hby) hby rfl
  apply Rel.rel_one2 9 [] rfl (by kernel_rfl) (by kernel_rfl)
  case hs =>
    intro wx hx
    try simp only [Act.put, Base.s1, Base.s2, Base.s3]
    intro KK hK
    go_simp
    exact hK _ _ hx (Below.refl _ _) rfl
  apply Rel.rel_one2 10 [(8, 20)] rfl (by kernel_rfl) (by kernel_rfl)
  case hs =>
    intro wx hx
    rintro _ rfl
    have q1 := qcell hx 1 (.int .i64 field) rfl
    have q2 := qcell hx 2 (.string text) rfl
    have q5 := qcell hx 5 (.int .i64 n) rfl
    have q6 := qcell hx 6 (.int .u64 weight) rfl
    try simp only [Act.put, Base.s1, Base.s2, Base.s3]
    intro KK hK
    go_simp
    exact hK _ _ hx (Below.refl _ _) rfl
  apply Rel.rel_one2 11 [(9, 21)] rfl (by kernel_rfl) (by kernel_rfl)
  case hs =>
    intro wx hx
    rintro _ rfl
    have q1 := qcell hx 1 (.int .i64 field) rfl
    have q2 := qcell hx 2 (.string text) rfl
    have q5 := qcell hx 5 (.int .i64 n) rfl
    have q6 := qcell hx 6 (.int .u64 weight) rfl
    try simp only [Act.put, Base.s1, Base.s2, Base.s3]
    intro KK hK
    go_simp
    go_at_call 85
    refine (rdigits_int weight W0.out W2.out wx).mono ?_
    rintro e wy ⟨rfl, hby⟩
    exact hK _ _ (bchain hx hby) hby rfl
  apply Rel.rel_one2 12 [] rfl (by kernel_rfl) (by kernel_rfl)
  case hs =>
    intro wx hx
    try simp only [Act.put, Base.s1, Base.s2, Base.s3]
    intro KK hK
    go_simp
    exact hK _ _ hx (Below.refl _ _) rfl
  apply Rel.rel_one2 13 [(11, 23)] rfl (by kernel_rfl) (by kernel_rfl)
  case hs =>
    intro wx hx
    rintro _ rfl
    have q1 := qcell hx 1 (.int .i64 field) rfl
    have q2 := qcell hx 2 (.string text) rfl
    have q5 := qcell hx 5 (.int .i64 n) rfl
    have q6 := qcell hx 6 (.int .u64 weight) rfl
    try simp only [Act.put, Base.s1, Base.s2, Base.s3]
    intro KK hK
    go_simp
    exact hK _ _ hx (Below.refl _ _) rfl
  apply Rel.rel_one2 14 [(12, 24)] rfl (by kernel_rfl) (by kernel_rfl)
  case hs =>
    intro wx hx
    rintro _ rfl
    have q1 := qcell hx 1 (.int .i64 field) rfl
    have q2 := qcell hx 2 (.string text) rfl
    have q5 := qcell hx 5 (.int .i64 n) rfl
    have q6 := qcell hx 6 (.int .u64 weight) rfl
    try simp only [Act.put, Base.s1, Base.s2, Base.s3]
    intro KK hK
    go_simp
    go_at_call 86
    refine (rquoted_any text wx (by have := SZ.out; omega)).mono ?_
    rintro e wy ⟨rfl, hby⟩
    exact hK _ _ (bchain hx hby) hby rfl
  apply Rel.rel_one2 15 [(3, 15)] rfl (by kernel_rfl) (by kernel_rfl)
  case hs =>
    intro wx hx
    rintro _ rfl
    try simp only [Act.put, Base.s1, Base.s2, Base.s3]
    intro KK hK
    go_simp
    exact hK _ _ hx (Below.refl _ _) rfl
  apply Rel.rel_one2 16 [(7, 19)] rfl (by kernel_rfl) (by kernel_rfl)
  case hs =>
    intro wx hx
    rintro _ rfl
    try simp only [Act.put, Base.s1, Base.s2, Base.s3]
    intro KK hK
    go_simp
    exact hK _ _ hx (Below.refl _ _) rfl
  apply Rel.rel_one2 17 [(10, 22)] rfl (by kernel_rfl) (by kernel_rfl)
  case hs =>
    intro wx hx
    rintro _ rfl
    try simp only [Act.put, Base.s1, Base.s2, Base.s3]
    intro KK hK
    go_simp
    exact hK _ _ hx (Below.refl _ _) rfl
  apply Rel.rel_one2 18 [(13, 25)] rfl (by kernel_rfl) (by kernel_rfl)
  case hs =>
    intro wx hx
    rintro _ rfl
    try simp only [Act.put, Base.s1, Base.s2, Base.s3]
    intro KK hK
    go_simp
    exact hK _ _ hx (Below.refl _ _) rfl
  refine Rel.rel_end [(0, 12), (1, 13), (2, 14), (3, 15), (4, 16), (5, 17), (6, 18), (7, 19), (8, 20), (9, 21), (10, 22), (11, 23), (12, 24), (13, 25), (14, 3), (15, 4), (16, 5), (17, 6)] (by kernel_rfl) (by kernel_rfl) ?_
  intro wx hx
  rintro _ rfl _ rfl _ rfl _ rfl _ rfl _ rfl _ rfl _ rfl _ rfl _ rfl _ rfl _ rfl _ rfl _ rfl _ rfl _ rfl _ rfl _ rfl
  try simp only [Act.put, Base.s1, Base.s2, Base.s3]
  refine Rel.valsD_ret ?_
  have q14 := qcell hx 14 (.slice A4 0 c4) rfl
  have q0 := qcell hx 0 (.int .i64 7) rfl
  generalize hd1 : Lib.decDigits field.toNat = D1 at *
  generalize hd2 : Lib.decDigits n.toNat = D2 at *
  generalize hd3 : Lib.decDigits weight.toNat = D3 at *
  generalize hd4 : quoteL text = D4 at *
  have HD1 := Lib.hid hd1
  have HD2 := Lib.hid hd2
  have HD3 := Lib.hid hd3
  have HD4 := Lib.hid hd4
  clear hd1 hd2 hd3 hd4
  go_wp2_with fail
  refine wp_loop_rounds 1 ?_
  rw [rounds_succ]
  go_wp2_with (refine wpList_sadd (by rfl) (by rfl) (by simp only [List.length_append, List.length_cons, List.length_nil]; omega) ?_)
  go_ret
  refine ⟨congrArg (fun l : List UInt8 => Ending.returned (.string ⟨l.toArray⟩)) ?_, bchain hbW hx⟩
  rw [← HD1.out, ← HD4.out]
  simp [lineL, bodyL, kidsL, hasOf, num]

set_option maxHeartbeats 4000000 in
theorem rtext_k8 (hd : Head) (hk : hd.kind = 8) (hw : Hwf hd) (hg : locB 16 false hd 0 = true) (A1 A2 A3 A4 : Option Addr) (c1 c2 c3 c4 : Nat) (w : World) (hbk : hbulk hd ≤ 1099511627776) :
    Calls Tryz.prog 48 #[.agg (qcells hd 0 A1 A2 A3 A4 c1 c2 c3 c4)] w fun e w' => e = .returned (.string ⟨(lineL (.mk hd [])).toArray⟩) ∧ Below w.heap.size w w' := by
  obtain ⟨hk1, hk2, ok⟩ := ok_of hg
  have hwt := wt_head hw (nk := 0)
  have hbl := body_len (by decide) hg hwt
  have hF := i64_of hw.field
  have hN := i64_of hw.n
  have hW := u64_of hw.weight
  obtain ⟨z1, z2, z3⟩ := bulk_parts hd
  rw [hk] at ok
  obtain ⟨kind, field, text, terms, offs, n, weight, lo, hi, occur⟩ := hd
  simp only at hk hF hN hW z1 z2 z3
  subst hk
  have okn := ok.n0
  simp only at okn
  have hf0 := f0_of ok
  simp only at hf0
  have hcF : IntKind.u64.wrap field = field := by show field % 18446744073709551616 = field; omega
  have hcN : IntKind.u64.wrap n = n := by show n % 18446744073709551616 = n; omega
  have lF : (Lib.decDigits field.toNat).length ≤ 20 := dd_len (by omega)
  have lN : (Lib.decDigits n.toNat).length ≤ 20 := dd_len (by omega)
  have lW : (Lib.decDigits weight.toNat).length ≤ 20 := dd_len (by omega)
  have lT := quote_len text
  obtain ⟨W1, hW1⟩ : ∃ W, W = w.alloc (.cells (qcells ⟨8, field, text, terms, offs, n, weight, lo, hi, occur⟩ 0 A1 A2 A3 A4 c1 c2 c3 c4) 29) := ⟨_, rfl⟩
  have K1 : Blk W1 w.heap.size 29 (qcells ⟨8, field, text, terms, offs, n, weight, lo, hi, occur⟩ 0 A1 A2 A3 A4 c1 c2 c3 c4) := by rw [hW1]; exact Blk.new w _ _
  have hsz : w.heap.size + 1 = W1.heap.size := by rw [hW1]; simp
  have hbW : Below w.heap.size w W1 := by rw [hW1]; (repeat (first | exact Below.refl _ _ | assumption | refine balloc ?_ _ | refine bdrew ?_ | refine bdrewN ?_ _ | refine bchain ?_ (by assumption)))
  have hlt1 : w.heap.size < W1.heap.size := by omega
  have qcell : ∀ {wx : World} (hx : Below W1.heap.size W1 wx) (j : Nat) (u : Value) (_ : (qcells ⟨8, field, text, terms, offs, n, weight, lo, hi, occur⟩ 0 A1 A2 A3 A4 c1 c2 c3 c4)[j]? = some u), wx.cell? ⟨w.heap.size, j, none⟩ = some u := fun hx j u hu => ((K1.below hx hlt1).cell j).trans hu
  have F0 := Lib.hid hf0
  have F2 := Lib.hid (show field < 18446744073709551616 by omega)
  have N0 := Lib.hid okn
  have N2 := Lib.hid (show n < 18446744073709551616 by omega)
  have W0 := Lib.hid hW.1
  have W2 := Lib.hid hW.2
  have SZ := Lib.hid (show text.size ≤ 1099511627776 by omega)
  have SL := Lib.hid (show lo.text.size ≤ 1099511627776 by omega)
  have SH := Lib.hid (show hi.text.size ≤ 1099511627776 by omega)
  have hts : text.size ≤ 1099511627776 := by omega
  unfold qcells at hW1 ⊢
  have HW := Lib.hid hW1
  clear hW1 hsz hF hN hW z1 z2 z3 okn hf0 hk1 hk2 hwt
  have HL := Lib.hid (show lineL (.mk ⟨8, field, text, terms, offs, n, weight, lo, hi, occur⟩ []) = lineL (.mk ⟨8, field, text, terms, offs, n, weight, lo, hi, occur⟩ []) from rfl)
  clear hbk hbl hg ok hw
  go_enter Tryz.func48, Tryz.ntmps48
  go_upto_region 1 with fail
  rw [← HW.out]
  refine Rel.wp_region_rel (fun wx => Below W1.heap.size W1 wx) (fun wa wb => Below wa.heap.size wa wb) (by kernel_rfl) (by kernel_rfl) (bdrew (Below.refl _ _)) (fun _ => Below.refl _ _) ?_
  apply Rel.rel_one2 1 [] rfl (by kernel_rfl) (by kernel_rfl)
  case hs =>
    intro wx hx
    try simp only [Act.put, Base.s1, Base.s2, Base.s3]
    intro KK hK
    go_simp
    exact hK _ _ hx (Below.refl _ _) rfl
  apply Rel.rel_one2 2 [(0, 12)] rfl (by kernel_rfl) (by kernel_rfl)
  case hs =>
    intro wx hx
    rintro _ rfl
    have q1 := qcell hx 1 (.int .i64 field) rfl
    have q2 := qcell hx 2 (.string text) rfl
    have q5 := qcell hx 5 (.int .i64 n) rfl
    have q6 := qcell hx 6 (.int .u64 weight) rfl
    try simp only [Act.put, Base.s1, Base.s2, Base.s3]
    intro KK hK
    go_simp
    exact hK _ _ hx (Below.refl _ _) rfl
  apply Rel.rel_one2 3 [(1, 13)] rfl (by kernel_rfl) (by kernel_rfl)
  case hs =>
    intro wx hx
    rintro _ rfl
    try simp only [Act.put, Base.s1, Base.s2, Base.s3]
    intro KK hK
    go_simp
    exact hK _ _ hx (Below.refl _ _) rfl
  apply Rel.rel_one2 4 [(2, 14)] rfl (by kernel_rfl) (by kernel_rfl)
  case hs =>
    intro wx hx
    rintro _ rfl
    have q1 := qcell hx 1 (.int .i64 field) rfl
    have q2 := qcell hx 2 (.string text) rfl
    have q5 := qcell hx 5 (.int .i64 n) rfl
    have q6 := qcell hx 6 (.int .u64 weight) rfl
    try simp only [Act.put, Base.s1, Base.s2, Base.s3]
    intro KK hK
    go_simp
    go_at_call 85
    refine (rdigits_int field F0.out F2.out wx).mono ?_
    rintro e wy ⟨rfl, hby⟩
    exact hK _ _ (bchain hx hby) hby rfl
  apply Rel.rel_one2 5 [] rfl (by kernel_rfl) (by kernel_rfl)
  case hs =>
    intro wx hx
    try simp only [Act.put, Base.s1, Base.s2, Base.s3]
    intro KK hK
    go_simp
    exact hK _ _ hx (Below.refl _ _) rfl
  apply Rel.rel_one2 6 [(4, 16)] rfl (by kernel_rfl) (by kernel_rfl)
  case hs =>
    intro wx hx
    rintro _ rfl
    have q1 := qcell hx 1 (.int .i64 field) rfl
    have q2 := qcell hx 2 (.string text) rfl
    have q5 := qcell hx 5 (.int .i64 n) rfl
    have q6 := qcell hx 6 (.int .u64 weight) rfl
    try simp only [Act.put, Base.s1, Base.s2, Base.s3]
    intro KK hK
    go_simp
    exact hK _ _ hx (Below.refl _ _) rfl
  apply Rel.rel_one2 7 [(5, 17)] rfl (by kernel_rfl) (by kernel_rfl)
  case hs =>
    intro wx hx
    rintro _ rfl
    try simp only [Act.put, Base.s1, Base.s2, Base.s3]
    intro KK hK
    go_simp
    exact hK _ _ hx (Below.refl _ _) rfl
  apply Rel.rel_one2 8 [(6, 18)] rfl (by kernel_rfl) (by kernel_rfl)
  case hs =>
    intro wx hx
    rintro _ rfl
    have q1 := qcell hx 1 (.int .i64 field) rfl
    have q2 := qcell hx 2 (.string text) rfl
    have q5 := qcell hx 5 (.int .i64 n) rfl
    have q6 := qcell hx 6 (.int .u64 weight) rfl
    try simp only [Act.put, Base.s1, Base.s2, Base.s3]
    intro KK hK
    go_simp
    go_at_call 85
    refine (rdigits_int n N0.out N2.out wx).mono ?_
    rintro e wy ⟨rfl, hby⟩
    exact hK _ _ (bchain hx hby) hby rfl
  apply Rel.rel_one2 9 [] rfl (by kernel_rfl) (by kernel_rfl)
  case hs =>
    intro wx hx
    try simp only [Act.put, Base.s1, Base.s2, Base.s3]
    intro KK hK
    go_simp
    exact hK _ _ hx (Below.refl _ _) rfl
  apply Rel.rel_one2 10 [(8, 20)] rfl (by kernel_rfl) (by kernel_rfl)
  case hs =>
    intro wx hx
    rintro _ rfl
    have q1 := qcell hx 1 (.int .i64 field) rfl
    have q2 := qcell hx 2 (.string text) rfl
    have q5 := qcell hx 5 (.int .i64 n) rfl
    have q6 := qcell hx 6 (.int .u64 weight) rfl
    try simp only [Act.put, Base.s1, Base.s2, Base.s3]
    intro KK hK
    go_simp
    exact hK _ _ hx (Below.refl _ _) rfl
  apply Rel.rel_one2 11 [(9, 21)] rfl (by kernel_rfl) (by kernel_rfl)
  case hs =>
    intro wx hx
    rintro _ rfl
    have q1 := qcell hx 1 (.int .i64 field) rfl
    have q2 := qcell hx 2 (.string text) rfl
    have q5 := qcell hx 5 (.int .i64 n) rfl
    have q6 := qcell hx 6 (.int .u64 weight) rfl
    try simp only [Act.put, Base.s1, Base.s2, Base.s3]
    intro KK hK
    go_simp
    go_at_call 85
    refine (rdigits_int weight W0.out W2.out wx).mono ?_
    rintro e wy ⟨rfl, hby⟩
    exact hK _ _ (bchain hx hby) hby rfl
  apply Rel.rel_one2 12 [] rfl (by kernel_rfl) (by kernel_rfl)
  case hs =>
    intro wx hx
    try simp only [Act.put, Base.s1, Base.s2, Base.s3]
    intro KK hK
    go_simp
    exact hK _ _ hx (Below.refl _ _) rfl
  apply Rel.rel_one2 13 [(11, 23)] rfl (by kernel_rfl) (by kernel_rfl)
  case hs =>
    intro wx hx
    rintro _ rfl
    have q1 := qcell hx 1 (.int .i64 field) rfl
    have q2 := qcell hx 2 (.string text) rfl
    have q5 := qcell hx 5 (.int .i64 n) rfl
    have q6 := qcell hx 6 (.int .u64 weight) rfl
    try simp only [Act.put, Base.s1, Base.s2, Base.s3]
    intro KK hK
    go_simp
    exact hK _ _ hx (Below.refl _ _) rfl
  apply Rel.rel_one2 14 [(12, 24)] rfl (by kernel_rfl) (by kernel_rfl)
  case hs =>
    intro wx hx
    rintro _ rfl
    have q1 := qcell hx 1 (.int .i64 field) rfl
    have q2 := qcell hx 2 (.string text) rfl
    have q5 := qcell hx 5 (.int .i64 n) rfl
    have q6 := qcell hx 6 (.int .u64 weight) rfl
    try simp only [Act.put, Base.s1, Base.s2, Base.s3]
    intro KK hK
    go_simp
    go_at_call 86
    refine (rquoted_any text wx (by have := SZ.out; omega)).mono ?_
    rintro e wy ⟨rfl, hby⟩
    exact hK _ _ (bchain hx hby) hby rfl
  apply Rel.rel_one2 15 [(3, 15)] rfl (by kernel_rfl) (by kernel_rfl)
  case hs =>
    intro wx hx
    rintro _ rfl
    try simp only [Act.put, Base.s1, Base.s2, Base.s3]
    intro KK hK
    go_simp
    exact hK _ _ hx (Below.refl _ _) rfl
  apply Rel.rel_one2 16 [(7, 19)] rfl (by kernel_rfl) (by kernel_rfl)
  case hs =>
    intro wx hx
    rintro _ rfl
    try simp only [Act.put, Base.s1, Base.s2, Base.s3]
    intro KK hK
    go_simp
    exact hK _ _ hx (Below.refl _ _) rfl
  apply Rel.rel_one2 17 [(10, 22)] rfl (by kernel_rfl) (by kernel_rfl)
  case hs =>
    intro wx hx
    rintro _ rfl
    try simp only [Act.put, Base.s1, Base.s2, Base.s3]
    intro KK hK
    go_simp
    exact hK _ _ hx (Below.refl _ _) rfl
  apply Rel.rel_one2 18 [(13, 25)] rfl (by kernel_rfl) (by kernel_rfl)
  case hs =>
    intro wx hx
    rintro _ rfl
    try simp only [Act.put, Base.s1, Base.s2, Base.s3]
    intro KK hK
    go_simp
    exact hK _ _ hx (Below.refl _ _) rfl
  refine Rel.rel_end [(0, 12), (1, 13), (2, 14), (3, 15), (4, 16), (5, 17), (6, 18), (7, 19), (8, 20), (9, 21), (10, 22), (11, 23), (12, 24), (13, 25), (14, 3), (15, 4), (16, 5), (17, 6)] (by kernel_rfl) (by kernel_rfl) ?_
  intro wx hx
  rintro _ rfl _ rfl _ rfl _ rfl _ rfl _ rfl _ rfl _ rfl _ rfl _ rfl _ rfl _ rfl _ rfl _ rfl _ rfl _ rfl _ rfl _ rfl
  try simp only [Act.put, Base.s1, Base.s2, Base.s3]
  refine Rel.valsD_ret ?_
  have q14 := qcell hx 14 (.slice A4 0 c4) rfl
  have q0 := qcell hx 0 (.int .i64 8) rfl
  generalize hd1 : Lib.decDigits field.toNat = D1 at *
  generalize hd2 : Lib.decDigits n.toNat = D2 at *
  generalize hd3 : Lib.decDigits weight.toNat = D3 at *
  generalize hd4 : quoteL text = D4 at *
  have HD1 := Lib.hid hd1
  have HD2 := Lib.hid hd2
  have HD3 := Lib.hid hd3
  have HD4 := Lib.hid hd4
  clear hd1 hd2 hd3 hd4
  go_wp2_with fail
  refine wp_loop_rounds 1 ?_
  rw [rounds_succ]
  go_wp2_with (refine wpList_sadd (by rfl) (by rfl) (by simp only [List.length_append, List.length_cons, List.length_nil]; omega) ?_)
  go_ret
  refine ⟨congrArg (fun l : List UInt8 => Ending.returned (.string ⟨l.toArray⟩)) ?_, bchain hbW hx⟩
  rw [← HD1.out, ← HD2.out, ← HD4.out]
  simp [lineL, bodyL, kidsL, hasOf, num]

end Go.Proofs.YtkcfgcdlnojaeaaGreatDoor.RefText1
