/-
  The walk of the reference's text over queries of some kinds.
-/
import Derived.Test.YtkcfgcdlnojaeaaGreatDoorDRefQ
import Derived.Test.YtkcfgcdlnojaeaaGreatDoorDRel
import Derived.Test.YtkcfgcdlnojaeaaGreatDoorDLine
set_option linter.unusedVariables false
set_option linter.unusedSimpArgs false
namespace Go.Proofs.YtkcfgcdlnojaeaaGreatDoor.RefText5
set_option maxRecDepth 100000
open Go.RowKit Go.PlainAid Base Query QrySize BindBase Bytes Digits Quoted QuoteAll NumAll Rel Relb RelbT TextPlain TextLine TextOne LineBase LineLeaf RefQuote RefDigits StrAdd

theorem rdigits_int (x : Int) (h0 : 0 ≤ x) (h1 : x < 18446744073709551616) (w : World) : Calls Tryz.prog 85 #[.int .u64 x] w fun e w' => e = .returned (.string ⟨(Lib.decDigits x.toNat).toArray⟩) ∧ Below w.heap.size w w' := by
  obtain ⟨n, rfl⟩ : ∃ n : Nat, x = n := ⟨x.toNat, (Int.toNat_of_nonneg h0).symm⟩
  exact rdigits_any n w (by omega)

set_option maxHeartbeats 4000000 in
theorem rtext_k5 (hd : Head) (hk : hd.kind = 5) (hw : Hwf hd) (hg : locB 16 false hd 0 = true) (A1 A2 A3 A4 : Option Addr) (c1 c2 c3 c4 : Nat) (w : World) (hbk : hbulk hd ≤ 1099511627776) (s1 : Slc w w.heap.size A1 (strs hd.terms)) (s2 : Slc w w.heap.size A2 (ints hd.offs)) :
    Calls Tryz.prog 48 #[.agg (qcells hd 0 A1 A2 A3 A4 c1 c2 c3 c4)] w fun e w' => e = .returned (.string ⟨(lineL (.mk hd [])).toArray⟩) ∧ Below w.heap.size w w' := by
  obtain ⟨hk1, hk2, ok⟩ := ok_of hg
  have hwt := wt_head hw (nk := 0)
  have hbl := body_len (by decide) hg hwt
  have hF := i64_of hw.field
  have hN := i64_of hw.n
  have hW := u64_of hw.weight
  obtain ⟨z1, z2, z3⟩ := bulk_parts hd
  rw [hk] at ok
  obtain ⟨kind, field, text, terms, offs, n, weight, lo, hi, occur⟩ := hd
  simp only at hk hF hN hW z1 z2 z3
  subst hk
  have okn := ok.n0
  have hlen := ok.s0
  have hoff0 := ok.s2
  have hoff1 : ∀ o ∈ offs, o < 9223372036854775808 := fun o ho => (i64_of (hw.offs o ho)).2
  have hnt : terms.length ≤ 9223372036854775807 := hw.nterms
  have hts2 : ∀ t ∈ terms, t.size ≤ 1099511627776 := fun t ht => by
    have h1 := LinePhrase.sum_mem ht
    have h2 : (terms.map fun t => t.size + 1).sum ≤ hbulk ⟨5, field, text, terms, offs, n, weight, lo, hi, occur⟩ := by unfold hbulk; simp only; omega
    omega
  have htl : ∀ j, j ≤ terms.length → (termsL terms offs j).length ≤ 24 * hbulk ⟨5, field, text, terms, offs, n, weight, lo, hi, occur⟩ := fun j hj => by
    have h1 := terms_len terms offs (fun o ho => by have := hoff1 o ho; omega) j hj
    have h2 := LinePhrase.sum_take terms j
    have h3 : (terms.map fun t => t.size + 1).sum ≤ hbulk ⟨5, field, text, terms, offs, n, weight, lo, hi, occur⟩ := by unfold hbulk; simp only; omega
    omega
  simp only at hlen hoff0 s1 s2
  simp only at okn
  have hf0 := f0_of ok
  simp only at hf0
  have hcF : IntKind.u64.wrap field = field := by show field % 18446744073709551616 = field; omega
  have hcN : IntKind.u64.wrap n = n := by show n % 18446744073709551616 = n; omega
  have lF : (Lib.decDigits field.toNat).length ≤ 20 := dd_len (by omega)
  have lN : (Lib.decDigits n.toNat).length ≤ 20 := dd_len (by omega)
  have lW : (Lib.decDigits weight.toNat).length ≤ 20 := dd_len (by omega)
  have lT := quote_len text
  obtain ⟨W1, hW1⟩ : ∃ W, W = w.alloc (.cells (qcells ⟨5, field, text, terms, offs, n, weight, lo, hi, occur⟩ 0 A1 A2 A3 A4 c1 c2 c3 c4) 29) := ⟨_, rfl⟩
  have K1 : Blk W1 w.heap.size 29 (qcells ⟨5, field, text, terms, offs, n, weight, lo, hi, occur⟩ 0 A1 A2 A3 A4 c1 c2 c3 c4) := by rw [hW1]; exact Blk.new w _ _
  have hsz : w.heap.size + 1 = W1.heap.size := by rw [hW1]; simp
  have hbW : Below w.heap.size w W1 := by rw [hW1]; (repeat (first | exact Below.refl _ _ | assumption | refine balloc ?_ _ | refine bdrew ?_ | refine bdrewN ?_ _ | refine bchain ?_ (by assumption)))
  have hlt1 : w.heap.size < W1.heap.size := by omega
  have qcell : ∀ {wx : World} (hx : Below W1.heap.size W1 wx) (j : Nat) (u : Value) (_ : (qcells ⟨5, field, text, terms, offs, n, weight, lo, hi, occur⟩ 0 A1 A2 A3 A4 c1 c2 c3 c4)[j]? = some u), wx.cell? ⟨w.heap.size, j, none⟩ = some u := fun hx j u hu => ((K1.below hx hlt1).cell j).trans hu
  have F0 := Lib.hid hf0
  have F2 := Lib.hid (show field < 18446744073709551616 by omega)
  have N0 := Lib.hid okn
  have N2 := Lib.hid (show n < 18446744073709551616 by omega)
  have W0 := Lib.hid hW.1
  have W2 := Lib.hid hW.2
  have SZ := Lib.hid (show text.size ≤ 1099511627776 by omega)
  have SL := Lib.hid (show lo.text.size ≤ 1099511627776 by omega)
  have SH := Lib.hid (show hi.text.size ≤ 1099511627776 by omega)
  have hts : text.size ≤ 1099511627776 := by omega
  unfold qcells at hW1 ⊢
  have HW := Lib.hid hW1
  clear hW1 hsz hF hN hW z1 z2 z3 okn hf0 hk1 hk2 hwt
  have HLEN := Lib.hid hlen
  have HO0 := Lib.hid hoff0
  have HO1 := Lib.hid hoff1
  have HNT := Lib.hid hnt
  have HTS := Lib.hid hts2
  have HTL := Lib.hid (show ∀ j, j ≤ terms.length → (termsL terms offs j).length ≤ 26388279066624 from fun j hj => by have := htl j hj; omega)
  have S1 := Lib.hid s1
  have S2 := Lib.hid s2
  have hsw : w.heap.size ≤ W1.heap.size := hbW.size
  clear hbk hbl hg ok hw hlen hoff0 hoff1 hnt hts2 htl s1 s2
  go_enter Tryz.func48, Tryz.ntmps48
  go_upto_region 1 with fail
  rw [← HW.out]
  refine Rel.wp_region_rel (fun wx => Below W1.heap.size W1 wx) (fun wa wb => Below wa.heap.size wa wb) (by kernel_rfl) (by kernel_rfl) (bdrew (Below.refl _ _)) (fun _ => Below.refl _ _) ?_
  apply Rel.rel_one2 1 [] rfl (by kernel_rfl) (by kernel_rfl)
  case hs =>
    intro wx hx
    try simp only [Act.put, Base.s1, Base.s2, Base.s3]
    intro KK hK
    go_simp
    exact hK _ _ hx (Below.refl _ _) rfl
  apply Rel.rel_one2 2 [(0, 12)] rfl (by kernel_rfl) (by kernel_rfl)
  case hs =>
    intro wx hx
    rintro _ rfl
    have q1 := qcell hx 1 (.int .i64 field) rfl
    have q2 := qcell hx 2 (.string text) rfl
    have q5 := qcell hx 5 (.int .i64 n) rfl
    have q6 := qcell hx 6 (.int .u64 weight) rfl
    try simp only [Act.put, Base.s1, Base.s2, Base.s3]
    intro KK hK
    go_simp
    exact hK _ _ hx (Below.refl _ _) rfl
  apply Rel.rel_one2 3 [(1, 13)] rfl (by kernel_rfl) (by kernel_rfl)
  case hs =>
    intro wx hx
    rintro _ rfl
    try simp only [Act.put, Base.s1, Base.s2, Base.s3]
    intro KK hK
    go_simp
    exact hK _ _ hx (Below.refl _ _) rfl
  apply Rel.rel_one2 4 [(2, 14)] rfl (by kernel_rfl) (by kernel_rfl)
  case hs =>
    intro wx hx
    rintro _ rfl
    have q1 := qcell hx 1 (.int .i64 field) rfl
    have q2 := qcell hx 2 (.string text) rfl
    have q5 := qcell hx 5 (.int .i64 n) rfl
    have q6 := qcell hx 6 (.int .u64 weight) rfl
    try simp only [Act.put, Base.s1, Base.s2, Base.s3]
    intro KK hK
    go_simp
    go_at_call 85
    refine (rdigits_int field F0.out F2.out wx).mono ?_
    rintro e wy ⟨rfl, hby⟩
    exact hK _ _ (bchain hx hby) hby rfl
  apply Rel.rel_one2 5 [] rfl (by kernel_rfl) (by kernel_rfl)
  case hs =>
    intro wx hx
    try simp only [Act.put, Base.s1, Base.s2, Base.s3]
    intro KK hK
    go_simp
    exact hK _ _ hx (Below.refl _ _) rfl
  apply Rel.rel_one2 6 [(4, 16)] rfl (by kernel_rfl) (by kernel_rfl)
  case hs =>
    intro wx hx
    rintro _ rfl
    have q1 := qcell hx 1 (.int .i64 field) rfl
    have q2 := qcell hx 2 (.string text) rfl
    have q5 := qcell hx 5 (.int .i64 n) rfl
    have q6 := qcell hx 6 (.int .u64 weight) rfl
    try simp only [Act.put, Base.s1, Base.s2, Base.s3]
    intro KK hK
    go_simp
    exact hK _ _ hx (Below.refl _ _) rfl
  apply Rel.rel_one2 7 [(5, 17)] rfl (by kernel_rfl) (by kernel_rfl)
  case hs =>
    intro wx hx
    rintro _ rfl
    try simp only [Act.put, Base.s1, Base.s2, Base.s3]
    intro KK hK
    go_simp
    exact hK _ _ hx (Below.refl _ _) rfl
  apply Rel.rel_one2 8 [(6, 18)] rfl (by kernel_rfl) (by kernel_rfl)
  case hs =>
    intro wx hx
    rintro _ rfl
    have q1 := qcell hx 1 (.int .i64 field) rfl
    have q2 := qcell hx 2 (.string text) rfl
    have q5 := qcell hx 5 (.int .i64 n) rfl
    have q6 := qcell hx 6 (.int .u64 weight) rfl
    try simp only [Act.put, Base.s1, Base.s2, Base.s3]
    intro KK hK
    go_simp
    go_at_call 85
    refine (rdigits_int n N0.out N2.out wx).mono ?_
    rintro e wy ⟨rfl, hby⟩
    exact hK _ _ (bchain hx hby) hby rfl
  apply Rel.rel_one2 9 [] rfl (by kernel_rfl) (by kernel_rfl)
  case hs =>
    intro wx hx
    try simp only [Act.put, Base.s1, Base.s2, Base.s3]
    intro KK hK
    go_simp
    exact hK _ _ hx (Below.refl _ _) rfl
  apply Rel.rel_one2 10 [(8, 20)] rfl (by kernel_rfl) (by kernel_rfl)
  case hs =>
    intro wx hx
    rintro _ rfl
    have q1 := qcell hx 1 (.int .i64 field) rfl
    have q2 := qcell hx 2 (.string text) rfl
    have q5 := qcell hx 5 (.int .i64 n) rfl
    have q6 := qcell hx 6 (.int .u64 weight) rfl
    try simp only [Act.put, Base.s1, Base.s2, Base.s3]
    intro KK hK
    go_simp
    exact hK _ _ hx (Below.refl _ _) rfl
  apply Rel.rel_one2 11 [(9, 21)] rfl (by kernel_rfl) (by kernel_rfl)
  case hs =>
    intro wx hx
    rintro _ rfl
    have q1 := qcell hx 1 (.int .i64 field) rfl
    have q2 := qcell hx 2 (.string text) rfl
    have q5 := qcell hx 5 (.int .i64 n) rfl
    have q6 := qcell hx 6 (.int .u64 weight) rfl
    try simp only [Act.put, Base.s1, Base.s2, Base.s3]
    intro KK hK
    go_simp
    go_at_call 85
    refine (rdigits_int weight W0.out W2.out wx).mono ?_
    rintro e wy ⟨rfl, hby⟩
    exact hK _ _ (bchain hx hby) hby rfl
  apply Rel.rel_one2 12 [] rfl (by kernel_rfl) (by kernel_rfl)
  case hs =>
    intro wx hx
    try simp only [Act.put, Base.s1, Base.s2, Base.s3]
    intro KK hK
    go_simp
    exact hK _ _ hx (Below.refl _ _) rfl
  apply Rel.rel_one2 13 [(11, 23)] rfl (by kernel_rfl) (by kernel_rfl)
  case hs =>
    intro wx hx
    rintro _ rfl
    have q1 := qcell hx 1 (.int .i64 field) rfl
    have q2 := qcell hx 2 (.string text) rfl
    have q5 := qcell hx 5 (.int .i64 n) rfl
    have q6 := qcell hx 6 (.int .u64 weight) rfl
    try simp only [Act.put, Base.s1, Base.s2, Base.s3]
    intro KK hK
    go_simp
    exact hK _ _ hx (Below.refl _ _) rfl
  apply Rel.rel_one2 14 [(12, 24)] rfl (by kernel_rfl) (by kernel_rfl)
  case hs =>
    intro wx hx
    rintro _ rfl
    have q1 := qcell hx 1 (.int .i64 field) rfl
    have q2 := qcell hx 2 (.string text) rfl
    have q5 := qcell hx 5 (.int .i64 n) rfl
    have q6 := qcell hx 6 (.int .u64 weight) rfl
    try simp only [Act.put, Base.s1, Base.s2, Base.s3]
    intro KK hK
    go_simp
    go_at_call 86
    refine (rquoted_any text wx (by have := SZ.out; omega)).mono ?_
    rintro e wy ⟨rfl, hby⟩
    exact hK _ _ (bchain hx hby) hby rfl
  apply Rel.rel_one2 15 [(3, 15)] rfl (by kernel_rfl) (by kernel_rfl)
  case hs =>
    intro wx hx
    rintro _ rfl
    try simp only [Act.put, Base.s1, Base.s2, Base.s3]
    intro KK hK
    go_simp
    exact hK _ _ hx (Below.refl _ _) rfl
  apply Rel.rel_one2 16 [(7, 19)] rfl (by kernel_rfl) (by kernel_rfl)
  case hs =>
    intro wx hx
    rintro _ rfl
    try simp only [Act.put, Base.s1, Base.s2, Base.s3]
    intro KK hK
    go_simp
    exact hK _ _ hx (Below.refl _ _) rfl
  apply Rel.rel_one2 17 [(10, 22)] rfl (by kernel_rfl) (by kernel_rfl)
  case hs =>
    intro wx hx
    rintro _ rfl
    try simp only [Act.put, Base.s1, Base.s2, Base.s3]
    intro KK hK
    go_simp
    exact hK _ _ hx (Below.refl _ _) rfl
  apply Rel.rel_one2 18 [(13, 25)] rfl (by kernel_rfl) (by kernel_rfl)
  case hs =>
    intro wx hx
    rintro _ rfl
    try simp only [Act.put, Base.s1, Base.s2, Base.s3]
    intro KK hK
    go_simp
    exact hK _ _ hx (Below.refl _ _) rfl
  refine Rel.rel_end [(0, 12), (1, 13), (2, 14), (3, 15), (4, 16), (5, 17), (6, 18), (7, 19), (8, 20), (9, 21), (10, 22), (11, 23), (12, 24), (13, 25), (14, 3), (15, 4), (16, 5), (17, 6)] (by kernel_rfl) (by kernel_rfl) ?_
  intro w5 hx5
  rintro _ rfl _ rfl _ rfl _ rfl _ rfl _ rfl _ rfl _ rfl _ rfl _ rfl _ rfl _ rfl _ rfl _ rfl _ rfl _ rfl _ rfl _ rfl
  try simp only [Act.put, Base.s1, Base.s2, Base.s3]
  refine Rel.valsD_ret ?_
  have q14 := qcell hx5 14 (.slice A4 0 c4) rfl
  have q0 := qcell hx5 0 (.int .i64 5) rfl
  have q3 := qcell hx5 3 (.slice A1 terms.length c1) rfl
  generalize hd1 : Lib.decDigits field.toNat = D1 at *
  generalize hd2 : Lib.decDigits n.toNat = D2 at *
  generalize hd3 : Lib.decDigits weight.toNat = D3 at *
  generalize hd4 : quoteL text = D4 at *
  have HD1 := Lib.hid hd1
  have HD2 := Lib.hid hd2
  have HD3 := Lib.hid hd3
  have HD4 := Lib.hid hd4
  clear hd1 hd2 hd3 hd4
  go_wp2_with fail
  refine wp_loop_rounds 1 ?_
  rw [rounds_succ]
  go_upto_region 24 with fail
  have hB0 : ((⟨#[40, 112, 104, 114, 97, 115, 101, 32]⟩ : ByteArray) ++ (⟨D1.toArray⟩ : ByteArray) ++ (⟨#[32]⟩ : ByteArray) ++ (⟨D2.toArray⟩ : ByteArray) ++ (⟨#[32]⟩ : ByteArray) ++ (⟨D3.toArray⟩ : ByteArray)) = ⟨([40, 112, 104, 114, 97, 115, 101, 32] ++ D1 ++ [32] ++ D2 ++ [32] ++ D3).toArray⟩ := by
    rw [ba_app [40, 112, 104, 114, 97, 115, 101, 32] D1, ba_app _ [32], ba_app _ D2, ba_app _ [32], ba_app _ D3]
  obtain ⟨P0, hP0⟩ : ∃ P0, P0 = [40, 112, 104, 114, 97, 115, 101, 32] ++ D1 ++ [32] ++ D2 ++ [32] ++ D3 := ⟨_, rfl⟩
  rw [← hP0] at hB0
  rw [hB0]
  clear hB0
  have lP : P0.length ≤ 80 := by rw [hP0]; simp only [List.length_append, List.length_cons, List.length_nil]; omega
  have HP0 := Lib.hid hP0
  clear hP0
  go_wp2_with fail
  go_loopw [104, 10] (fun i u wr => ∃ j : Nat, j ≤ terms.length ∧ i = .int .i64 j ∧ u = .string ⟨(P0 ++ termsL terms offs j).toArray⟩ ∧ Below W1.heap.size W1 wr) (fun i _ _ => terms.length - (intOf i).toNat)
  case atStart => exact ⟨0, Nat.zero_le _, rfl, by rw [show termsL terms offs 0 = [] from rfl, List.append_nil], hx5⟩
  case round =>
    obtain ⟨j, hj, rfl, rfl, hbel⟩ := hrel
    have hnt := HNT.out
    have hT := HTL.out j hj
    rcases Nat.lt_or_ge j terms.length with hlt | hge
    · have hlen := HLEN.out
      obtain ⟨t, ht⟩ : ∃ t, terms[j]? = some t := ⟨_, List.getElem?_eq_getElem hlt⟩
      obtain ⟨o, ho⟩ : ∃ o, offs[j]? = some o := ⟨_, List.getElem?_eq_getElem (by omega)⟩
      obtain ⟨g1, o1, rfl, hg1, hc1⟩ := S1.out (by intro e; rw [show terms = [] by simpa [strs] using e] at hlt; simp at hlt)
      obtain ⟨g2, o2, rfl, hg2, hc2⟩ := S2.out (by intro e; rw [show offs = [] by simpa [ints] using e] at ho; simp at ho)
      have Y1 := Lib.hid (fun wx (hx : Below wr.heap.size wr wx) => ((bchain hbW (bchain hbel hx)).cell (p := ⟨g1, o1 + j, none⟩) hg1).trans (hc1 j (.string t) (by simp [strs, ht])))
      have Y2 := Lib.hid (fun wx (hx : Below wr.heap.size wr wx) => ((bchain hbW (bchain hbel hx)).cell (p := ⟨g2, o2 + j, none⟩) hg2).trans (hc2 j (.int .i64 o) (by simp [ints, ho])))
      have qcell6 : ∀ {wx : World} (hx : Below wr.heap.size wr wx) (j : Nat) (u : Value) (_ : (#[.int .i64 5, .int .i64 field, .string text, .slice (some ⟨g1, o1, none⟩) terms.length c1, .slice (some ⟨g2, o2, none⟩) offs.length c2, .int .i64 n, .int .u64 weight, .bool lo.op, .bool lo.inn, .string lo.text, .bool hi.op, .bool hi.inn, .string hi.text, .slice A3 occur.length c3, .slice A4 0 c4] : Array Value)[j]? = some u), wx.cell? ⟨w.heap.size, j, none⟩ = some u := fun hx j u hu => qcell (bchain hbel hx) j u hu
      have hss := HTS.out t (List.mem_of_getElem? ht)
      have HS := Lib.hid hss
      have HO2 := Lib.hid (HO0.out o (List.mem_of_getElem? ho))
      have hoo := HO1.out o (List.mem_of_getElem? ho)
      have HO3 := Lib.hid (show o < 18446744073709551616 by omega)
      have hco : IntKind.u64.wrap o = o := by have := HO2.out; show o % 18446744073709551616 = o; omega
      have lo1 : (Lib.decDigits o.toNat).length ≤ 20 := dd_len (by have := HO3.out; omega)
      have lt1 := quote_len t
      have HTj := Lib.hid (show (P0 ++ termsL terms offs j).length + (3 * t.size + 100) ≤ 9223372036854775807 by rw [List.length_append]; omega)
      have HTS1 := Lib.hid (show termsL terms offs (j + 1) = termsL terms offs j ++ term1 t o by rw [termsL_succ, ht, ho]; rfl)
      have hlt2 : (j : Int) < 9223372036854775807 := by omega
      have i1 : (j : Int) < (terms.length : Int) := by omega
      have i2 : (j : Int) < (offs.length : Int) := by omega
      have HBEL := Lib.hid hbel
      obtain ⟨R, hR⟩ : ∃ R, R = P0 ++ termsL terms offs j := ⟨_, rfl⟩
      rw [← hR] at HTj ⊢
      have HR := Lib.hid hR
      clear hR
      clear hc1 hc2 ht ho hlen hbel q3
      go_upto_region 27 with fail
      refine RelbT.wp_region_relbt 18 (fun wx => Below wr.heap.size wr wx) (fun wa wb => Below wa.heap.size wa wb) (by kernel_rfl) (by kernel_rfl) (by kernel_rfl) (by simp) (bdrew (Below.refl _ _)) ?_
      simp only [List.take_succ_cons, List.take_zero, List.drop_succ_cons, List.drop_zero]
      apply Relb.relb_one [] [] (by kernel_rfl) (by kernel_rfl) (by kernel_rfl)
      case hs =>
        intro vv wx hx hf
        clear hf
        try simp only [Relb.putD, Act.put, Base.s1, Base.s2, Base.s3]
        intro KK hK
        go_simp
        exact hK _ _ hx (Below.refl _ _) rfl
      apply Relb.relb_one [] [] (by kernel_rfl) (by kernel_rfl) (by kernel_rfl)
      case hs =>
        intro vv wx hx hf
        clear hf
        try simp only [Relb.putD, Act.put, Base.s1, Base.s2, Base.s3]
        intro KK hK
        go_simp
        exact hK _ _ hx (Below.refl _ _) rfl
      apply Relb.relb_one [(1, 108)] [1] (by kernel_rfl) (by kernel_rfl) (by kernel_rfl)
      case hs =>
        intro vv wx hx hf
        have e108 : vv 1 = _ := hf 1 (by simp)
        clear hf
        have q3 := qcell6 hx 3 (.slice (some ⟨g1, o1, none⟩) terms.length c1) rfl
        have q4 := qcell6 hx 4 (.slice (some ⟨g2, o2, none⟩) offs.length c2) rfl
        have y1 := Y1.out wx hx
        have y2 := Y2.out wx hx
        try simp only [Relb.putD, e108, Act.put, Base.s1, Base.s2, Base.s3]
        intro KK hK
        go_simp
        exact hK _ _ hx (Below.refl _ _) rfl
      apply Relb.relb_one [] [] (by kernel_rfl) (by kernel_rfl) (by kernel_rfl)
      case hs =>
        intro vv wx hx hf
        clear hf
        try simp only [Relb.putD, Act.put, Base.s1, Base.s2, Base.s3]
        intro KK hK
        go_simp
        exact hK _ _ hx (Below.refl _ _) rfl
      apply Relb.relb_one [(2, 109), (3, 110)] [2, 3] (by kernel_rfl) (by kernel_rfl) (by kernel_rfl)
      case hs =>
        intro vv wx hx hf
        have e109 : vv 2 = _ := hf 2 (by simp)
        have e110 : vv 3 = _ := hf 3 (by simp)
        clear hf
        try simp only [Relb.putD, e109, e110, Act.put, Base.s1, Base.s2, Base.s3]
        intro KK hK
        go_simp
        exact hK _ _ hx (Below.refl _ _) rfl
      apply Relb.relb_one [(4, 111)] [4] (by kernel_rfl) (by kernel_rfl) (by kernel_rfl)
      case hs =>
        intro vv wx hx hf
        have e111 : vv 4 = _ := hf 4 (by simp)
        clear hf
        have q3 := qcell6 hx 3 (.slice (some ⟨g1, o1, none⟩) terms.length c1) rfl
        have q4 := qcell6 hx 4 (.slice (some ⟨g2, o2, none⟩) offs.length c2) rfl
        have y1 := Y1.out wx hx
        have y2 := Y2.out wx hx
        try simp only [Relb.putD, e111, Act.put, Base.s1, Base.s2, Base.s3]
        intro KK hK
        go_simp
        exact hK _ _ hx (Below.refl _ _) rfl
      apply Relb.relb_one [(5, 112)] [5] (by kernel_rfl) (by kernel_rfl) (by kernel_rfl)
      case hs =>
        intro vv wx hx hf
        have e112 : vv 5 = _ := hf 5 (by simp)
        clear hf
        have q3 := qcell6 hx 3 (.slice (some ⟨g1, o1, none⟩) terms.length c1) rfl
        have q4 := qcell6 hx 4 (.slice (some ⟨g2, o2, none⟩) offs.length c2) rfl
        have y1 := Y1.out wx hx
        have y2 := Y2.out wx hx
        try simp only [Relb.putD, e112, Act.put, Base.s1, Base.s2, Base.s3]
        intro KK hK
        go_simp
        go_at_call 86
        refine (rquoted_any t wx (by have := HS.out; omega)).mono ?_
        rintro e wy ⟨rfl, hby⟩
        exact hK _ _ (bchain hx hby) hby rfl
      apply Relb.relb_one [(6, 113)] [6] (by kernel_rfl) (by kernel_rfl) (by kernel_rfl)
      case hs =>
        intro vv wx hx hf
        have e113 : vv 6 = _ := hf 6 (by simp)
        clear hf
        try simp only [Relb.putD, e113, Act.put, Base.s1, Base.s2, Base.s3]
        intro KK hK
        rw [if_pos (by rfl)]
        exact wp_sadd [32] _ (by rfl) (by rfl) (by rfl) (by simp only [List.length_append, List.length_cons, List.length_nil]; omega) (hK _ _ hx (Below.refl _ _) rfl)
      apply Relb.relb_one [(7, 114)] [7] (by kernel_rfl) (by kernel_rfl) (by kernel_rfl)
      case hs =>
        intro vv wx hx hf
        have e114 : vv 7 = _ := hf 7 (by simp)
        clear hf
        try simp only [Relb.putD, e114, Act.put, Base.s1, Base.s2, Base.s3]
        intro KK hK
        rw [if_pos (by rfl)]
        exact wp_sadd _ [64] (by rfl) (by rfl) (by rfl) (by simp only [List.length_append, List.length_cons, List.length_nil]; omega) (hK _ _ hx (Below.refl _ _) rfl)
      apply Relb.relb_one [] [] (by kernel_rfl) (by kernel_rfl) (by kernel_rfl)
      case hs =>
        intro vv wx hx hf
        clear hf
        try simp only [Relb.putD, Act.put, Base.s1, Base.s2, Base.s3]
        intro KK hK
        go_simp
        exact hK _ _ hx (Below.refl _ _) rfl
      apply Relb.relb_one [(9, 116)] [9] (by kernel_rfl) (by kernel_rfl) (by kernel_rfl)
      case hs =>
        intro vv wx hx hf
        have e116 : vv 9 = _ := hf 9 (by simp)
        clear hf
        have q3 := qcell6 hx 3 (.slice (some ⟨g1, o1, none⟩) terms.length c1) rfl
        have q4 := qcell6 hx 4 (.slice (some ⟨g2, o2, none⟩) offs.length c2) rfl
        have y1 := Y1.out wx hx
        have y2 := Y2.out wx hx
        try simp only [Relb.putD, e116, Act.put, Base.s1, Base.s2, Base.s3]
        intro KK hK
        go_simp
        exact hK _ _ hx (Below.refl _ _) rfl
      apply Relb.relb_one [] [] (by kernel_rfl) (by kernel_rfl) (by kernel_rfl)
      case hs =>
        intro vv wx hx hf
        clear hf
        try simp only [Relb.putD, Act.put, Base.s1, Base.s2, Base.s3]
        intro KK hK
        go_simp
        exact hK _ _ hx (Below.refl _ _) rfl
      apply Relb.relb_one [(10, 117), (11, 118)] [10, 11] (by kernel_rfl) (by kernel_rfl) (by kernel_rfl)
      case hs =>
        intro vv wx hx hf
        have e117 : vv 10 = _ := hf 10 (by simp)
        have e118 : vv 11 = _ := hf 11 (by simp)
        clear hf
        try simp only [Relb.putD, e117, e118, Act.put, Base.s1, Base.s2, Base.s3]
        intro KK hK
        go_simp
        exact hK _ _ hx (Below.refl _ _) rfl
      apply Relb.relb_one [(12, 119)] [12] (by kernel_rfl) (by kernel_rfl) (by kernel_rfl)
      case hs =>
        intro vv wx hx hf
        have e119 : vv 12 = _ := hf 12 (by simp)
        clear hf
        have q3 := qcell6 hx 3 (.slice (some ⟨g1, o1, none⟩) terms.length c1) rfl
        have q4 := qcell6 hx 4 (.slice (some ⟨g2, o2, none⟩) offs.length c2) rfl
        have y1 := Y1.out wx hx
        have y2 := Y2.out wx hx
        try simp only [Relb.putD, e119, Act.put, Base.s1, Base.s2, Base.s3]
        intro KK hK
        go_simp
        exact hK _ _ hx (Below.refl _ _) rfl
      apply Relb.relb_one [(13, 120)] [13] (by kernel_rfl) (by kernel_rfl) (by kernel_rfl)
      case hs =>
        intro vv wx hx hf
        have e120 : vv 13 = _ := hf 13 (by simp)
        clear hf
        try simp only [Relb.putD, e120, Act.put, Base.s1, Base.s2, Base.s3]
        intro KK hK
        go_simp
        exact hK _ _ hx (Below.refl _ _) rfl
      apply Relb.relb_one [(14, 121)] [14] (by kernel_rfl) (by kernel_rfl) (by kernel_rfl)
      case hs =>
        intro vv wx hx hf
        have e121 : vv 14 = _ := hf 14 (by simp)
        clear hf
        have q3 := qcell6 hx 3 (.slice (some ⟨g1, o1, none⟩) terms.length c1) rfl
        have q4 := qcell6 hx 4 (.slice (some ⟨g2, o2, none⟩) offs.length c2) rfl
        have y1 := Y1.out wx hx
        have y2 := Y2.out wx hx
        try simp only [Relb.putD, e121, Act.put, Base.s1, Base.s2, Base.s3]
        intro KK hK
        go_simp
        go_at_call 85
        refine (rdigits_int o HO2.out HO3.out wx).mono ?_
        rintro e wy ⟨rfl, hby⟩
        exact hK _ _ (bchain hx hby) hby rfl
      apply Relb.relb_one [(8, 115), (15, 122)] [8, 15] (by kernel_rfl) (by kernel_rfl) (by kernel_rfl)
      case hs =>
        intro vv wx hx hf
        have e115 : vv 8 = _ := hf 8 (by simp)
        have e122 : vv 15 = _ := hf 15 (by simp)
        clear hf
        try simp only [Relb.putD, e115, e122, Act.put, Base.s1, Base.s2, Base.s3]
        intro KK hK
        rw [if_pos (by rfl)]
        exact wp_sadd _ _ (by rfl) (by rfl) (by rfl) (by simp only [List.length_append, List.length_cons, List.length_nil]; omega) (hK _ _ hx (Below.refl _ _) rfl)
      apply Relb.relb_one [(0, 107), (16, 123)] [0, 16] (by kernel_rfl) (by kernel_rfl) (by kernel_rfl)
      case hs =>
        intro vv wx hx hf
        have e107 : vv 0 = _ := hf 0 (by simp)
        have e123 : vv 16 = _ := hf 16 (by simp)
        clear hf
        try simp only [Relb.putD, e107, e123, Act.put, Base.s1, Base.s2, Base.s3]
        intro KK hK
        rw [if_pos (by rfl)]
        exact wp_sadd _ _ (by rfl) (by rfl) (by rfl) (by have := HTj.out; simp only [List.length_append, List.length_cons, List.length_nil] at this ⊢; omega) (hK _ _ hx (Below.refl _ _) rfl)
      refine RelbT.relbt_end [(0, 107), (1, 108), (2, 109), (3, 110), (4, 111), (5, 112), (6, 113), (7, 114), (8, 115), (9, 116), (10, 117), (11, 118), (12, 119), (13, 120), (14, 121), (15, 122), (16, 123), (17, 124)] (by kernel_rfl) (by kernel_rfl) ?_
      intro vv wx hx hf
      have e107 : vv 0 = _ := hf 0 (by decide)
      have e108 : vv 1 = _ := hf 1 (by decide)
      have e109 : vv 2 = _ := hf 2 (by decide)
      have e110 : vv 3 = _ := hf 3 (by decide)
      have e111 : vv 4 = _ := hf 4 (by decide)
      have e112 : vv 5 = _ := hf 5 (by decide)
      have e113 : vv 6 = _ := hf 6 (by decide)
      have e114 : vv 7 = _ := hf 7 (by decide)
      have e115 : vv 8 = _ := hf 8 (by decide)
      have e116 : vv 9 = _ := hf 9 (by decide)
      have e117 : vv 10 = _ := hf 10 (by decide)
      have e118 : vv 11 = _ := hf 11 (by decide)
      have e119 : vv 12 = _ := hf 12 (by decide)
      have e120 : vv 13 = _ := hf 13 (by decide)
      have e121 : vv 14 = _ := hf 14 (by decide)
      have e122 : vv 15 = _ := hf 15 (by decide)
      have e123 : vv 16 = _ := hf 16 (by decide)
      have e124 : vv 17 = _ := hf 17 (by decide)
      clear hf
      simp only [Relb.putD, e107, e108, e109, e110, e111, e112, e113, e114, e115, e116, e117, e118, e119, e120, e121, e122, e123, e124, Act.put, Base.s1, Base.s2, Base.s3]
      go_wp2_with fail
      go_roundw
      case rel =>
        refine ⟨j + 1, by omega, by go_num, ?_, bchain HBEL.out hx⟩
        have e : P0 ++ termsL terms offs (j + 1) = R ++ ([32] ++ quoteL t ++ [64] ++ Lib.decDigits o.toNat) := by rw [HTS1.out, HR.out]; simp only [term1, List.append_assoc]
        rw [e]
      case measure => simp [intOf]; omega
    · obtain rfl : j = terms.length := by omega
      have q3' := qcell hbel 3 (.slice A1 terms.length c1) rfl
      have hl9 : (P0 ++ termsL terms offs terms.length).length + 100 ≤ 9223372036854775807 := by rw [List.length_append]; omega
      generalize hR : P0 ++ termsL terms offs terms.length = R at *
      have HR := Lib.hid hR
      clear hR
      go_wp2_with (refine wpList_sadd (by rfl) (by rfl) (by simp only [List.length_append, List.length_cons, List.length_nil]; omega) ?_)
      go_ret
      refine ⟨congrArg (fun l : List UInt8 => Ending.returned (.string ⟨l.toArray⟩)) ?_, bchain hbW hbel⟩
      rw [← HR.out, HP0.out, ← HD1.out, ← HD2.out, ← HD3.out]
      simp [lineL, bodyL, kidsL, hasOf, num]

end Go.Proofs.YtkcfgcdlnojaeaaGreatDoor.RefText5
