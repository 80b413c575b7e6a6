/-
  The walk of the reference's bare over whatever query.
-/
import Derived.Test.YtkcfgcdlnojaeaaGreatDoorNumbers
import Derived.Test.YtkcfgcdlnojaeaaGreatDoorDTextP
import Derived.Deep.Cut
set_option linter.unusedVariables false
set_option linter.unusedSimpArgs false
namespace Go.Proofs.YtkcfgcdlnojaeaaGreatDoor.RefBare4
set_option maxRecDepth 100000
open Go.RowKit Go.PlainAid Base Query QrySize BindBase TextPlain TextOne Numbers

theorem bset {a b : World} (h : Below a.heap.size a b) {ad : Addr} (hg : a.heap.size ≤ ad.block) (v : Value) : Below a.heap.size a (b.setCell ad v) := h.setCell hg v
theorem zi (x : Int) : (x = 0 ∧ (x != 0) = false) ∨ (x ≠ 0 ∧ (x != 0) = true) := by
  by_cases h : x = 0
  · exact Or.inl ⟨h, by rw [h]; rfl⟩
  · exact Or.inr ⟨h, bne_iff_ne.2 h⟩
theorem zn (x : Nat) : (x = 0 ∧ ((x : Int) == 0) = true) ∨ (x ≠ 0 ∧ ((x : Int) == 0) = false) := by
  by_cases h : x = 0
  · exact Or.inl ⟨h, beq_iff_eq.2 (by omega)⟩
  · exact Or.inr ⟨h, beq_eq_false_iff_ne.2 (by omega)⟩
theorem zt (x : ByteArray) : (x.size = 0 ∧ x.toList.isEmpty = true) ∨ (x.size ≠ 0 ∧ x.toList.isEmpty = false) := by
  rw [tl_empty]
  by_cases h : x.size = 0
  · exact Or.inl ⟨h, beq_iff_eq.2 h⟩
  · exact Or.inr ⟨h, beq_eq_false_iff_ne.2 h⟩

set_option maxHeartbeats 4000000 in
theorem bare_12 (hd : Head) (hk : hd.kind = 12) (nk : Nat) (A1 A2 A3 A4 : Option Addr) (c1 c2 c3 c4 : Nat) (w : World) :
    Calls Tryz.prog 105 #[.agg (qcells hd nk A1 A2 A3 A4 c1 c2 c3 c4)] w fun e w' => e = .returned (.bool (bareB hd nk)) ∧ Below w.heap.size w w' := by
  obtain ⟨kind, field, text, terms, offs, n, weight, ⟨lop, lin, lt⟩, ⟨hop, hin, ht⟩, occur⟩ := hd
  simp only at hk
  subst hk
  unfold qcells
  simp only
  obtain ⟨nt, hnt⟩ : ∃ nt, nt = terms.length := ⟨_, rfl⟩
  obtain ⟨nf, hnf⟩ : ∃ nf, nf = offs.length := ⟨_, rfl⟩
  obtain ⟨no, hno⟩ : ∃ no, no = occur.length := ⟨_, rfl⟩
  rw [← hnt, ← hnf, ← hno]
  have NT := Lib.hid hnt
  have NF := Lib.hid hnf
  have NO := Lib.hid hno
  clear hnt hnf hno
  go_enter Tryz.func105, Tryz.ntmps105
  go_upto_region 23 with fail
  rcases zi field with ⟨h_field, e_field⟩ | ⟨h_field, e_field⟩
  rcases zt text with ⟨h_text, e_text⟩ | ⟨h_text, e_text⟩
  rcases zi n with ⟨h_n, e_n⟩ | ⟨h_n, e_n⟩
  rcases zi weight with ⟨h_weight, e_weight⟩ | ⟨h_weight, e_weight⟩
  by_cases h_e : lop = false ∧ lin = false ∧ lt.size = 0 ∧ hop = false ∧ hin = false ∧ ht.size = 0
  obtain ⟨rfl, rfl, h_c, rfl, rfl, h_g⟩ := h_e
  obtain rfl := size0 h_c
  obtain rfl := size0 h_g
  rcases zn nt with ⟨h_nt, e_nt⟩ | ⟨h_nt, e_nt⟩
  rcases zn nf with ⟨h_nf, e_nf⟩ | ⟨h_nf, e_nf⟩
  rcases zn no with ⟨h_no, e_no⟩ | ⟨h_no, e_no⟩
  have HV := Lib.hid (show bareB ⟨12, field, text, terms, offs, n, weight, ⟨false, false, ByteArray.empty⟩, ⟨false, false, ByteArray.empty⟩, occur⟩ nk = true by (have h1 := NT.out; have h2 := NF.out; have h3 := NO.out; simp only [bareB, noEnd, ← h1, ← h2, ← h3]; clear h1 h2 h3; grind))
  all_goals (first | (have := HV; clear this) | have HV := Lib.hid (show bareB ⟨12, field, text, terms, offs, n, weight, ⟨lop, lin, lt⟩, ⟨hop, hin, ht⟩, occur⟩ nk = false by (have h1 := NT.out; have h2 := NF.out; have h3 := NO.out; simp only [bareB, noEnd, ← h1, ← h2, ← h3]; clear h1 h2 h3; grind)) | have HV := Lib.hid (show bareB ⟨12, field, text, terms, offs, n, weight, ⟨false, false, ByteArray.empty⟩, ⟨false, false, ByteArray.empty⟩, occur⟩ nk = false by (have h1 := NT.out; have h2 := NF.out; have h3 := NO.out; simp only [bareB, noEnd, ← h1, ← h2, ← h3]; clear h1 h2 h3; grind)))
  all_goals ((try clear h_field); (try clear h_text); (try clear h_n); (try clear h_weight); (try clear h_nt); (try clear h_nf); (try clear h_no); (try (have HE := Lib.hid h_e; clear h_e)); go_wp2_with fail)
  all_goals go_ret
  all_goals refine ⟨congrArg (fun b => Ending.returned (.bool b)) ?_, (by (repeat (first | exact Below.refl _ _ | assumption | refine balloc ?_ _ | refine bdrew ?_ | refine bdrewN ?_ _ | refine bset ?_ (by first | assumption | omega) _ | refine bchain ?_ (by assumption))))⟩
  all_goals (first | exact HV.out.symm | (rw [HV.out]; done) | (exfalso; apply HE.out; (simp only [tl_empty, tl_nil] at *); grind) | (rw [HV.out]; simp))

set_option maxHeartbeats 4000000 in
theorem bare_13 (hd : Head) (hk : hd.kind = 13) (nk : Nat) (A1 A2 A3 A4 : Option Addr) (c1 c2 c3 c4 : Nat) (w : World) :
    Calls Tryz.prog 105 #[.agg (qcells hd nk A1 A2 A3 A4 c1 c2 c3 c4)] w fun e w' => e = .returned (.bool (bareB hd nk)) ∧ Below w.heap.size w w' := by
  obtain ⟨kind, field, text, terms, offs, n, weight, ⟨lop, lin, lt⟩, ⟨hop, hin, ht⟩, occur⟩ := hd
  simp only at hk
  subst hk
  unfold qcells
  simp only
  obtain ⟨nt, hnt⟩ : ∃ nt, nt = terms.length := ⟨_, rfl⟩
  obtain ⟨nf, hnf⟩ : ∃ nf, nf = offs.length := ⟨_, rfl⟩
  obtain ⟨no, hno⟩ : ∃ no, no = occur.length := ⟨_, rfl⟩
  rw [← hnt, ← hnf, ← hno]
  have NT := Lib.hid hnt
  have NF := Lib.hid hnf
  have NO := Lib.hid hno
  clear hnt hnf hno
  go_enter Tryz.func105, Tryz.ntmps105
  go_upto_region 23 with fail
  rcases zi field with ⟨h_field, e_field⟩ | ⟨h_field, e_field⟩
  rcases zt text with ⟨h_text, e_text⟩ | ⟨h_text, e_text⟩
  rcases zi n with ⟨h_n, e_n⟩ | ⟨h_n, e_n⟩
  by_cases h_e : lop = false ∧ lin = false ∧ lt.size = 0 ∧ hop = false ∧ hin = false ∧ ht.size = 0
  obtain ⟨rfl, rfl, h_c, rfl, rfl, h_g⟩ := h_e
  obtain rfl := size0 h_c
  obtain rfl := size0 h_g
  rcases zn nt with ⟨h_nt, e_nt⟩ | ⟨h_nt, e_nt⟩
  rcases zn nf with ⟨h_nf, e_nf⟩ | ⟨h_nf, e_nf⟩
  rcases zn no with ⟨h_no, e_no⟩ | ⟨h_no, e_no⟩
  have HV := Lib.hid (show bareB ⟨13, field, text, terms, offs, n, weight, ⟨false, false, ByteArray.empty⟩, ⟨false, false, ByteArray.empty⟩, occur⟩ nk = true by (have h1 := NT.out; have h2 := NF.out; have h3 := NO.out; simp only [bareB, noEnd, ← h1, ← h2, ← h3]; clear h1 h2 h3; grind))
  all_goals (first | (have := HV; clear this) | have HV := Lib.hid (show bareB ⟨13, field, text, terms, offs, n, weight, ⟨lop, lin, lt⟩, ⟨hop, hin, ht⟩, occur⟩ nk = false by (have h1 := NT.out; have h2 := NF.out; have h3 := NO.out; simp only [bareB, noEnd, ← h1, ← h2, ← h3]; clear h1 h2 h3; grind)) | have HV := Lib.hid (show bareB ⟨13, field, text, terms, offs, n, weight, ⟨false, false, ByteArray.empty⟩, ⟨false, false, ByteArray.empty⟩, occur⟩ nk = false by (have h1 := NT.out; have h2 := NF.out; have h3 := NO.out; simp only [bareB, noEnd, ← h1, ← h2, ← h3]; clear h1 h2 h3; grind)))
  all_goals ((try clear h_field); (try clear h_text); (try clear h_n); (try clear h_nt); (try clear h_nf); (try clear h_no); (try (have HE := Lib.hid h_e; clear h_e)); go_wp2_with fail)
  all_goals go_ret
  all_goals refine ⟨congrArg (fun b => Ending.returned (.bool b)) ?_, (by (repeat (first | exact Below.refl _ _ | assumption | refine balloc ?_ _ | refine bdrew ?_ | refine bdrewN ?_ _ | refine bset ?_ (by first | assumption | omega) _ | refine bchain ?_ (by assumption))))⟩
  all_goals (first | exact HV.out.symm | (rw [HV.out]; done) | (exfalso; apply HE.out; (simp only [tl_empty, tl_nil] at *); grind) | (rw [HV.out]; simp))

set_option maxHeartbeats 4000000 in
theorem bare_14 (hd : Head) (hk : hd.kind = 14) (nk : Nat) (A1 A2 A3 A4 : Option Addr) (c1 c2 c3 c4 : Nat) (w : World) :
    Calls Tryz.prog 105 #[.agg (qcells hd nk A1 A2 A3 A4 c1 c2 c3 c4)] w fun e w' => e = .returned (.bool (bareB hd nk)) ∧ Below w.heap.size w w' := by
  obtain ⟨kind, field, text, terms, offs, n, weight, ⟨lop, lin, lt⟩, ⟨hop, hin, ht⟩, occur⟩ := hd
  simp only at hk
  subst hk
  unfold qcells
  simp only
  obtain ⟨nt, hnt⟩ : ∃ nt, nt = terms.length := ⟨_, rfl⟩
  obtain ⟨nf, hnf⟩ : ∃ nf, nf = offs.length := ⟨_, rfl⟩
  obtain ⟨no, hno⟩ : ∃ no, no = occur.length := ⟨_, rfl⟩
  rw [← hnt, ← hnf, ← hno]
  have NT := Lib.hid hnt
  have NF := Lib.hid hnf
  have NO := Lib.hid hno
  clear hnt hnf hno
  go_enter Tryz.func105, Tryz.ntmps105
  go_upto_region 23 with fail
  rcases zi field with ⟨h_field, e_field⟩ | ⟨h_field, e_field⟩
  rcases zt text with ⟨h_text, e_text⟩ | ⟨h_text, e_text⟩
  rcases zi n with ⟨h_n, e_n⟩ | ⟨h_n, e_n⟩
  by_cases h_e : lop = false ∧ lin = false ∧ lt.size = 0 ∧ hop = false ∧ hin = false ∧ ht.size = 0
  obtain ⟨rfl, rfl, h_c, rfl, rfl, h_g⟩ := h_e
  obtain rfl := size0 h_c
  obtain rfl := size0 h_g
  rcases zn nt with ⟨h_nt, e_nt⟩ | ⟨h_nt, e_nt⟩
  rcases zn nf with ⟨h_nf, e_nf⟩ | ⟨h_nf, e_nf⟩
  rcases zn no with ⟨h_no, e_no⟩ | ⟨h_no, e_no⟩
  have HV := Lib.hid (show bareB ⟨14, field, text, terms, offs, n, weight, ⟨false, false, ByteArray.empty⟩, ⟨false, false, ByteArray.empty⟩, occur⟩ nk = true by (have h1 := NT.out; have h2 := NF.out; have h3 := NO.out; simp only [bareB, noEnd, ← h1, ← h2, ← h3]; clear h1 h2 h3; grind))
  all_goals (first | (have := HV; clear this) | have HV := Lib.hid (show bareB ⟨14, field, text, terms, offs, n, weight, ⟨lop, lin, lt⟩, ⟨hop, hin, ht⟩, occur⟩ nk = false by (have h1 := NT.out; have h2 := NF.out; have h3 := NO.out; simp only [bareB, noEnd, ← h1, ← h2, ← h3]; clear h1 h2 h3; grind)) | have HV := Lib.hid (show bareB ⟨14, field, text, terms, offs, n, weight, ⟨false, false, ByteArray.empty⟩, ⟨false, false, ByteArray.empty⟩, occur⟩ nk = false by (have h1 := NT.out; have h2 := NF.out; have h3 := NO.out; simp only [bareB, noEnd, ← h1, ← h2, ← h3]; clear h1 h2 h3; grind)))
  all_goals ((try clear h_field); (try clear h_text); (try clear h_n); (try clear h_nt); (try clear h_nf); (try clear h_no); (try (have HE := Lib.hid h_e; clear h_e)); go_wp2_with fail)
  all_goals go_ret
  all_goals refine ⟨congrArg (fun b => Ending.returned (.bool b)) ?_, (by (repeat (first | exact Below.refl _ _ | assumption | refine balloc ?_ _ | refine bdrew ?_ | refine bdrewN ?_ _ | refine bset ?_ (by first | assumption | omega) _ | refine bchain ?_ (by assumption))))⟩
  all_goals (first | exact HV.out.symm | (rw [HV.out]; done) | (exfalso; apply HE.out; (simp only [tl_empty, tl_nil] at *); grind) | (rw [HV.out]; simp))

end Go.Proofs.YtkcfgcdlnojaeaaGreatDoor.RefBare4
