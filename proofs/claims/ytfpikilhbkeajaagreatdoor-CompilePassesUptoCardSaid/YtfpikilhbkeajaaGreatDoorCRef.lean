/-
  The walk of the reference's bare over whatever query.
  The walk of the reference's bare over whatever query.
  The walk of the reference's bare over whatever query.
  The walk of the reference's bare over whatever query.
  The walks of the reference's end, Multi and asked over whatever query.
-/
import Derived.Test.YtfpikilhbkeajaaGreatDoorCText
import Derived.Test.YtfpikilhbkeajaaGreatDoorRefAid
import Derived.Deep.Cut
set_option linter.unusedVariables false
set_option linter.unusedSimpArgs false
namespace Go.Proofs.YtfpikilhbkeajaaGreatDoor.RefBare1
set_option maxRecDepth 100000
open Go.RowKit Go.PlainAid Base Query QrySize BindBase TextPlain RefAid Numbers

theorem bset {a b : World} (h : Below a.heap.size a b) {ad : Addr} (hg : a.heap.size ≤ ad.block) (v : Value) : Below a.heap.size a (b.setCell ad v) := h.setCell hg v
theorem zi (x : Int) : (x = 0 ∧ (x != 0) = false) ∨ (x ≠ 0 ∧ (x != 0) = true) := by
  by_cases h : x = 0
  · exact Or.inl ⟨h, by rw [h]; rfl⟩
  · exact Or.inr ⟨h, bne_iff_ne.2 h⟩
theorem zn (x : Nat) : (x = 0 ∧ ((x : Int) == 0) = true) ∨ (x ≠ 0 ∧ ((x : Int) == 0) = false) := by
  by_cases h : x = 0
  · exact Or.inl ⟨h, beq_iff_eq.2 (by omega)⟩
  · exact Or.inr ⟨h, beq_eq_false_iff_ne.2 (by omega)⟩
theorem zt (x : ByteArray) : (x.size = 0 ∧ x.toList.isEmpty = true) ∨ (x.size ≠ 0 ∧ x.toList.isEmpty = false) := by
  rw [tl_empty]
  by_cases h : x.size = 0
  · exact Or.inl ⟨h, beq_iff_eq.2 h⟩
  · exact Or.inr ⟨h, beq_eq_false_iff_ne.2 h⟩

set_option maxHeartbeats 4000000 in
theorem bare_1 (hd : Head) (hk : hd.kind = 1) (nk : Nat) (A1 A2 A3 A4 : Option Addr) (c1 c2 c3 c4 : Nat) (w : World) :
    Calls Tryz.prog 85 #[.agg (qcells hd nk A1 A2 A3 A4 c1 c2 c3 c4)] w fun e w' => e = .returned (.bool (bareB hd nk)) ∧ Below w.heap.size w w' := by
  obtain ⟨kind, field, text, terms, offs, n, weight, ⟨lop, lin, lt⟩, ⟨hop, hin, ht⟩, occur⟩ := hd
  simp only at hk
  subst hk
  unfold qcells
  simp only
  obtain ⟨nt, hnt⟩ : ∃ nt, nt = terms.length := ⟨_, rfl⟩
  obtain ⟨nf, hnf⟩ : ∃ nf, nf = offs.length := ⟨_, rfl⟩
  obtain ⟨no, hno⟩ : ∃ no, no = occur.length := ⟨_, rfl⟩
  rw [← hnt, ← hnf, ← hno]
  have NT := Lib.hid hnt
  have NF := Lib.hid hnf
  have NO := Lib.hid hno
  clear hnt hnf hno
  go_enter Tryz.func85, Tryz.ntmps85
  go_upto_region 23 with fail
  rcases zi field with ⟨h_field, e_field⟩ | ⟨h_field, e_field⟩
  rcases zt text with ⟨h_text, e_text⟩ | ⟨h_text, e_text⟩
  rcases zi n with ⟨h_n, e_n⟩ | ⟨h_n, e_n⟩
  rcases zi weight with ⟨h_weight, e_weight⟩ | ⟨h_weight, e_weight⟩
  by_cases h_e : lop = false ∧ lin = false ∧ lt.size = 0 ∧ hop = false ∧ hin = false ∧ ht.size = 0
  obtain ⟨rfl, rfl, h_c, rfl, rfl, h_g⟩ := h_e
  obtain rfl := size0 h_c
  obtain rfl := size0 h_g
  rcases zn nt with ⟨h_nt, e_nt⟩ | ⟨h_nt, e_nt⟩
  rcases zn nf with ⟨h_nf, e_nf⟩ | ⟨h_nf, e_nf⟩
  rcases zn no with ⟨h_no, e_no⟩ | ⟨h_no, e_no⟩
  rcases zn nk with ⟨h_nk, e_nk⟩ | ⟨h_nk, e_nk⟩
  have HV := Lib.hid (show bareB ⟨1, field, text, terms, offs, n, weight, ⟨false, false, ByteArray.empty⟩, ⟨false, false, ByteArray.empty⟩, occur⟩ nk = true by (have h1 := NT.out; have h2 := NF.out; have h3 := NO.out; simp only [bareB, noEnd, ← h1, ← h2, ← h3]; clear h1 h2 h3; grind))
  all_goals (first | (have := HV; clear this) | have HV := Lib.hid (show bareB ⟨1, field, text, terms, offs, n, weight, ⟨lop, lin, lt⟩, ⟨hop, hin, ht⟩, occur⟩ nk = false by (have h1 := NT.out; have h2 := NF.out; have h3 := NO.out; simp only [bareB, noEnd, ← h1, ← h2, ← h3]; clear h1 h2 h3; grind)) | have HV := Lib.hid (show bareB ⟨1, field, text, terms, offs, n, weight, ⟨false, false, ByteArray.empty⟩, ⟨false, false, ByteArray.empty⟩, occur⟩ nk = false by (have h1 := NT.out; have h2 := NF.out; have h3 := NO.out; simp only [bareB, noEnd, ← h1, ← h2, ← h3]; clear h1 h2 h3; grind)))
  all_goals ((try clear h_field); (try clear h_text); (try clear h_n); (try clear h_weight); (try clear h_nt); (try clear h_nf); (try clear h_no); (try clear h_nk); (try (have HE := Lib.hid h_e; clear h_e)); go_wp2_with fail)
  all_goals go_ret
  all_goals refine ⟨congrArg (fun b => Ending.returned (.bool b)) ?_, (by (repeat (first | exact Below.refl _ _ | assumption | refine balloc ?_ _ | refine bdrew ?_ | refine bdrewN ?_ _ | refine bset ?_ (by first | assumption | omega) _ | refine bchain ?_ (by assumption))))⟩
  all_goals (first | exact HV.out.symm | (rw [HV.out]; done) | (exfalso; apply HE.out; (simp only [tl_empty, tl_nil] at *); grind) | (rw [HV.out]; simp))

set_option maxHeartbeats 4000000 in
theorem bare_2 (hd : Head) (hk : hd.kind = 2) (nk : Nat) (A1 A2 A3 A4 : Option Addr) (c1 c2 c3 c4 : Nat) (w : World) :
    Calls Tryz.prog 85 #[.agg (qcells hd nk A1 A2 A3 A4 c1 c2 c3 c4)] w fun e w' => e = .returned (.bool (bareB hd nk)) ∧ Below w.heap.size w w' := by
  obtain ⟨kind, field, text, terms, offs, n, weight, ⟨lop, lin, lt⟩, ⟨hop, hin, ht⟩, occur⟩ := hd
  simp only at hk
  subst hk
  unfold qcells
  simp only
  obtain ⟨nt, hnt⟩ : ∃ nt, nt = terms.length := ⟨_, rfl⟩
  obtain ⟨nf, hnf⟩ : ∃ nf, nf = offs.length := ⟨_, rfl⟩
  obtain ⟨no, hno⟩ : ∃ no, no = occur.length := ⟨_, rfl⟩
  rw [← hnt, ← hnf, ← hno]
  have NT := Lib.hid hnt
  have NF := Lib.hid hnf
  have NO := Lib.hid hno
  clear hnt hnf hno
  go_enter Tryz.func85, Tryz.ntmps85
  go_upto_region 23 with fail
  rcases zi field with ⟨h_field, e_field⟩ | ⟨h_field, e_field⟩
  rcases zt text with ⟨h_text, e_text⟩ | ⟨h_text, e_text⟩
  rcases zi n with ⟨h_n, e_n⟩ | ⟨h_n, e_n⟩
  rcases zi weight with ⟨h_weight, e_weight⟩ | ⟨h_weight, e_weight⟩
  by_cases h_e : lop = false ∧ lin = false ∧ lt.size = 0 ∧ hop = false ∧ hin = false ∧ ht.size = 0
  obtain ⟨rfl, rfl, h_c, rfl, rfl, h_g⟩ := h_e
  obtain rfl := size0 h_c
  obtain rfl := size0 h_g
  rcases zn nt with ⟨h_nt, e_nt⟩ | ⟨h_nt, e_nt⟩
  rcases zn nf with ⟨h_nf, e_nf⟩ | ⟨h_nf, e_nf⟩
  rcases zn no with ⟨h_no, e_no⟩ | ⟨h_no, e_no⟩
  rcases zn nk with ⟨h_nk, e_nk⟩ | ⟨h_nk, e_nk⟩
  have HV := Lib.hid (show bareB ⟨2, field, text, terms, offs, n, weight, ⟨false, false, ByteArray.empty⟩, ⟨false, false, ByteArray.empty⟩, occur⟩ nk = true by (have h1 := NT.out; have h2 := NF.out; have h3 := NO.out; simp only [bareB, noEnd, ← h1, ← h2, ← h3]; clear h1 h2 h3; grind))
  all_goals (first | (have := HV; clear this) | have HV := Lib.hid (show bareB ⟨2, field, text, terms, offs, n, weight, ⟨lop, lin, lt⟩, ⟨hop, hin, ht⟩, occur⟩ nk = false by (have h1 := NT.out; have h2 := NF.out; have h3 := NO.out; simp only [bareB, noEnd, ← h1, ← h2, ← h3]; clear h1 h2 h3; grind)) | have HV := Lib.hid (show bareB ⟨2, field, text, terms, offs, n, weight, ⟨false, false, ByteArray.empty⟩, ⟨false, false, ByteArray.empty⟩, occur⟩ nk = false by (have h1 := NT.out; have h2 := NF.out; have h3 := NO.out; simp only [bareB, noEnd, ← h1, ← h2, ← h3]; clear h1 h2 h3; grind)))
  all_goals ((try clear h_field); (try clear h_text); (try clear h_n); (try clear h_weight); (try clear h_nt); (try clear h_nf); (try clear h_no); (try clear h_nk); (try (have HE := Lib.hid h_e; clear h_e)); go_wp2_with fail)
  all_goals go_ret
  all_goals refine ⟨congrArg (fun b => Ending.returned (.bool b)) ?_, (by (repeat (first | exact Below.refl _ _ | assumption | refine balloc ?_ _ | refine bdrew ?_ | refine bdrewN ?_ _ | refine bset ?_ (by first | assumption | omega) _ | refine bchain ?_ (by assumption))))⟩
  all_goals (first | exact HV.out.symm | (rw [HV.out]; done) | (exfalso; apply HE.out; (simp only [tl_empty, tl_nil] at *); grind) | (rw [HV.out]; simp))

set_option maxHeartbeats 4000000 in
theorem bare_3 (hd : Head) (hk : hd.kind = 3) (nk : Nat) (A1 A2 A3 A4 : Option Addr) (c1 c2 c3 c4 : Nat) (w : World) :
    Calls Tryz.prog 85 #[.agg (qcells hd nk A1 A2 A3 A4 c1 c2 c3 c4)] w fun e w' => e = .returned (.bool (bareB hd nk)) ∧ Below w.heap.size w w' := by
  obtain ⟨kind, field, text, terms, offs, n, weight, ⟨lop, lin, lt⟩, ⟨hop, hin, ht⟩, occur⟩ := hd
  simp only at hk
  subst hk
  unfold qcells
  simp only
  obtain ⟨nt, hnt⟩ : ∃ nt, nt = terms.length := ⟨_, rfl⟩
  obtain ⟨nf, hnf⟩ : ∃ nf, nf = offs.length := ⟨_, rfl⟩
  obtain ⟨no, hno⟩ : ∃ no, no = occur.length := ⟨_, rfl⟩
  rw [← hnt, ← hnf, ← hno]
  have NT := Lib.hid hnt
  have NF := Lib.hid hnf
  have NO := Lib.hid hno
  clear hnt hnf hno
  go_enter Tryz.func85, Tryz.ntmps85
  go_upto_region 23 with fail
  rcases zt text with ⟨h_text, e_text⟩ | ⟨h_text, e_text⟩
  rcases zi n with ⟨h_n, e_n⟩ | ⟨h_n, e_n⟩
  rcases zi weight with ⟨h_weight, e_weight⟩ | ⟨h_weight, e_weight⟩
  by_cases h_e : lop = false ∧ lin = false ∧ lt.size = 0 ∧ hop = false ∧ hin = false ∧ ht.size = 0
  obtain ⟨rfl, rfl, h_c, rfl, rfl, h_g⟩ := h_e
  obtain rfl := size0 h_c
  obtain rfl := size0 h_g
  rcases zn nt with ⟨h_nt, e_nt⟩ | ⟨h_nt, e_nt⟩
  rcases zn nf with ⟨h_nf, e_nf⟩ | ⟨h_nf, e_nf⟩
  rcases zn no with ⟨h_no, e_no⟩ | ⟨h_no, e_no⟩
  rcases zn nk with ⟨h_nk, e_nk⟩ | ⟨h_nk, e_nk⟩
  have HV := Lib.hid (show bareB ⟨3, field, text, terms, offs, n, weight, ⟨false, false, ByteArray.empty⟩, ⟨false, false, ByteArray.empty⟩, occur⟩ nk = true by (have h1 := NT.out; have h2 := NF.out; have h3 := NO.out; simp only [bareB, noEnd, ← h1, ← h2, ← h3]; clear h1 h2 h3; grind))
  all_goals (first | (have := HV; clear this) | have HV := Lib.hid (show bareB ⟨3, field, text, terms, offs, n, weight, ⟨lop, lin, lt⟩, ⟨hop, hin, ht⟩, occur⟩ nk = false by (have h1 := NT.out; have h2 := NF.out; have h3 := NO.out; simp only [bareB, noEnd, ← h1, ← h2, ← h3]; clear h1 h2 h3; grind)) | have HV := Lib.hid (show bareB ⟨3, field, text, terms, offs, n, weight, ⟨false, false, ByteArray.empty⟩, ⟨false, false, ByteArray.empty⟩, occur⟩ nk = false by (have h1 := NT.out; have h2 := NF.out; have h3 := NO.out; simp only [bareB, noEnd, ← h1, ← h2, ← h3]; clear h1 h2 h3; grind)))
  all_goals ((try clear h_text); (try clear h_n); (try clear h_weight); (try clear h_nt); (try clear h_nf); (try clear h_no); (try clear h_nk); (try (have HE := Lib.hid h_e; clear h_e)); go_wp2_with fail)
  all_goals go_ret
  all_goals refine ⟨congrArg (fun b => Ending.returned (.bool b)) ?_, (by (repeat (first | exact Below.refl _ _ | assumption | refine balloc ?_ _ | refine bdrew ?_ | refine bdrewN ?_ _ | refine bset ?_ (by first | assumption | omega) _ | refine bchain ?_ (by assumption))))⟩
  all_goals (first | exact HV.out.symm | (rw [HV.out]; done) | (exfalso; apply HE.out; (simp only [tl_empty, tl_nil] at *); grind) | (rw [HV.out]; simp))

set_option maxHeartbeats 4000000 in
theorem bare_4 (hd : Head) (hk : hd.kind = 4) (nk : Nat) (A1 A2 A3 A4 : Option Addr) (c1 c2 c3 c4 : Nat) (w : World) :
    Calls Tryz.prog 85 #[.agg (qcells hd nk A1 A2 A3 A4 c1 c2 c3 c4)] w fun e w' => e = .returned (.bool (bareB hd nk)) ∧ Below w.heap.size w w' := by
  obtain ⟨kind, field, text, terms, offs, n, weight, ⟨lop, lin, lt⟩, ⟨hop, hin, ht⟩, occur⟩ := hd
  simp only at hk
  subst hk
  unfold qcells
  simp only
  obtain ⟨nt, hnt⟩ : ∃ nt, nt = terms.length := ⟨_, rfl⟩
  obtain ⟨nf, hnf⟩ : ∃ nf, nf = offs.length := ⟨_, rfl⟩
  obtain ⟨no, hno⟩ : ∃ no, no = occur.length := ⟨_, rfl⟩
  rw [← hnt, ← hnf, ← hno]
  have NT := Lib.hid hnt
  have NF := Lib.hid hnf
  have NO := Lib.hid hno
  clear hnt hnf hno
  go_enter Tryz.func85, Tryz.ntmps85
  go_upto_region 23 with fail
  rcases zi n with ⟨h_n, e_n⟩ | ⟨h_n, e_n⟩
  by_cases h_e : lop = false ∧ lin = false ∧ lt.size = 0 ∧ hop = false ∧ hin = false ∧ ht.size = 0
  obtain ⟨rfl, rfl, h_c, rfl, rfl, h_g⟩ := h_e
  obtain rfl := size0 h_c
  obtain rfl := size0 h_g
  rcases zn nt with ⟨h_nt, e_nt⟩ | ⟨h_nt, e_nt⟩
  rcases zn nf with ⟨h_nf, e_nf⟩ | ⟨h_nf, e_nf⟩
  rcases zn no with ⟨h_no, e_no⟩ | ⟨h_no, e_no⟩
  rcases zn nk with ⟨h_nk, e_nk⟩ | ⟨h_nk, e_nk⟩
  have HV := Lib.hid (show bareB ⟨4, field, text, terms, offs, n, weight, ⟨false, false, ByteArray.empty⟩, ⟨false, false, ByteArray.empty⟩, occur⟩ nk = true by (have h1 := NT.out; have h2 := NF.out; have h3 := NO.out; simp only [bareB, noEnd, ← h1, ← h2, ← h3]; clear h1 h2 h3; grind))
  all_goals (first | (have := HV; clear this) | have HV := Lib.hid (show bareB ⟨4, field, text, terms, offs, n, weight, ⟨lop, lin, lt⟩, ⟨hop, hin, ht⟩, occur⟩ nk = false by (have h1 := NT.out; have h2 := NF.out; have h3 := NO.out; simp only [bareB, noEnd, ← h1, ← h2, ← h3]; clear h1 h2 h3; grind)) | have HV := Lib.hid (show bareB ⟨4, field, text, terms, offs, n, weight, ⟨false, false, ByteArray.empty⟩, ⟨false, false, ByteArray.empty⟩, occur⟩ nk = false by (have h1 := NT.out; have h2 := NF.out; have h3 := NO.out; simp only [bareB, noEnd, ← h1, ← h2, ← h3]; clear h1 h2 h3; grind)))
  all_goals ((try clear h_n); (try clear h_nt); (try clear h_nf); (try clear h_no); (try clear h_nk); (try (have HE := Lib.hid h_e; clear h_e)); go_wp2_with fail)
  all_goals go_ret
  all_goals refine ⟨congrArg (fun b => Ending.returned (.bool b)) ?_, (by (repeat (first | exact Below.refl _ _ | assumption | refine balloc ?_ _ | refine bdrew ?_ | refine bdrewN ?_ _ | refine bset ?_ (by first | assumption | omega) _ | refine bchain ?_ (by assumption))))⟩
  all_goals (first | exact HV.out.symm | (rw [HV.out]; done) | (exfalso; apply HE.out; (simp only [tl_empty, tl_nil] at *); grind) | (rw [HV.out]; simp))

end Go.Proofs.YtfpikilhbkeajaaGreatDoor.RefBare1

namespace Go.Proofs.YtfpikilhbkeajaaGreatDoor.RefBare2
set_option maxRecDepth 100000
open Go.RowKit Go.PlainAid Base Query QrySize BindBase TextPlain RefAid Numbers

theorem bset {a b : World} (h : Below a.heap.size a b) {ad : Addr} (hg : a.heap.size ≤ ad.block) (v : Value) : Below a.heap.size a (b.setCell ad v) := h.setCell hg v
theorem zi (x : Int) : (x = 0 ∧ (x != 0) = false) ∨ (x ≠ 0 ∧ (x != 0) = true) := by
  by_cases h : x = 0
  · exact Or.inl ⟨h, by rw [h]; rfl⟩
  · exact Or.inr ⟨h, bne_iff_ne.2 h⟩
theorem zn (x : Nat) : (x = 0 ∧ ((x : Int) == 0) = true) ∨ (x ≠ 0 ∧ ((x : Int) == 0) = false) := by
  by_cases h : x = 0
  · exact Or.inl ⟨h, beq_iff_eq.2 (by omega)⟩
  · exact Or.inr ⟨h, beq_eq_false_iff_ne.2 (by omega)⟩
theorem zt (x : ByteArray) : (x.size = 0 ∧ x.toList.isEmpty = true) ∨ (x.size ≠ 0 ∧ x.toList.isEmpty = false) := by
  rw [tl_empty]
  by_cases h : x.size = 0
  · exact Or.inl ⟨h, beq_iff_eq.2 h⟩
  · exact Or.inr ⟨h, beq_eq_false_iff_ne.2 h⟩

set_option maxHeartbeats 4000000 in
theorem bare_5 (hd : Head) (hk : hd.kind = 5) (nk : Nat) (A1 A2 A3 A4 : Option Addr) (c1 c2 c3 c4 : Nat) (w : World) :
    Calls Tryz.prog 85 #[.agg (qcells hd nk A1 A2 A3 A4 c1 c2 c3 c4)] w fun e w' => e = .returned (.bool (bareB hd nk)) ∧ Below w.heap.size w w' := by
  obtain ⟨kind, field, text, terms, offs, n, weight, ⟨lop, lin, lt⟩, ⟨hop, hin, ht⟩, occur⟩ := hd
  simp only at hk
  subst hk
  unfold qcells
  simp only
  obtain ⟨nt, hnt⟩ : ∃ nt, nt = terms.length := ⟨_, rfl⟩
  obtain ⟨nf, hnf⟩ : ∃ nf, nf = offs.length := ⟨_, rfl⟩
  obtain ⟨no, hno⟩ : ∃ no, no = occur.length := ⟨_, rfl⟩
  rw [← hnt, ← hnf, ← hno]
  have NT := Lib.hid hnt
  have NF := Lib.hid hnf
  have NO := Lib.hid hno
  clear hnt hnf hno
  go_enter Tryz.func85, Tryz.ntmps85
  go_upto_region 23 with fail
  rcases zt text with ⟨h_text, e_text⟩ | ⟨h_text, e_text⟩
  by_cases h_e : lop = false ∧ lin = false ∧ lt.size = 0 ∧ hop = false ∧ hin = false ∧ ht.size = 0
  obtain ⟨rfl, rfl, h_c, rfl, rfl, h_g⟩ := h_e
  obtain rfl := size0 h_c
  obtain rfl := size0 h_g
  rcases zn no with ⟨h_no, e_no⟩ | ⟨h_no, e_no⟩
  rcases zn nk with ⟨h_nk, e_nk⟩ | ⟨h_nk, e_nk⟩
  have HV := Lib.hid (show bareB ⟨5, field, text, terms, offs, n, weight, ⟨false, false, ByteArray.empty⟩, ⟨false, false, ByteArray.empty⟩, occur⟩ nk = true by (have h1 := NT.out; have h2 := NF.out; have h3 := NO.out; simp only [bareB, noEnd, ← h1, ← h2, ← h3]; clear h1 h2 h3; grind))
  all_goals (first | (have := HV; clear this) | have HV := Lib.hid (show bareB ⟨5, field, text, terms, offs, n, weight, ⟨lop, lin, lt⟩, ⟨hop, hin, ht⟩, occur⟩ nk = false by (have h1 := NT.out; have h2 := NF.out; have h3 := NO.out; simp only [bareB, noEnd, ← h1, ← h2, ← h3]; clear h1 h2 h3; grind)) | have HV := Lib.hid (show bareB ⟨5, field, text, terms, offs, n, weight, ⟨false, false, ByteArray.empty⟩, ⟨false, false, ByteArray.empty⟩, occur⟩ nk = false by (have h1 := NT.out; have h2 := NF.out; have h3 := NO.out; simp only [bareB, noEnd, ← h1, ← h2, ← h3]; clear h1 h2 h3; grind)))
  all_goals ((try clear h_text); (try clear h_no); (try clear h_nk); (try (have HE := Lib.hid h_e; clear h_e)); go_wp2_with fail)
  all_goals go_ret
  all_goals refine ⟨congrArg (fun b => Ending.returned (.bool b)) ?_, (by (repeat (first | exact Below.refl _ _ | assumption | refine balloc ?_ _ | refine bdrew ?_ | refine bdrewN ?_ _ | refine bset ?_ (by first | assumption | omega) _ | refine bchain ?_ (by assumption))))⟩
  all_goals (first | exact HV.out.symm | (rw [HV.out]; done) | (exfalso; apply HE.out; (simp only [tl_empty, tl_nil] at *); grind) | (rw [HV.out]; simp))

end Go.Proofs.YtfpikilhbkeajaaGreatDoor.RefBare2

namespace Go.Proofs.YtfpikilhbkeajaaGreatDoor.RefBare3
set_option maxRecDepth 100000
open Go.RowKit Go.PlainAid Base Query QrySize BindBase TextPlain RefAid Numbers

theorem bset {a b : World} (h : Below a.heap.size a b) {ad : Addr} (hg : a.heap.size ≤ ad.block) (v : Value) : Below a.heap.size a (b.setCell ad v) := h.setCell hg v
theorem zi (x : Int) : (x = 0 ∧ (x != 0) = false) ∨ (x ≠ 0 ∧ (x != 0) = true) := by
  by_cases h : x = 0
  · exact Or.inl ⟨h, by rw [h]; rfl⟩
  · exact Or.inr ⟨h, bne_iff_ne.2 h⟩
theorem zn (x : Nat) : (x = 0 ∧ ((x : Int) == 0) = true) ∨ (x ≠ 0 ∧ ((x : Int) == 0) = false) := by
  by_cases h : x = 0
  · exact Or.inl ⟨h, beq_iff_eq.2 (by omega)⟩
  · exact Or.inr ⟨h, beq_eq_false_iff_ne.2 (by omega)⟩
theorem zt (x : ByteArray) : (x.size = 0 ∧ x.toList.isEmpty = true) ∨ (x.size ≠ 0 ∧ x.toList.isEmpty = false) := by
  rw [tl_empty]
  by_cases h : x.size = 0
  · exact Or.inl ⟨h, beq_iff_eq.2 h⟩
  · exact Or.inr ⟨h, beq_eq_false_iff_ne.2 h⟩

set_option maxHeartbeats 4000000 in
theorem bare_10 (hd : Head) (hk : hd.kind = 10) (nk : Nat) (A1 A2 A3 A4 : Option Addr) (c1 c2 c3 c4 : Nat) (w : World) :
    Calls Tryz.prog 85 #[.agg (qcells hd nk A1 A2 A3 A4 c1 c2 c3 c4)] w fun e w' => e = .returned (.bool (bareB hd nk)) ∧ Below w.heap.size w w' := by
  obtain ⟨kind, field, text, terms, offs, n, weight, ⟨lop, lin, lt⟩, ⟨hop, hin, ht⟩, occur⟩ := hd
  simp only at hk
  subst hk
  unfold qcells
  simp only
  obtain ⟨nt, hnt⟩ : ∃ nt, nt = terms.length := ⟨_, rfl⟩
  obtain ⟨nf, hnf⟩ : ∃ nf, nf = offs.length := ⟨_, rfl⟩
  obtain ⟨no, hno⟩ : ∃ no, no = occur.length := ⟨_, rfl⟩
  rw [← hnt, ← hnf, ← hno]
  have NT := Lib.hid hnt
  have NF := Lib.hid hnf
  have NO := Lib.hid hno
  clear hnt hnf hno
  go_enter Tryz.func85, Tryz.ntmps85
  go_upto_region 23 with fail
  rcases zi field with ⟨h_field, e_field⟩ | ⟨h_field, e_field⟩
  rcases zt text with ⟨h_text, e_text⟩ | ⟨h_text, e_text⟩
  rcases zi weight with ⟨h_weight, e_weight⟩ | ⟨h_weight, e_weight⟩
  by_cases h_e : lop = false ∧ lin = false ∧ lt.size = 0 ∧ hop = false ∧ hin = false ∧ ht.size = 0
  obtain ⟨rfl, rfl, h_c, rfl, rfl, h_g⟩ := h_e
  obtain rfl := size0 h_c
  obtain rfl := size0 h_g
  rcases zn nt with ⟨h_nt, e_nt⟩ | ⟨h_nt, e_nt⟩
  rcases zn nf with ⟨h_nf, e_nf⟩ | ⟨h_nf, e_nf⟩
  have HV := Lib.hid (show bareB ⟨10, field, text, terms, offs, n, weight, ⟨false, false, ByteArray.empty⟩, ⟨false, false, ByteArray.empty⟩, occur⟩ nk = true by (have h1 := NT.out; have h2 := NF.out; have h3 := NO.out; simp only [bareB, noEnd, ← h1, ← h2, ← h3]; clear h1 h2 h3; grind))
  all_goals (first | (have := HV; clear this) | have HV := Lib.hid (show bareB ⟨10, field, text, terms, offs, n, weight, ⟨lop, lin, lt⟩, ⟨hop, hin, ht⟩, occur⟩ nk = false by (have h1 := NT.out; have h2 := NF.out; have h3 := NO.out; simp only [bareB, noEnd, ← h1, ← h2, ← h3]; clear h1 h2 h3; grind)) | have HV := Lib.hid (show bareB ⟨10, field, text, terms, offs, n, weight, ⟨false, false, ByteArray.empty⟩, ⟨false, false, ByteArray.empty⟩, occur⟩ nk = false by (have h1 := NT.out; have h2 := NF.out; have h3 := NO.out; simp only [bareB, noEnd, ← h1, ← h2, ← h3]; clear h1 h2 h3; grind)))
  all_goals ((try clear h_field); (try clear h_text); (try clear h_weight); (try clear h_nt); (try clear h_nf); (try (have HE := Lib.hid h_e; clear h_e)); go_wp2_with fail)
  all_goals go_ret
  all_goals refine ⟨congrArg (fun b => Ending.returned (.bool b)) ?_, (by (repeat (first | exact Below.refl _ _ | assumption | refine balloc ?_ _ | refine bdrew ?_ | refine bdrewN ?_ _ | refine bset ?_ (by first | assumption | omega) _ | refine bchain ?_ (by assumption))))⟩
  all_goals (first | exact HV.out.symm | (rw [HV.out]; done) | (exfalso; apply HE.out; (simp only [tl_empty, tl_nil] at *); grind) | (rw [HV.out]; simp))

set_option maxHeartbeats 4000000 in
theorem bare_11 (hd : Head) (hk : hd.kind = 11) (nk : Nat) (A1 A2 A3 A4 : Option Addr) (c1 c2 c3 c4 : Nat) (w : World) :
    Calls Tryz.prog 85 #[.agg (qcells hd nk A1 A2 A3 A4 c1 c2 c3 c4)] w fun e w' => e = .returned (.bool (bareB hd nk)) ∧ Below w.heap.size w w' := by
  obtain ⟨kind, field, text, terms, offs, n, weight, ⟨lop, lin, lt⟩, ⟨hop, hin, ht⟩, occur⟩ := hd
  simp only at hk
  subst hk
  unfold qcells
  simp only
  obtain ⟨nt, hnt⟩ : ∃ nt, nt = terms.length := ⟨_, rfl⟩
  obtain ⟨nf, hnf⟩ : ∃ nf, nf = offs.length := ⟨_, rfl⟩
  obtain ⟨no, hno⟩ : ∃ no, no = occur.length := ⟨_, rfl⟩
  rw [← hnt, ← hnf, ← hno]
  have NT := Lib.hid hnt
  have NF := Lib.hid hnf
  have NO := Lib.hid hno
  clear hnt hnf hno
  go_enter Tryz.func85, Tryz.ntmps85
  go_upto_region 23 with fail
  rcases zi field with ⟨h_field, e_field⟩ | ⟨h_field, e_field⟩
  rcases zt text with ⟨h_text, e_text⟩ | ⟨h_text, e_text⟩
  rcases zi n with ⟨h_n, e_n⟩ | ⟨h_n, e_n⟩
  rcases zi weight with ⟨h_weight, e_weight⟩ | ⟨h_weight, e_weight⟩
  by_cases h_e : lop = false ∧ lin = false ∧ lt.size = 0 ∧ hop = false ∧ hin = false ∧ ht.size = 0
  obtain ⟨rfl, rfl, h_c, rfl, rfl, h_g⟩ := h_e
  obtain rfl := size0 h_c
  obtain rfl := size0 h_g
  rcases zn nt with ⟨h_nt, e_nt⟩ | ⟨h_nt, e_nt⟩
  rcases zn nf with ⟨h_nf, e_nf⟩ | ⟨h_nf, e_nf⟩
  rcases zn no with ⟨h_no, e_no⟩ | ⟨h_no, e_no⟩
  have HV := Lib.hid (show bareB ⟨11, field, text, terms, offs, n, weight, ⟨false, false, ByteArray.empty⟩, ⟨false, false, ByteArray.empty⟩, occur⟩ nk = true by (have h1 := NT.out; have h2 := NF.out; have h3 := NO.out; simp only [bareB, noEnd, ← h1, ← h2, ← h3]; clear h1 h2 h3; grind))
  all_goals (first | (have := HV; clear this) | have HV := Lib.hid (show bareB ⟨11, field, text, terms, offs, n, weight, ⟨lop, lin, lt⟩, ⟨hop, hin, ht⟩, occur⟩ nk = false by (have h1 := NT.out; have h2 := NF.out; have h3 := NO.out; simp only [bareB, noEnd, ← h1, ← h2, ← h3]; clear h1 h2 h3; grind)) | have HV := Lib.hid (show bareB ⟨11, field, text, terms, offs, n, weight, ⟨false, false, ByteArray.empty⟩, ⟨false, false, ByteArray.empty⟩, occur⟩ nk = false by (have h1 := NT.out; have h2 := NF.out; have h3 := NO.out; simp only [bareB, noEnd, ← h1, ← h2, ← h3]; clear h1 h2 h3; grind)))
  all_goals ((try clear h_field); (try clear h_text); (try clear h_n); (try clear h_weight); (try clear h_nt); (try clear h_nf); (try clear h_no); (try (have HE := Lib.hid h_e; clear h_e)); go_wp2_with fail)
  all_goals go_ret
  all_goals refine ⟨congrArg (fun b => Ending.returned (.bool b)) ?_, (by (repeat (first | exact Below.refl _ _ | assumption | refine balloc ?_ _ | refine bdrew ?_ | refine bdrewN ?_ _ | refine bset ?_ (by first | assumption | omega) _ | refine bchain ?_ (by assumption))))⟩
  all_goals (first | exact HV.out.symm | (rw [HV.out]; done) | (exfalso; apply HE.out; (simp only [tl_empty, tl_nil] at *); grind) | (rw [HV.out]; simp))

end Go.Proofs.YtfpikilhbkeajaaGreatDoor.RefBare3

namespace Go.Proofs.YtfpikilhbkeajaaGreatDoor.RefBare4
set_option maxRecDepth 100000
open Go.RowKit Go.PlainAid Base Query QrySize BindBase TextPlain RefAid Numbers

theorem bset {a b : World} (h : Below a.heap.size a b) {ad : Addr} (hg : a.heap.size ≤ ad.block) (v : Value) : Below a.heap.size a (b.setCell ad v) := h.setCell hg v
theorem zi (x : Int) : (x = 0 ∧ (x != 0) = false) ∨ (x ≠ 0 ∧ (x != 0) = true) := by
  by_cases h : x = 0
  · exact Or.inl ⟨h, by rw [h]; rfl⟩
  · exact Or.inr ⟨h, bne_iff_ne.2 h⟩
theorem zn (x : Nat) : (x = 0 ∧ ((x : Int) == 0) = true) ∨ (x ≠ 0 ∧ ((x : Int) == 0) = false) := by
  by_cases h : x = 0
  · exact Or.inl ⟨h, beq_iff_eq.2 (by omega)⟩
  · exact Or.inr ⟨h, beq_eq_false_iff_ne.2 (by omega)⟩
theorem zt (x : ByteArray) : (x.size = 0 ∧ x.toList.isEmpty = true) ∨ (x.size ≠ 0 ∧ x.toList.isEmpty = false) := by
  rw [tl_empty]
  by_cases h : x.size = 0
  · exact Or.inl ⟨h, beq_iff_eq.2 h⟩
  · exact Or.inr ⟨h, beq_eq_false_iff_ne.2 h⟩

set_option maxHeartbeats 4000000 in
theorem bare_12 (hd : Head) (hk : hd.kind = 12) (nk : Nat) (A1 A2 A3 A4 : Option Addr) (c1 c2 c3 c4 : Nat) (w : World) :
    Calls Tryz.prog 85 #[.agg (qcells hd nk A1 A2 A3 A4 c1 c2 c3 c4)] w fun e w' => e = .returned (.bool (bareB hd nk)) ∧ Below w.heap.size w w' := by
  obtain ⟨kind, field, text, terms, offs, n, weight, ⟨lop, lin, lt⟩, ⟨hop, hin, ht⟩, occur⟩ := hd
  simp only at hk
  subst hk
  unfold qcells
  simp only
  obtain ⟨nt, hnt⟩ : ∃ nt, nt = terms.length := ⟨_, rfl⟩
  obtain ⟨nf, hnf⟩ : ∃ nf, nf = offs.length := ⟨_, rfl⟩
  obtain ⟨no, hno⟩ : ∃ no, no = occur.length := ⟨_, rfl⟩
  rw [← hnt, ← hnf, ← hno]
  have NT := Lib.hid hnt
  have NF := Lib.hid hnf
  have NO := Lib.hid hno
  clear hnt hnf hno
  go_enter Tryz.func85, Tryz.ntmps85
  go_upto_region 23 with fail
  rcases zi field with ⟨h_field, e_field⟩ | ⟨h_field, e_field⟩
  rcases zt text with ⟨h_text, e_text⟩ | ⟨h_text, e_text⟩
  rcases zi n with ⟨h_n, e_n⟩ | ⟨h_n, e_n⟩
  rcases zi weight with ⟨h_weight, e_weight⟩ | ⟨h_weight, e_weight⟩
  by_cases h_e : lop = false ∧ lin = false ∧ lt.size = 0 ∧ hop = false ∧ hin = false ∧ ht.size = 0
  obtain ⟨rfl, rfl, h_c, rfl, rfl, h_g⟩ := h_e
  obtain rfl := size0 h_c
  obtain rfl := size0 h_g
  rcases zn nt with ⟨h_nt, e_nt⟩ | ⟨h_nt, e_nt⟩
  rcases zn nf with ⟨h_nf, e_nf⟩ | ⟨h_nf, e_nf⟩
  rcases zn no with ⟨h_no, e_no⟩ | ⟨h_no, e_no⟩
  have HV := Lib.hid (show bareB ⟨12, field, text, terms, offs, n, weight, ⟨false, false, ByteArray.empty⟩, ⟨false, false, ByteArray.empty⟩, occur⟩ nk = true by (have h1 := NT.out; have h2 := NF.out; have h3 := NO.out; simp only [bareB, noEnd, ← h1, ← h2, ← h3]; clear h1 h2 h3; grind))
  all_goals (first | (have := HV; clear this) | have HV := Lib.hid (show bareB ⟨12, field, text, terms, offs, n, weight, ⟨lop, lin, lt⟩, ⟨hop, hin, ht⟩, occur⟩ nk = false by (have h1 := NT.out; have h2 := NF.out; have h3 := NO.out; simp only [bareB, noEnd, ← h1, ← h2, ← h3]; clear h1 h2 h3; grind)) | have HV := Lib.hid (show bareB ⟨12, field, text, terms, offs, n, weight, ⟨false, false, ByteArray.empty⟩, ⟨false, false, ByteArray.empty⟩, occur⟩ nk = false by (have h1 := NT.out; have h2 := NF.out; have h3 := NO.out; simp only [bareB, noEnd, ← h1, ← h2, ← h3]; clear h1 h2 h3; grind)))
  all_goals ((try clear h_field); (try clear h_text); (try clear h_n); (try clear h_weight); (try clear h_nt); (try clear h_nf); (try clear h_no); (try (have HE := Lib.hid h_e; clear h_e)); go_wp2_with fail)
  all_goals go_ret
  all_goals refine ⟨congrArg (fun b => Ending.returned (.bool b)) ?_, (by (repeat (first | exact Below.refl _ _ | assumption | refine balloc ?_ _ | refine bdrew ?_ | refine bdrewN ?_ _ | refine bset ?_ (by first | assumption | omega) _ | refine bchain ?_ (by assumption))))⟩
  all_goals (first | exact HV.out.symm | (rw [HV.out]; done) | (exfalso; apply HE.out; (simp only [tl_empty, tl_nil] at *); grind) | (rw [HV.out]; simp))

set_option maxHeartbeats 4000000 in
theorem bare_13 (hd : Head) (hk : hd.kind = 13) (nk : Nat) (A1 A2 A3 A4 : Option Addr) (c1 c2 c3 c4 : Nat) (w : World) :
    Calls Tryz.prog 85 #[.agg (qcells hd nk A1 A2 A3 A4 c1 c2 c3 c4)] w fun e w' => e = .returned (.bool (bareB hd nk)) ∧ Below w.heap.size w w' := by
  obtain ⟨kind, field, text, terms, offs, n, weight, ⟨lop, lin, lt⟩, ⟨hop, hin, ht⟩, occur⟩ := hd
  simp only at hk
  subst hk
  unfold qcells
  simp only
  obtain ⟨nt, hnt⟩ : ∃ nt, nt = terms.length := ⟨_, rfl⟩
  obtain ⟨nf, hnf⟩ : ∃ nf, nf = offs.length := ⟨_, rfl⟩
  obtain ⟨no, hno⟩ : ∃ no, no = occur.length := ⟨_, rfl⟩
  rw [← hnt, ← hnf, ← hno]
  have NT := Lib.hid hnt
  have NF := Lib.hid hnf
  have NO := Lib.hid hno
  clear hnt hnf hno
  go_enter Tryz.func85, Tryz.ntmps85
  go_upto_region 23 with fail
  rcases zi field with ⟨h_field, e_field⟩ | ⟨h_field, e_field⟩
  rcases zt text with ⟨h_text, e_text⟩ | ⟨h_text, e_text⟩
  rcases zi n with ⟨h_n, e_n⟩ | ⟨h_n, e_n⟩
  by_cases h_e : lop = false ∧ lin = false ∧ lt.size = 0 ∧ hop = false ∧ hin = false ∧ ht.size = 0
  obtain ⟨rfl, rfl, h_c, rfl, rfl, h_g⟩ := h_e
  obtain rfl := size0 h_c
  obtain rfl := size0 h_g
  rcases zn nt with ⟨h_nt, e_nt⟩ | ⟨h_nt, e_nt⟩
  rcases zn nf with ⟨h_nf, e_nf⟩ | ⟨h_nf, e_nf⟩
  rcases zn no with ⟨h_no, e_no⟩ | ⟨h_no, e_no⟩
  have HV := Lib.hid (show bareB ⟨13, field, text, terms, offs, n, weight, ⟨false, false, ByteArray.empty⟩, ⟨false, false, ByteArray.empty⟩, occur⟩ nk = true by (have h1 := NT.out; have h2 := NF.out; have h3 := NO.out; simp only [bareB, noEnd, ← h1, ← h2, ← h3]; clear h1 h2 h3; grind))
  all_goals (first | (have := HV; clear this) | have HV := Lib.hid (show bareB ⟨13, field, text, terms, offs, n, weight, ⟨lop, lin, lt⟩, ⟨hop, hin, ht⟩, occur⟩ nk = false by (have h1 := NT.out; have h2 := NF.out; have h3 := NO.out; simp only [bareB, noEnd, ← h1, ← h2, ← h3]; clear h1 h2 h3; grind)) | have HV := Lib.hid (show bareB ⟨13, field, text, terms, offs, n, weight, ⟨false, false, ByteArray.empty⟩, ⟨false, false, ByteArray.empty⟩, occur⟩ nk = false by (have h1 := NT.out; have h2 := NF.out; have h3 := NO.out; simp only [bareB, noEnd, ← h1, ← h2, ← h3]; clear h1 h2 h3; grind)))
  all_goals ((try clear h_field); (try clear h_text); (try clear h_n); (try clear h_nt); (try clear h_nf); (try clear h_no); (try (have HE := Lib.hid h_e; clear h_e)); go_wp2_with fail)
  all_goals go_ret
  all_goals refine ⟨congrArg (fun b => Ending.returned (.bool b)) ?_, (by (repeat (first | exact Below.refl _ _ | assumption | refine balloc ?_ _ | refine bdrew ?_ | refine bdrewN ?_ _ | refine bset ?_ (by first | assumption | omega) _ | refine bchain ?_ (by assumption))))⟩
  all_goals (first | exact HV.out.symm | (rw [HV.out]; done) | (exfalso; apply HE.out; (simp only [tl_empty, tl_nil] at *); grind) | (rw [HV.out]; simp))

set_option maxHeartbeats 4000000 in
theorem bare_14 (hd : Head) (hk : hd.kind = 14) (nk : Nat) (A1 A2 A3 A4 : Option Addr) (c1 c2 c3 c4 : Nat) (w : World) :
    Calls Tryz.prog 85 #[.agg (qcells hd nk A1 A2 A3 A4 c1 c2 c3 c4)] w fun e w' => e = .returned (.bool (bareB hd nk)) ∧ Below w.heap.size w w' := by
  obtain ⟨kind, field, text, terms, offs, n, weight, ⟨lop, lin, lt⟩, ⟨hop, hin, ht⟩, occur⟩ := hd
  simp only at hk
  subst hk
  unfold qcells
  simp only
  obtain ⟨nt, hnt⟩ : ∃ nt, nt = terms.length := ⟨_, rfl⟩
  obtain ⟨nf, hnf⟩ : ∃ nf, nf = offs.length := ⟨_, rfl⟩
  obtain ⟨no, hno⟩ : ∃ no, no = occur.length := ⟨_, rfl⟩
  rw [← hnt, ← hnf, ← hno]
  have NT := Lib.hid hnt
  have NF := Lib.hid hnf
  have NO := Lib.hid hno
  clear hnt hnf hno
  go_enter Tryz.func85, Tryz.ntmps85
  go_upto_region 23 with fail
  rcases zi field with ⟨h_field, e_field⟩ | ⟨h_field, e_field⟩
  rcases zt text with ⟨h_text, e_text⟩ | ⟨h_text, e_text⟩
  rcases zi n with ⟨h_n, e_n⟩ | ⟨h_n, e_n⟩
  by_cases h_e : lop = false ∧ lin = false ∧ lt.size = 0 ∧ hop = false ∧ hin = false ∧ ht.size = 0
  obtain ⟨rfl, rfl, h_c, rfl, rfl, h_g⟩ := h_e
  obtain rfl := size0 h_c
  obtain rfl := size0 h_g
  rcases zn nt with ⟨h_nt, e_nt⟩ | ⟨h_nt, e_nt⟩
  rcases zn nf with ⟨h_nf, e_nf⟩ | ⟨h_nf, e_nf⟩
  rcases zn no with ⟨h_no, e_no⟩ | ⟨h_no, e_no⟩
  have HV := Lib.hid (show bareB ⟨14, field, text, terms, offs, n, weight, ⟨false, false, ByteArray.empty⟩, ⟨false, false, ByteArray.empty⟩, occur⟩ nk = true by (have h1 := NT.out; have h2 := NF.out; have h3 := NO.out; simp only [bareB, noEnd, ← h1, ← h2, ← h3]; clear h1 h2 h3; grind))
  all_goals (first | (have := HV; clear this) | have HV := Lib.hid (show bareB ⟨14, field, text, terms, offs, n, weight, ⟨lop, lin, lt⟩, ⟨hop, hin, ht⟩, occur⟩ nk = false by (have h1 := NT.out; have h2 := NF.out; have h3 := NO.out; simp only [bareB, noEnd, ← h1, ← h2, ← h3]; clear h1 h2 h3; grind)) | have HV := Lib.hid (show bareB ⟨14, field, text, terms, offs, n, weight, ⟨false, false, ByteArray.empty⟩, ⟨false, false, ByteArray.empty⟩, occur⟩ nk = false by (have h1 := NT.out; have h2 := NF.out; have h3 := NO.out; simp only [bareB, noEnd, ← h1, ← h2, ← h3]; clear h1 h2 h3; grind)))
  all_goals ((try clear h_field); (try clear h_text); (try clear h_n); (try clear h_nt); (try clear h_nf); (try clear h_no); (try (have HE := Lib.hid h_e; clear h_e)); go_wp2_with fail)
  all_goals go_ret
  all_goals refine ⟨congrArg (fun b => Ending.returned (.bool b)) ?_, (by (repeat (first | exact Below.refl _ _ | assumption | refine balloc ?_ _ | refine bdrew ?_ | refine bdrewN ?_ _ | refine bset ?_ (by first | assumption | omega) _ | refine bchain ?_ (by assumption))))⟩
  all_goals (first | exact HV.out.symm | (rw [HV.out]; done) | (exfalso; apply HE.out; (simp only [tl_empty, tl_nil] at *); grind) | (rw [HV.out]; simp))

end Go.Proofs.YtfpikilhbkeajaaGreatDoor.RefBare4

namespace Go.Proofs.YtfpikilhbkeajaaGreatDoor.RefAsked
set_option maxRecDepth 100000
open Go.RowKit Go.PlainAid Base Query QrySize BindBase TextPlain Numbers Lists

set_option maxHeartbeats 1000000 in
theorem rend_any (b : Bnd) (w : World) : Calls Tryz.prog 114 #[.agg #[.bool b.op, .bool b.inn, .string b.text]] w fun e w' => e = .returned (.bool (okEnd b)) ∧ Below w.heap.size w w' := by
  obtain ⟨o, i, t⟩ := b
  simp only
  cases o <;> cases i
  all_goals
    go_enter Tryz.func114, Tryz.ntmps114
    go_wp2_with fail
    go_ret
    refine ⟨congrArg (fun b => Ending.returned (.bool b)) ?_, (by exact Base.bel)⟩
    simp [okEnd, tl_empty, tl_nil]

theorem asked_simple (hd : Head) (hk : hd.kind = 1 ∨ hd.kind = 2 ∨ hd.kind = 3 ∨ hd.kind = 4 ∨ hd.kind = 6 ∨ hd.kind = 11 ∨ hd.kind = 12 ∨ hd.kind = 13 ∨ hd.kind = 14) (nk : Nat) (A1 A2 A3 A4 : Option Addr) (c1 c2 c3 c4 : Nat) (w : World) :
    Calls Tryz.prog 86 #[.agg (qcells hd nk A1 A2 A3 A4 c1 c2 c3 c4)] w fun e w' => e = .returned (.bool (askB hd nk)) ∧ Below w.heap.size w w' := by
  obtain ⟨kind, field, text, terms, offs, n, weight, lo, hi, occur⟩ := hd
  simp only at hk
  rcases hk with rfl | rfl | rfl | rfl | rfl | rfl | rfl | rfl | rfl
  all_goals
    unfold qcells
    go_enter Tryz.func86, Tryz.ntmps86
    go_wp2_with fail
    go_ret
    refine ⟨congrArg (fun b => Ending.returned (.bool b)) ?_, (by exact Base.bel)⟩
    simp [askB]
    try grind
set_option maxHeartbeats 8000000 in
theorem asked_5 (hd : Head) (hk : hd.kind = 5) (hw : Hwf hd) (nk : Nat) (A1 A2 A3 A4 : Option Addr) (c1 c2 c3 c4 : Nat) (w : World) (s2 : Slc w w.heap.size A2 (ints hd.offs)) :
    Calls Tryz.prog 86 #[.agg (qcells hd nk A1 A2 A3 A4 c1 c2 c3 c4)] w fun e w' => e = .returned (.bool (askB hd nk)) ∧ Below w.heap.size w w' := by
  obtain ⟨kind, field, text, terms, offs, n, weight, lo, hi, occur⟩ := hd
  simp only at hk s2
  subst hk
  have hnl : offs.length ≤ 9223372036854775807 := hw.noffs
  clear hw
  obtain ⟨nf, hnf⟩ : ∃ nf, nf = offs.length := ⟨_, rfl⟩
  obtain ⟨nt, hnt⟩ : ∃ nt, nt = terms.length := ⟨_, rfl⟩
  have NF := Lib.hid hnf
  have S2 := Lib.hid s2
  unfold qcells
  simp only
  rw [← hnf, ← hnt]
  rw [← hnf] at hnl
  obtain ⟨b0, hb0⟩ : ∃ b0, b0 = (decide (0 < nt) && nf == nt && decide (0 ≤ n) && decide (n ≤ 999999999)) := ⟨_, rfl⟩
  have HVAL := Lib.hid (show askB ⟨5, field, text, terms, offs, n, weight, lo, hi, occur⟩ nk = (b0 && offs.all offR) by rw [hb0, hnf, hnt]; simp [askB])
  clear hnt
  clear hnf s2
  have hcase : (¬ (0 < nt) ∧ b0 = false) ∨ (0 < nt ∧ nf ≠ nt ∧ b0 = false) ∨ (0 < nt ∧ nf = nt ∧ n < 0 ∧ b0 = false) ∨ (0 < nt ∧ nf = nt ∧ 0 ≤ n ∧ 999999999 < n ∧ b0 = false) ∨ (0 < nt ∧ nf = nt ∧ 0 ≤ n ∧ n ≤ 999999999 ∧ b0 = true) := by
    rw [hb0]
    simp
    omega
  clear hb0
  have hmain : ∀ (b : Bool), b0 = b → ((¬ ((0:Int) < nt)) ∨ ((0:Int) < nt ∧ ((nf : Int) == nt) = false) ∨ True) → True := fun _ _ _ => trivial
  clear hmain
  rcases hcase with ⟨i1, rfl⟩ | ⟨i1, i2, rfl⟩ | ⟨i1, i2, i3, rfl⟩ | ⟨i1, i2, i3, i4, rfl⟩ | ⟨i1, i2, i3, i4, rfl⟩
  · have j1 : ¬ ((0 : Int) < (nt : Int)) := by omega
    go_enter Tryz.func86, Tryz.ntmps86
    go_wp2_with fail
    go_loop [39, 3] (fun i u => ∃ j : Nat, j ≤ nf ∧ i = .int .i64 j ∧ u = .bool false) (fun i _ => nf - (intOf i).toNat)
    case atStart => exact ⟨0, Nat.zero_le _, rfl, rfl⟩
    case round =>
      obtain ⟨j, hj, rfl, rfl⟩ := hrel
      rcases Nat.lt_or_ge j nf with hlt | hge
      · obtain ⟨z, hz⟩ : ∃ z, offs[j]? = some z := ⟨_, List.getElem?_eq_getElem (by have := NF.out; omega)⟩
        obtain ⟨g3, o3, rfl, hg3, hc3⟩ := S2.out (by intro h; rw [show offs = [] by simpa [ints] using h] at hz; simp at hz)
        have y : ∀ u, (w.alloc u).cell? ⟨g3, o3 + j, none⟩ = some (.int .i64 z) := fun u => ((show Below w.heap.size w (w.alloc u) by exact Base.bel).cell (p := ⟨g3, o3 + j, none⟩) hg3).trans (hc3 j (.int .i64 z) (by simp [ints, hz]))
        have HT := Lib.hid (show (offs.take (j + 1)).all offR = ((offs.take j).all offR && offR z) by rw [List.take_add_one, hz, List.all_append]; simp)
        have hlt2 : (j : Int) < 9223372036854775807 := by omega
        have k1 : (j : Int) < (nf : Int) := by omega
        clear hz hc3
        go_wp2_with fail
        (try go_big_round); refine ⟨⟨j + 1, by omega, by go_num, ?_⟩, by simp [intOf]; omega⟩; rfl
      · have hj' : j = nf := by omega
        have HO := Lib.hid (show (offs.take j).all offR = offs.all offR by rw [hj', NF.out, List.take_length])
        have k1 : ¬ ((j : Int) < (nf : Int)) := by omega
        clear hj'
        go_wp2_with fail
        go_ret
        refine ⟨congrArg (fun b => Ending.returned (.bool b)) ?_, (by exact Base.bel)⟩
        rw [HVAL.out, ← HO.out]
        simp
  · have j1 : (0 : Int) < (nt : Int) := by omega
    have j2 : ((nf : Int) == (nt : Int)) = false := beq_eq_false_iff_ne.2 (by omega)
    go_enter Tryz.func86, Tryz.ntmps86
    go_wp2_with fail
    go_loop [39, 3] (fun i u => ∃ j : Nat, j ≤ nf ∧ i = .int .i64 j ∧ u = .bool false) (fun i _ => nf - (intOf i).toNat)
    case atStart => exact ⟨0, Nat.zero_le _, rfl, rfl⟩
    case round =>
      obtain ⟨j, hj, rfl, rfl⟩ := hrel
      rcases Nat.lt_or_ge j nf with hlt | hge
      · obtain ⟨z, hz⟩ : ∃ z, offs[j]? = some z := ⟨_, List.getElem?_eq_getElem (by have := NF.out; omega)⟩
        obtain ⟨g3, o3, rfl, hg3, hc3⟩ := S2.out (by intro h; rw [show offs = [] by simpa [ints] using h] at hz; simp at hz)
        have y : ∀ u, (w.alloc u).cell? ⟨g3, o3 + j, none⟩ = some (.int .i64 z) := fun u => ((show Below w.heap.size w (w.alloc u) by exact Base.bel).cell (p := ⟨g3, o3 + j, none⟩) hg3).trans (hc3 j (.int .i64 z) (by simp [ints, hz]))
        have HT := Lib.hid (show (offs.take (j + 1)).all offR = ((offs.take j).all offR && offR z) by rw [List.take_add_one, hz, List.all_append]; simp)
        have hlt2 : (j : Int) < 9223372036854775807 := by omega
        have k1 : (j : Int) < (nf : Int) := by omega
        clear hz hc3
        go_wp2_with fail
        (try go_big_round); refine ⟨⟨j + 1, by omega, by go_num, ?_⟩, by simp [intOf]; omega⟩; rfl
      · have hj' : j = nf := by omega
        have HO := Lib.hid (show (offs.take j).all offR = offs.all offR by rw [hj', NF.out, List.take_length])
        have k1 : ¬ ((j : Int) < (nf : Int)) := by omega
        clear hj'
        go_wp2_with fail
        go_ret
        refine ⟨congrArg (fun b => Ending.returned (.bool b)) ?_, (by exact Base.bel)⟩
        rw [HVAL.out, ← HO.out]
        simp
  · have j1 : (0 : Int) < (nt : Int) := by omega
    have j3 : decide (0 ≤ n) = false := decide_eq_false (by omega)
    obtain rfl := i2
    go_enter Tryz.func86, Tryz.ntmps86
    go_wp2_with fail
    go_loop [39, 3] (fun i u => ∃ j : Nat, j ≤ nf ∧ i = .int .i64 j ∧ u = .bool false) (fun i _ => nf - (intOf i).toNat)
    case atStart => exact ⟨0, Nat.zero_le _, rfl, rfl⟩
    case round =>
      obtain ⟨j, hj, rfl, rfl⟩ := hrel
      rcases Nat.lt_or_ge j nf with hlt | hge
      · obtain ⟨z, hz⟩ : ∃ z, offs[j]? = some z := ⟨_, List.getElem?_eq_getElem (by have := NF.out; omega)⟩
        obtain ⟨g3, o3, rfl, hg3, hc3⟩ := S2.out (by intro h; rw [show offs = [] by simpa [ints] using h] at hz; simp at hz)
        have y : ∀ u, (w.alloc u).cell? ⟨g3, o3 + j, none⟩ = some (.int .i64 z) := fun u => ((show Below w.heap.size w (w.alloc u) by exact Base.bel).cell (p := ⟨g3, o3 + j, none⟩) hg3).trans (hc3 j (.int .i64 z) (by simp [ints, hz]))
        have HT := Lib.hid (show (offs.take (j + 1)).all offR = ((offs.take j).all offR && offR z) by rw [List.take_add_one, hz, List.all_append]; simp)
        have hlt2 : (j : Int) < 9223372036854775807 := by omega
        have k1 : (j : Int) < (nf : Int) := by omega
        clear hz hc3
        go_wp2_with fail
        (try go_big_round); refine ⟨⟨j + 1, by omega, by go_num, ?_⟩, by simp [intOf]; omega⟩; rfl
      · have hj' : j = nf := by omega
        have HO := Lib.hid (show (offs.take j).all offR = offs.all offR by rw [hj', NF.out, List.take_length])
        have k1 : ¬ ((j : Int) < (nf : Int)) := by omega
        clear hj'
        go_wp2_with fail
        go_ret
        refine ⟨congrArg (fun b => Ending.returned (.bool b)) ?_, (by exact Base.bel)⟩
        rw [HVAL.out, ← HO.out]
        simp
  · have j1 : (0 : Int) < (nt : Int) := by omega
    have j3 : decide (0 ≤ n) = true := decide_eq_true i3
    have j4 : decide (n ≤ 999999999) = false := decide_eq_false (by omega)
    obtain rfl := i2
    go_enter Tryz.func86, Tryz.ntmps86
    go_wp2_with fail
    go_loop [39, 3] (fun i u => ∃ j : Nat, j ≤ nf ∧ i = .int .i64 j ∧ u = .bool false) (fun i _ => nf - (intOf i).toNat)
    case atStart => exact ⟨0, Nat.zero_le _, rfl, rfl⟩
    case round =>
      obtain ⟨j, hj, rfl, rfl⟩ := hrel
      rcases Nat.lt_or_ge j nf with hlt | hge
      · obtain ⟨z, hz⟩ : ∃ z, offs[j]? = some z := ⟨_, List.getElem?_eq_getElem (by have := NF.out; omega)⟩
        obtain ⟨g3, o3, rfl, hg3, hc3⟩ := S2.out (by intro h; rw [show offs = [] by simpa [ints] using h] at hz; simp at hz)
        have y : ∀ u, (w.alloc u).cell? ⟨g3, o3 + j, none⟩ = some (.int .i64 z) := fun u => ((show Below w.heap.size w (w.alloc u) by exact Base.bel).cell (p := ⟨g3, o3 + j, none⟩) hg3).trans (hc3 j (.int .i64 z) (by simp [ints, hz]))
        have HT := Lib.hid (show (offs.take (j + 1)).all offR = ((offs.take j).all offR && offR z) by rw [List.take_add_one, hz, List.all_append]; simp)
        have hlt2 : (j : Int) < 9223372036854775807 := by omega
        have k1 : (j : Int) < (nf : Int) := by omega
        clear hz hc3
        go_wp2_with fail
        (try go_big_round); refine ⟨⟨j + 1, by omega, by go_num, ?_⟩, by simp [intOf]; omega⟩; rfl
      · have hj' : j = nf := by omega
        have HO := Lib.hid (show (offs.take j).all offR = offs.all offR by rw [hj', NF.out, List.take_length])
        have k1 : ¬ ((j : Int) < (nf : Int)) := by omega
        clear hj'
        go_wp2_with fail
        go_ret
        refine ⟨congrArg (fun b => Ending.returned (.bool b)) ?_, (by exact Base.bel)⟩
        rw [HVAL.out, ← HO.out]
        simp
  · have j1 : (0 : Int) < (nt : Int) := by omega
    have j3 : decide (0 ≤ n) = true := decide_eq_true i3
    have j4 : decide (n ≤ 999999999) = true := decide_eq_true i4
    obtain rfl := i2
    go_enter Tryz.func86, Tryz.ntmps86
    go_wp2_with fail
    go_loop [39, 3] (fun i u => ∃ j : Nat, j ≤ nf ∧ i = .int .i64 j ∧ u = .bool ((offs.take j).all offR)) (fun i _ => nf - (intOf i).toNat)
    case atStart => exact ⟨0, Nat.zero_le _, rfl, rfl⟩
    case round =>
      obtain ⟨j, hj, rfl, rfl⟩ := hrel
      rcases Nat.lt_or_ge j nf with hlt | hge
      · obtain ⟨z, hz⟩ : ∃ z, offs[j]? = some z := ⟨_, List.getElem?_eq_getElem (by have := NF.out; omega)⟩
        obtain ⟨g3, o3, rfl, hg3, hc3⟩ := S2.out (by intro h; rw [show offs = [] by simpa [ints] using h] at hz; simp at hz)
        have y : ∀ u, (w.alloc u).cell? ⟨g3, o3 + j, none⟩ = some (.int .i64 z) := fun u => ((show Below w.heap.size w (w.alloc u) by exact Base.bel).cell (p := ⟨g3, o3 + j, none⟩) hg3).trans (hc3 j (.int .i64 z) (by simp [ints, hz]))
        have HT := Lib.hid (show (offs.take (j + 1)).all offR = ((offs.take j).all offR && offR z) by rw [List.take_add_one, hz, List.all_append]; simp)
        have hlt2 : (j : Int) < 9223372036854775807 := by omega
        have k1 : (j : Int) < (nf : Int) := by omega
        clear hz hc3
        obtain ⟨acc, hacc⟩ : ∃ acc, acc = (offs.take j).all offR := ⟨_, rfl⟩
        rw [← hacc]
        have HACC := Lib.hid hacc
        clear hacc
        cases acc
        · go_wp2_with fail
          (try go_big_round); refine ⟨⟨j + 1, by omega, by go_num, ?_⟩, by simp [intOf]; omega⟩; rw [HT.out, ← HACC.out]; rfl
        · rcases (by omega : z < 0 ∨ (0 ≤ z ∧ 2147483646 < z) ∨ (0 ≤ z ∧ z ≤ 2147483646)) with z0 | ⟨z0, z1⟩ | ⟨z0, z1⟩
          · have HZ := Lib.hid (show offR z = false by simp [offR]; omega)
            have d1 : decide (0 ≤ z) = false := decide_eq_false (by omega)
            clear z0
            go_wp2_with fail
            (try go_big_round); refine ⟨⟨j + 1, by omega, by go_num, ?_⟩, by simp [intOf]; omega⟩; rw [HT.out, ← HACC.out, HZ.out]; rfl
          · have HZ := Lib.hid (show offR z = false by simp [offR]; omega)
            have d1 : decide (0 ≤ z) = true := decide_eq_true z0
            have d2 : decide (z ≤ 2147483646) = false := decide_eq_false (by omega)
            clear z0 z1
            go_wp2_with fail
            (try go_big_round); refine ⟨⟨j + 1, by omega, by go_num, ?_⟩, by simp [intOf]; omega⟩; rw [HT.out, ← HACC.out, HZ.out]; rfl
          · have HZ := Lib.hid (show offR z = true by simp [offR]; omega)
            have d1 : decide (0 ≤ z) = true := decide_eq_true z0
            have d2 : decide (z ≤ 2147483646) = true := decide_eq_true z1
            clear z0 z1
            go_wp2_with fail
            (try go_big_round); refine ⟨⟨j + 1, by omega, by go_num, ?_⟩, by simp [intOf]; omega⟩; rw [HT.out, ← HACC.out, HZ.out]; rfl
      · have hj' : j = nf := by omega
        have HO := Lib.hid (show (offs.take j).all offR = offs.all offR by rw [hj', NF.out, List.take_length])
        have k1 : ¬ ((j : Int) < (nf : Int)) := by omega
        clear hj'
        go_wp2_with fail
        go_ret
        refine ⟨congrArg (fun b => Ending.returned (.bool b)) ?_, (by exact Base.bel)⟩
        rw [HVAL.out, ← HO.out]
        simp
set_option maxHeartbeats 8000000 in
theorem asked_10 (hd : Head) (hk : hd.kind = 10) (hw : Hwf hd) (nk : Nat) (A1 A2 A3 A4 : Option Addr) (c1 c2 c3 c4 : Nat) (w : World) (s2 : Slc w w.heap.size A3 (ints hd.occur)) :
    Calls Tryz.prog 86 #[.agg (qcells hd nk A1 A2 A3 A4 c1 c2 c3 c4)] w fun e w' => e = .returned (.bool (askB hd nk)) ∧ Below w.heap.size w w' := by
  obtain ⟨kind, field, text, terms, offs, n, weight, lo, hi, occur⟩ := hd
  simp only at hk s2
  subst hk
  have hnl : occur.length ≤ 9223372036854775807 := hw.noccur
  clear hw
  obtain ⟨nf, hnf⟩ : ∃ nf, nf = occur.length := ⟨_, rfl⟩
  obtain ⟨nt, hnt⟩ : ∃ nt, nt = nk := ⟨_, rfl⟩
  have NF := Lib.hid hnf
  have S2 := Lib.hid s2
  unfold qcells
  simp only
  rw [← hnf, ← hnt]
  rw [← hnf] at hnl
  obtain ⟨b0, hb0⟩ : ∃ b0, b0 = (decide (0 < nt) && nf == nt && decide (0 ≤ n) && decide (n ≤ 999999999)) := ⟨_, rfl⟩
  have HVAL := Lib.hid (show askB ⟨10, field, text, terms, offs, n, weight, lo, hi, occur⟩ nt = (b0 && occur.all occB) by rw [hb0, hnf]; simp [askB])
  have HNT := Lib.hid hnt; clear hnt
  clear hnf s2
  have hcase : (¬ (0 < nt) ∧ b0 = false) ∨ (0 < nt ∧ nf ≠ nt ∧ b0 = false) ∨ (0 < nt ∧ nf = nt ∧ n < 0 ∧ b0 = false) ∨ (0 < nt ∧ nf = nt ∧ 0 ≤ n ∧ 999999999 < n ∧ b0 = false) ∨ (0 < nt ∧ nf = nt ∧ 0 ≤ n ∧ n ≤ 999999999 ∧ b0 = true) := by
    rw [hb0]
    simp
    omega
  clear hb0
  have hmain : ∀ (b : Bool), b0 = b → ((¬ ((0:Int) < nt)) ∨ ((0:Int) < nt ∧ ((nf : Int) == nt) = false) ∨ True) → True := fun _ _ _ => trivial
  clear hmain
  rcases hcase with ⟨i1, rfl⟩ | ⟨i1, i2, rfl⟩ | ⟨i1, i2, i3, rfl⟩ | ⟨i1, i2, i3, i4, rfl⟩ | ⟨i1, i2, i3, i4, rfl⟩
  · have j1 : ¬ ((0 : Int) < (nt : Int)) := by omega
    go_enter Tryz.func86, Tryz.ntmps86
    go_wp2_with fail
    go_loop [107, 6] (fun i u => ∃ j : Nat, j ≤ nf ∧ i = .int .i64 j ∧ u = .bool false) (fun i _ => nf - (intOf i).toNat)
    case atStart => exact ⟨0, Nat.zero_le _, rfl, rfl⟩
    case round =>
      obtain ⟨j, hj, rfl, rfl⟩ := hrel
      rcases Nat.lt_or_ge j nf with hlt | hge
      · obtain ⟨z, hz⟩ : ∃ z, occur[j]? = some z := ⟨_, List.getElem?_eq_getElem (by have := NF.out; omega)⟩
        obtain ⟨g3, o3, rfl, hg3, hc3⟩ := S2.out (by intro h; rw [show occur = [] by simpa [ints] using h] at hz; simp at hz)
        have y : ∀ u, (w.alloc u).cell? ⟨g3, o3 + j, none⟩ = some (.int .i64 z) := fun u => ((show Below w.heap.size w (w.alloc u) by exact Base.bel).cell (p := ⟨g3, o3 + j, none⟩) hg3).trans (hc3 j (.int .i64 z) (by simp [ints, hz]))
        have HT := Lib.hid (show (occur.take (j + 1)).all occB = ((occur.take j).all occB && occB z) by rw [List.take_add_one, hz, List.all_append]; simp)
        have hlt2 : (j : Int) < 9223372036854775807 := by omega
        have k1 : (j : Int) < (nf : Int) := by omega
        clear hz hc3
        go_wp2_with fail
        (try go_big_round); refine ⟨⟨j + 1, by omega, by go_num, ?_⟩, by simp [intOf]; omega⟩; rfl
      · have hj' : j = nf := by omega
        have HO := Lib.hid (show (occur.take j).all occB = occur.all occB by rw [hj', NF.out, List.take_length])
        have k1 : ¬ ((j : Int) < (nf : Int)) := by omega
        clear hj'
        go_wp2_with fail
        go_ret
        refine ⟨congrArg (fun b => Ending.returned (.bool b)) ?_, (by exact Base.bel)⟩
        rw [HVAL.out, ← HO.out]
        simp
  · have j1 : (0 : Int) < (nt : Int) := by omega
    have j2 : ((nf : Int) == (nt : Int)) = false := beq_eq_false_iff_ne.2 (by omega)
    go_enter Tryz.func86, Tryz.ntmps86
    go_wp2_with fail
    go_loop [107, 6] (fun i u => ∃ j : Nat, j ≤ nf ∧ i = .int .i64 j ∧ u = .bool false) (fun i _ => nf - (intOf i).toNat)
    case atStart => exact ⟨0, Nat.zero_le _, rfl, rfl⟩
    case round =>
      obtain ⟨j, hj, rfl, rfl⟩ := hrel
      rcases Nat.lt_or_ge j nf with hlt | hge
      · obtain ⟨z, hz⟩ : ∃ z, occur[j]? = some z := ⟨_, List.getElem?_eq_getElem (by have := NF.out; omega)⟩
        obtain ⟨g3, o3, rfl, hg3, hc3⟩ := S2.out (by intro h; rw [show occur = [] by simpa [ints] using h] at hz; simp at hz)
        have y : ∀ u, (w.alloc u).cell? ⟨g3, o3 + j, none⟩ = some (.int .i64 z) := fun u => ((show Below w.heap.size w (w.alloc u) by exact Base.bel).cell (p := ⟨g3, o3 + j, none⟩) hg3).trans (hc3 j (.int .i64 z) (by simp [ints, hz]))
        have HT := Lib.hid (show (occur.take (j + 1)).all occB = ((occur.take j).all occB && occB z) by rw [List.take_add_one, hz, List.all_append]; simp)
        have hlt2 : (j : Int) < 9223372036854775807 := by omega
        have k1 : (j : Int) < (nf : Int) := by omega
        clear hz hc3
        go_wp2_with fail
        (try go_big_round); refine ⟨⟨j + 1, by omega, by go_num, ?_⟩, by simp [intOf]; omega⟩; rfl
      · have hj' : j = nf := by omega
        have HO := Lib.hid (show (occur.take j).all occB = occur.all occB by rw [hj', NF.out, List.take_length])
        have k1 : ¬ ((j : Int) < (nf : Int)) := by omega
        clear hj'
        go_wp2_with fail
        go_ret
        refine ⟨congrArg (fun b => Ending.returned (.bool b)) ?_, (by exact Base.bel)⟩
        rw [HVAL.out, ← HO.out]
        simp
  · have j1 : (0 : Int) < (nt : Int) := by omega
    have j3 : decide (0 ≤ n) = false := decide_eq_false (by omega)
    obtain rfl := i2
    go_enter Tryz.func86, Tryz.ntmps86
    go_wp2_with fail
    go_loop [107, 6] (fun i u => ∃ j : Nat, j ≤ nf ∧ i = .int .i64 j ∧ u = .bool false) (fun i _ => nf - (intOf i).toNat)
    case atStart => exact ⟨0, Nat.zero_le _, rfl, rfl⟩
    case round =>
      obtain ⟨j, hj, rfl, rfl⟩ := hrel
      rcases Nat.lt_or_ge j nf with hlt | hge
      · obtain ⟨z, hz⟩ : ∃ z, occur[j]? = some z := ⟨_, List.getElem?_eq_getElem (by have := NF.out; omega)⟩
        obtain ⟨g3, o3, rfl, hg3, hc3⟩ := S2.out (by intro h; rw [show occur = [] by simpa [ints] using h] at hz; simp at hz)
        have y : ∀ u, (w.alloc u).cell? ⟨g3, o3 + j, none⟩ = some (.int .i64 z) := fun u => ((show Below w.heap.size w (w.alloc u) by exact Base.bel).cell (p := ⟨g3, o3 + j, none⟩) hg3).trans (hc3 j (.int .i64 z) (by simp [ints, hz]))
        have HT := Lib.hid (show (occur.take (j + 1)).all occB = ((occur.take j).all occB && occB z) by rw [List.take_add_one, hz, List.all_append]; simp)
        have hlt2 : (j : Int) < 9223372036854775807 := by omega
        have k1 : (j : Int) < (nf : Int) := by omega
        clear hz hc3
        go_wp2_with fail
        (try go_big_round); refine ⟨⟨j + 1, by omega, by go_num, ?_⟩, by simp [intOf]; omega⟩; rfl
      · have hj' : j = nf := by omega
        have HO := Lib.hid (show (occur.take j).all occB = occur.all occB by rw [hj', NF.out, List.take_length])
        have k1 : ¬ ((j : Int) < (nf : Int)) := by omega
        clear hj'
        go_wp2_with fail
        go_ret
        refine ⟨congrArg (fun b => Ending.returned (.bool b)) ?_, (by exact Base.bel)⟩
        rw [HVAL.out, ← HO.out]
        simp
  · have j1 : (0 : Int) < (nt : Int) := by omega
    have j3 : decide (0 ≤ n) = true := decide_eq_true i3
    have j4 : decide (n ≤ 999999999) = false := decide_eq_false (by omega)
    obtain rfl := i2
    go_enter Tryz.func86, Tryz.ntmps86
    go_wp2_with fail
    go_loop [107, 6] (fun i u => ∃ j : Nat, j ≤ nf ∧ i = .int .i64 j ∧ u = .bool false) (fun i _ => nf - (intOf i).toNat)
    case atStart => exact ⟨0, Nat.zero_le _, rfl, rfl⟩
    case round =>
      obtain ⟨j, hj, rfl, rfl⟩ := hrel
      rcases Nat.lt_or_ge j nf with hlt | hge
      · obtain ⟨z, hz⟩ : ∃ z, occur[j]? = some z := ⟨_, List.getElem?_eq_getElem (by have := NF.out; omega)⟩
        obtain ⟨g3, o3, rfl, hg3, hc3⟩ := S2.out (by intro h; rw [show occur = [] by simpa [ints] using h] at hz; simp at hz)
        have y : ∀ u, (w.alloc u).cell? ⟨g3, o3 + j, none⟩ = some (.int .i64 z) := fun u => ((show Below w.heap.size w (w.alloc u) by exact Base.bel).cell (p := ⟨g3, o3 + j, none⟩) hg3).trans (hc3 j (.int .i64 z) (by simp [ints, hz]))
        have HT := Lib.hid (show (occur.take (j + 1)).all occB = ((occur.take j).all occB && occB z) by rw [List.take_add_one, hz, List.all_append]; simp)
        have hlt2 : (j : Int) < 9223372036854775807 := by omega
        have k1 : (j : Int) < (nf : Int) := by omega
        clear hz hc3
        go_wp2_with fail
        (try go_big_round); refine ⟨⟨j + 1, by omega, by go_num, ?_⟩, by simp [intOf]; omega⟩; rfl
      · have hj' : j = nf := by omega
        have HO := Lib.hid (show (occur.take j).all occB = occur.all occB by rw [hj', NF.out, List.take_length])
        have k1 : ¬ ((j : Int) < (nf : Int)) := by omega
        clear hj'
        go_wp2_with fail
        go_ret
        refine ⟨congrArg (fun b => Ending.returned (.bool b)) ?_, (by exact Base.bel)⟩
        rw [HVAL.out, ← HO.out]
        simp
  · have j1 : (0 : Int) < (nt : Int) := by omega
    have j3 : decide (0 ≤ n) = true := decide_eq_true i3
    have j4 : decide (n ≤ 999999999) = true := decide_eq_true i4
    obtain rfl := i2
    go_enter Tryz.func86, Tryz.ntmps86
    go_wp2_with fail
    go_loop [107, 6] (fun i u => ∃ j : Nat, j ≤ nf ∧ i = .int .i64 j ∧ u = .bool ((occur.take j).all occB)) (fun i _ => nf - (intOf i).toNat)
    case atStart => exact ⟨0, Nat.zero_le _, rfl, rfl⟩
    case round =>
      obtain ⟨j, hj, rfl, rfl⟩ := hrel
      rcases Nat.lt_or_ge j nf with hlt | hge
      · obtain ⟨z, hz⟩ : ∃ z, occur[j]? = some z := ⟨_, List.getElem?_eq_getElem (by have := NF.out; omega)⟩
        obtain ⟨g3, o3, rfl, hg3, hc3⟩ := S2.out (by intro h; rw [show occur = [] by simpa [ints] using h] at hz; simp at hz)
        have y : ∀ u, (w.alloc u).cell? ⟨g3, o3 + j, none⟩ = some (.int .i64 z) := fun u => ((show Below w.heap.size w (w.alloc u) by exact Base.bel).cell (p := ⟨g3, o3 + j, none⟩) hg3).trans (hc3 j (.int .i64 z) (by simp [ints, hz]))
        have HT := Lib.hid (show (occur.take (j + 1)).all occB = ((occur.take j).all occB && occB z) by rw [List.take_add_one, hz, List.all_append]; simp)
        have hlt2 : (j : Int) < 9223372036854775807 := by omega
        have k1 : (j : Int) < (nf : Int) := by omega
        clear hz hc3
        obtain ⟨acc, hacc⟩ : ∃ acc, acc = (occur.take j).all occB := ⟨_, rfl⟩
        rw [← hacc]
        have HACC := Lib.hid hacc
        clear hacc
        cases acc
        · go_wp2_with fail
          (try go_big_round); refine ⟨⟨j + 1, by omega, by go_num, ?_⟩, by simp [intOf]; omega⟩; rw [HT.out, ← HACC.out]; rfl
        · rcases (by omega : z = 0 ∨ z = 1 ∨ z = 2 ∨ (z ≠ 0 ∧ z ≠ 1 ∧ z ≠ 2)) with rfl | rfl | rfl | ⟨z0, z1, z2⟩
          · go_wp2_with fail
            (try go_big_round); refine ⟨⟨j + 1, by omega, by go_num, ?_⟩, by simp [intOf]; omega⟩; rw [HT.out, ← HACC.out]; rfl
          · go_wp2_with fail
            (try go_big_round); refine ⟨⟨j + 1, by omega, by go_num, ?_⟩, by simp [intOf]; omega⟩; rw [HT.out, ← HACC.out]; rfl
          · go_wp2_with fail
            (try go_big_round); refine ⟨⟨j + 1, by omega, by go_num, ?_⟩, by simp [intOf]; omega⟩; rw [HT.out, ← HACC.out]; rfl
          · have HZ := Lib.hid (show occB z = false by simp [occB, z0, z1, z2])
            have d1 : (z == 0) = false := beq_eq_false_iff_ne.2 z0
            have d2 : (z == 1) = false := beq_eq_false_iff_ne.2 z1
            have d3 : (z == 2) = false := beq_eq_false_iff_ne.2 z2
            clear z0 z1 z2
            go_wp2_with fail
            (try go_big_round); refine ⟨⟨j + 1, by omega, by go_num, ?_⟩, by simp [intOf]; omega⟩; rw [HT.out, ← HACC.out, HZ.out]; rfl
      · have hj' : j = nf := by omega
        have HO := Lib.hid (show (occur.take j).all occB = occur.all occB by rw [hj', NF.out, List.take_length])
        have k1 : ¬ ((j : Int) < (nf : Int)) := by omega
        clear hj'
        go_wp2_with fail
        go_ret
        refine ⟨congrArg (fun b => Ending.returned (.bool b)) ?_, (by exact Base.bel)⟩
        rw [HVAL.out, ← HO.out]
        simp
theorem asked_any (hd : Head) (hk : 1 ≤ hd.kind ∧ hd.kind ≤ 14) (hm : multi hd.kind = false) (hw : Hwf hd) (nk : Nat) (A1 A2 A3 A4 : Option Addr) (c1 c2 c3 c4 : Nat) (w : World) (s2 : Slc w w.heap.size A2 (ints hd.offs)) (s3 : Slc w w.heap.size A3 (ints hd.occur)) :
    Calls Tryz.prog 86 #[.agg (qcells hd nk A1 A2 A3 A4 c1 c2 c3 c4)] w fun e w' => e = .returned (.bool (askB hd nk)) ∧ Below w.heap.size w w' := by
  have hm' : hd.kind ≠ 6 ∧ hd.kind ≠ 7 ∧ hd.kind ≠ 8 ∧ hd.kind ≠ 9 := by unfold multi at hm; simp at hm; omega
  rcases (by omega : hd.kind = 5 ∨ hd.kind = 10 ∨ (hd.kind = 1 ∨ hd.kind = 2 ∨ hd.kind = 3 ∨ hd.kind = 4 ∨ hd.kind = 6 ∨ hd.kind = 11 ∨ hd.kind = 12 ∨ hd.kind = 13 ∨ hd.kind = 14)) with h | h | h
  · exact asked_5 hd h hw nk A1 A2 A3 A4 c1 c2 c3 c4 w s2
  · exact asked_10 hd h hw nk A1 A2 A3 A4 c1 c2 c3 c4 w s3
  · exact asked_simple hd h nk A1 A2 A3 A4 c1 c2 c3 c4 w
end Go.Proofs.YtfpikilhbkeajaaGreatDoor.RefAsked
