/-
  The walk of bind.Same over any two queries.
-/
import Derived.Test.YtkcfgcdlnojaeaaGreatDoorDQry
import Derived.Deep.Cut
set_option linter.unusedVariables false
set_option linter.unusedSimpArgs false
namespace Go.Proofs.YtkcfgcdlnojaeaaGreatDoor.QrySame
set_option maxRecDepth 100000
open Go.RowKit Go.PlainAid Base Query QrySize

def Told (P : Prop) (w : World) (e : Ending) (w' : World) : Prop := (∃ r : Bool, e = .returned (.bool r) ∧ (r = true ↔ P)) ∧ Below w.heap.size w w'
theorem told_no {P : Prop} {w w' : World} (h : ¬ P) (hb : Below w.heap.size w w') : Told P w (.returned (.bool false)) w' := ⟨⟨false, rfl, fun e => Bool.noConfusion e, fun e => absurd e h⟩, hb⟩
theorem told_yes {P : Prop} {w w' : World} (h : P) (hb : Below w.heap.size w w') : Told P w (.returned (.bool true)) w' := ⟨⟨true, rfl, fun _ => h, fun _ => rfl⟩, hb⟩
theorem ba_eq {a b : ByteArray} (h : a.toList = b.toList) : a = b := by
  rw [ByteArray.toList_eq, ByteArray.toList_eq] at h
  cases a; cases b
  simp only [ByteArray.mk.injEq]
  exact Array.toList_inj.1 h
theorem bnd_eq {a b : Bnd} (h1 : a.op = b.op) (h2 : a.inn = b.inn) (h3 : a.text.toList = b.text.toList) : a = b := by
  cases a; cases b
  simp only at h1 h2 h3
  rw [h1, h2, ba_eq h3]
theorem head_eq {a b : Head} (h1 : a.kind = b.kind) (h2 : a.field = b.field) (h3 : a.text.toList = b.text.toList) (h4 : a.n = b.n) (h5 : a.weight = b.weight) (h6 : a.lo = b.lo) (h7 : a.hi = b.hi) (h8 : a.terms = b.terms) (h9 : a.offs = b.offs) (h10 : a.occur = b.occur) : a = b := by
  cases a; cases b
  simp only at h1 h2 h3 h4 h5 h6 h7 h8 h9 h10
  rw [h1, h2, ba_eq h3, h4, h5, h6, h7, h8, h9, h10]
theorem take_eq_succ {α : Type} {l m : List α} {k : Nat} {x : α} (h : l.take k = m.take k) (h1 : l[k]? = some x) (h2 : m[k]? = some x) : l.take (k + 1) = m.take (k + 1) := by
  rw [List.take_add_one, List.take_add_one, h, h1, h2]
theorem slc_at {w : World} {B : Nat} {A : Option Addr} {xs : List Value} {k : Nat} (h : Slc w B A xs) (hk : k < xs.length) : ∃ g o, A = some ⟨g, o, none⟩ ∧ g < B ∧ w.cell? ⟨g, o + k, none⟩ = xs[k]? := by
  obtain ⟨g, o, e, hg, hc⟩ := h (by intro e; subst e; simp at hk)
  exact ⟨g, o, e, hg, (hc k _ (List.getElem?_eq_getElem hk)).trans (List.getElem?_eq_getElem hk).symm⟩

theorem qat_bw {w : World} {g p B : Nat} {hd : Head} {nk : Nat} {A1 A2 A3 A4 : Option Addr} {c1 c2 c3 c4 : Nat} (h : QAt w g p hd nk A1 A2 A3 A4 c1 c2 c3 c4) (hg : g < B) (b : Bw B w) : QAt b.at_ g p hd nk A1 A2 A3 A4 c1 c2 c3 c4 := by
  obtain ⟨y0, y1, y2, y3, y4, y5, y6, y7, y8, y9, y10, y11, y12, y13, y14⟩ := h
  exact ⟨(b.below.cell hg).trans y0, (b.below.cell hg).trans y1, (b.below.cell hg).trans y2, (b.below.cell hg).trans y3, (b.below.cell hg).trans y4, (b.below.cell hg).trans y5, (b.below.cell hg).trans y6, (b.below.cell hg).trans y7, (b.below.cell hg).trans y8, (b.below.cell hg).trans y9, (b.below.cell hg).trans y10, (b.below.cell hg).trans y11, (b.below.cell hg).trans y12, (b.below.cell hg).trans y13, (b.below.cell hg).trans y14⟩

set_option maxHeartbeats 4000000 in
theorem same_any (q : Qry) : ∀ (q2 : Qry) (cs cs2 : List Value) (B : Nat) (w : World), QVal w B cs q → QVal w B cs2 q2 → B ≤ w.heap.size →
    Calls Tryz.prog 33 #[.agg cs.toArray, .agg cs2.toArray] w (Told (q = q2) w) := by
  induction q using Qry.ind with
  | h q ih =>
    intro q2 cs cs2 B w hq hq2 hB
    obtain ⟨hd, ks, A1, A2, A3, A4, c1, c2, c3, c4, kc, hw, hk, h1, h2, h3, h4, h5⟩ := hq
    obtain ⟨hd2, ks2, B1, B2, B3, B4, d1, d2, d3, d4, kc2, hw2, hk2, g1, g2, g3, g4, g5⟩ := hq2
    simp only [Qry.kids] at ih
    have lt1 : hd.terms.length ≤ 9223372036854775807 := hw.nterms
    have lt2 : hd.offs.length ≤ 9223372036854775807 := hw.noffs
    have lt3 : hd.occur.length ≤ 9223372036854775807 := hw.noccur
    have lt4 : ks.length ≤ 9223372036854775807 := hk
    clear hw hw2 hk hk2
    by_cases hsh : (hd2.kind = hd.kind ∧ hd2.field = hd.field ∧ hd2.text = hd.text ∧ hd2.n = hd.n ∧ hd2.weight = hd.weight ∧ hd2.lo = hd.lo ∧ hd2.hi = hd.hi) ∧ hd2.terms.length = hd.terms.length ∧ hd2.offs.length = hd.offs.length ∧ hd2.occur.length = hd.occur.length ∧ ks2.length = ks.length
    case neg =>
      have HN := Lib.hid hsh
      clear hsh ih h1 h2 h3 h4 h5 g1 g2 g3 g4 g5
      go_enter Tryz.func33, Tryz.ntmps33
      go_wp2_with fail
      all_goals first | (go_ret; refine told_no (fun h => ?_) (by exact Base.bel); obtain ⟨rfl, rfl⟩ := Qry.mk.inj h; first | contradiction | (exfalso; simp_all; done)) | skip
      exfalso
      refine HN.out ⟨⟨(show hd.kind = hd2.kind from ‹_›).symm, (show hd.field = hd2.field from ‹_›).symm, (ba_eq (show hd.text.toList = hd2.text.toList from ‹_›)).symm, (show hd.n = hd2.n from ‹_›).symm, (show hd.weight = hd2.weight from ‹_›).symm,
        (bnd_eq (show hd.lo.op = hd2.lo.op from ‹_›) (show hd.lo.inn = hd2.lo.inn from ‹_›) (show hd.lo.text.toList = hd2.lo.text.toList from ‹_›)).symm,
        (bnd_eq (show hd.hi.op = hd2.hi.op from ‹_›) (show hd.hi.inn = hd2.hi.inn from ‹_›) (show hd.hi.text.toList = hd2.hi.text.toList from ‹_›)).symm⟩, ?_, ?_, ?_, ?_⟩
      · have := (show (hd.terms.length : Int) = (hd2.terms.length : Int) from ‹_›); omega
      · have := (show (hd.offs.length : Int) = (hd2.offs.length : Int) from ‹_›); omega
      · have := (show (hd.occur.length : Int) = (hd2.occur.length : Int) from ‹_›); omega
      · have := (show ((ks.length : Int) != (ks2.length : Int)) = false from ‹_›)
        simp only [bne_eq_false_iff_eq] at this
        omega
    obtain ⟨⟨e1, e2, e3, e4, e5, e6, e7⟩, m1, m2, m3, m4⟩ := hsh
    obtain ⟨kd2, fd2, tx2, ts2, os2, nn2, wt2, lo2, hi2, oc2⟩ := hd2
    simp only at e1 e2 e3 e4 e5 e6 e7 m1 m2 m3 g1 g2 g3
    subst e1 e2 e3 e4 e5 e6 e7
    simp only [m1, m2, m3, m4]
    have HP : (Qry.mk hd ks = Qry.mk ⟨hd.kind, hd.field, hd.text, ts2, os2, hd.n, hd.weight, hd.lo, hd.hi, oc2⟩ ks2) ↔ (hd.terms = ts2 ∧ hd.offs = os2 ∧ hd.occur = oc2 ∧ ks = ks2) := by
      constructor
      · intro h
        have h' := Qry.mk.inj h
        exact ⟨congrArg Head.terms h'.1, congrArg Head.offs h'.1, congrArg Head.occur h'.1, h'.2⟩
      · rintro ⟨rfl, rfl, rfl, rfl⟩
        rfl
    generalize (Qry.mk hd ks = Qry.mk ⟨hd.kind, hd.field, hd.text, ts2, os2, hd.n, hd.weight, hd.lo, hd.hi, oc2⟩ ks2) = P at HP ⊢
    have HP := Lib.hid HP
    have M1 := Lib.hid m1
    have M2 := Lib.hid m2
    have M3 := Lib.hid m3
    have M4 := Lib.hid m4
    clear m1 m2 m3 m4
    obtain ⟨W2, hW2⟩ : ∃ W, W = (w.alloc (.cells (qcells hd ks.length A1 A2 A3 A4 c1 c2 c3 c4) 29)).alloc (.cells (qcells hd ks.length B1 B2 B3 B4 d1 d2 d3 d4) 29) := ⟨_, rfl⟩
    have k1 : Blk W2 w.heap.size 29 (qcells hd ks.length A1 A2 A3 A4 c1 c2 c3 c4) := by rw [hW2]; exact (Blk.new w _ _).alloc _
    have k2 : Blk W2 (w.heap.size + 1) 29 (qcells hd ks.length B1 B2 B3 B4 d1 d2 d3 d4) := by
      rw [hW2]
      have := Blk.new (w.alloc (.cells (qcells hd ks.length A1 A2 A3 A4 c1 c2 c3 c4) 29)) 29 (qcells hd ks.length B1 B2 B3 B4 d1 d2 d3 d4)
      rwa [World.size_alloc] at this
    have hbW : Below w.heap.size w W2 := by rw [hW2]; exact Base.bel
    have hsz : w.heap.size + 2 = W2.heap.size := by rw [hW2]; simp
    have HW := Lib.hid hW2
    clear hW2
    go_enter Tryz.func33, Tryz.ntmps33
    go_wp2_with fail
    go_loopw [93] (fun i wr => ∃ k : Nat, k ≤ hd.terms.length ∧ i = .int .i64 k ∧ hd.terms.take k = ts2.take k ∧ Below W2.heap.size W2 wr) (fun i _ => hd.terms.length - (intOf i).toNat)
    case atStart => exact ⟨0, Nat.zero_le _, rfl, rfl, (by rw [HW.out]; exact Below.refl _ _)⟩
    case round =>
      obtain ⟨k, hk', rfl, ht1, hbel1⟩ := hrel
      rcases Nat.lt_or_ge k hd.terms.length with hlt | hge
      · obtain ⟨s, hs⟩ : ∃ s, hd.terms[k]? = some s := ⟨_, List.getElem?_eq_getElem hlt⟩
        obtain ⟨s2, hs2⟩ : ∃ s, ts2[k]? = some s := ⟨_, List.getElem?_eq_getElem (by have := M1.out; omega)⟩
        obtain ⟨p, o, rfl, hp, x1⟩ := slc_at (h1.below (bchain hbW hbel1) hB) (k := k) (by simpa [strs] using hlt)
        obtain ⟨p2, o2, rfl, hp2, y1⟩ := slc_at (g1.below (bchain hbW hbel1) hB) (k := k) (by simpa [strs, M1.out] using hlt)
        have x2 : wr.cell? ⟨p, o + k, none⟩ = some (.string s) := by rw [x1]; simp [strs, hs]
        have y2 : wr.cell? ⟨p2, o2 + k, none⟩ = some (.string s2) := by rw [y1]; simp [strs, hs2]
        have b3 : wr.cell? ⟨w.heap.size, 3, none⟩ = some (.slice (some ⟨p, o, none⟩) hd.terms.length c1) := (k1.below hbel1 (by omega)).cell 3
        have b4 : wr.cell? ⟨w.heap.size + 1, 3, none⟩ = some (.slice (some ⟨p2, o2, none⟩) hd.terms.length d1) := (k2.below hbel1 (by omega)).cell 3
        have i1 : (k : Int) < (hd.terms.length : Int) := by omega
        have i3 : (k : Int) < 9223372036854775807 := by omega
        have HT := Lib.hid ht1
        have HS := Lib.hid hs
        have HS2 := Lib.hid hs2
        clear x1 y1 hs hs2 ht1 h1 h2 h3 h4 h5 g1 g2 g3 g4 g5 ih
        by_cases hss : s = s2
        · subst hss
          clear hp hp2
          go_wp2_with fail
          go_quiet (fail)
          go_wp2
          go_roundw
          case rel => exact ⟨k + 1, by omega, by go_num, take_eq_succ HT.out HS.out HS2.out, (by exact Base.bel)⟩
          case measure => simp [intOf]; omega
        · have hne : (s.toList == s2.toList) = false := beq_eq_false_iff_ne.2 fun e => hss (ba_eq e)
          go_wp2_with fail
          go_quiet (fail)
          clear lt1 lt2 lt3 lt4 i1 i3 hk' x2 y2 b3 b4 hsz hlt k1 k2 HT
          go_wp2
          go_ret
          refine told_no (fun h => hss ?_) (by have := bchain hbW hbel1; exact Base.bel)
          have h := (HP.out.1 h).1
          exact Option.some.inj (HS.out.symm.trans ((congrArg (·[k]?) h).trans HS2.out))
      · obtain rfl : k = hd.terms.length := by omega
        have HT1 := Lib.hid (show hd.terms = ts2 by rw [List.take_length] at ht1; rw [← M1.out, List.take_length] at ht1; exact ht1)
        clear ht1 hge hk'
        have f1 : wr.cell? ⟨w.heap.size, 4, none⟩ = some (.slice A2 hd.offs.length c2) := (k1.below hbel1 (by omega)).cell 4
        go_wp2_with fail
        go_loopw [111] (fun i wr => ∃ k : Nat, k ≤ hd.offs.length ∧ i = .int .i64 k ∧ hd.offs.take k = os2.take k ∧ Below W2.heap.size W2 wr) (fun i _ => hd.offs.length - (intOf i).toNat)
        case atStart => exact ⟨0, Nat.zero_le _, rfl, rfl, hbel1⟩
        case round =>
          obtain ⟨k, hk', rfl, ht2, hbel2⟩ := hrel
          rcases Nat.lt_or_ge k hd.offs.length with hlt | hge
          · obtain ⟨s, hs⟩ : ∃ s, hd.offs[k]? = some s := ⟨_, List.getElem?_eq_getElem hlt⟩
            obtain ⟨s2, hs2⟩ : ∃ s, os2[k]? = some s := ⟨_, List.getElem?_eq_getElem (by have := M2.out; omega)⟩
            obtain ⟨p, o, rfl, hp, x1⟩ := slc_at (h2.below (bchain hbW hbel2) hB) (k := k) (by simpa [ints] using hlt)
            obtain ⟨p2, o2, rfl, hp2, y1⟩ := slc_at (g2.below (bchain hbW hbel2) hB) (k := k) (by simpa [ints, M2.out] using hlt)
            have x2 : wr.cell? ⟨p, o + k, none⟩ = some (.int .i64 s) := by rw [x1]; simp [ints, hs]
            have y2 : wr.cell? ⟨p2, o2 + k, none⟩ = some (.int .i64 s2) := by rw [y1]; simp [ints, hs2]
            have b3 : wr.cell? ⟨w.heap.size, 4, none⟩ = some (.slice (some ⟨p, o, none⟩) hd.offs.length c2) := (k1.below hbel2 (by omega)).cell 4
            have b4 : wr.cell? ⟨w.heap.size + 1, 4, none⟩ = some (.slice (some ⟨p2, o2, none⟩) hd.offs.length d2) := (k2.below hbel2 (by omega)).cell 4
            have i1 : (k : Int) < (hd.offs.length : Int) := by omega
            have i3 : (k : Int) < 9223372036854775807 := by omega
            have HT := Lib.hid ht2
            have HS := Lib.hid hs
            have HS2 := Lib.hid hs2
            clear x1 y1 hs hs2 ht2 h1 h2 h3 h4 h5 g1 g2 g3 g4 g5 ih
            by_cases hss : s = s2
            · subst hss
              clear hp hp2
              go_wp2_with fail
              go_quiet (fail)
              go_wp2
              go_roundw
              case rel => exact ⟨k + 1, by omega, by go_num, take_eq_succ HT.out HS.out HS2.out, (by exact Base.bel)⟩
              case measure => simp [intOf]; omega
            · have hne : (s == s2) = false := beq_eq_false_iff_ne.2 hss
              go_wp2_with fail
              go_quiet (fail)
              clear lt1 lt2 lt3 lt4 i1 i3 hk' x2 y2 b3 b4 hsz hlt k1 k2 HT
              go_wp2
              go_ret
              refine told_no (fun h => hss ?_) (by have := bchain hbW hbel2; exact Base.bel)
              have h := (HP.out.1 h).2.1
              exact Option.some.inj (HS.out.symm.trans ((congrArg (·[k]?) h).trans HS2.out))
          · obtain rfl : k = hd.offs.length := by omega
            have HT2 := Lib.hid (show hd.offs = os2 by rw [List.take_length] at ht2; rw [← M2.out, List.take_length] at ht2; exact ht2)
            clear ht2 hge hk'
            have f1 : wr.cell? ⟨w.heap.size, 13, none⟩ = some (.slice A3 hd.occur.length c3) := (k1.below hbel2 (by omega)).cell 13
            go_wp2_with fail
            go_loopw [129] (fun i wr => ∃ k : Nat, k ≤ hd.occur.length ∧ i = .int .i64 k ∧ hd.occur.take k = oc2.take k ∧ Below W2.heap.size W2 wr) (fun i _ => hd.occur.length - (intOf i).toNat)
            case atStart => exact ⟨0, Nat.zero_le _, rfl, rfl, hbel2⟩
            case round =>
              obtain ⟨k, hk', rfl, ht3, hbel3⟩ := hrel
              rcases Nat.lt_or_ge k hd.occur.length with hlt | hge
              · obtain ⟨s, hs⟩ : ∃ s, hd.occur[k]? = some s := ⟨_, List.getElem?_eq_getElem hlt⟩
                obtain ⟨s2, hs2⟩ : ∃ s, oc2[k]? = some s := ⟨_, List.getElem?_eq_getElem (by have := M3.out; omega)⟩
                obtain ⟨p, o, rfl, hp, x1⟩ := slc_at (h3.below (bchain hbW hbel3) hB) (k := k) (by simpa [ints] using hlt)
                obtain ⟨p2, o2, rfl, hp2, y1⟩ := slc_at (g3.below (bchain hbW hbel3) hB) (k := k) (by simpa [ints, M3.out] using hlt)
                have x2 : wr.cell? ⟨p, o + k, none⟩ = some (.int .i64 s) := by rw [x1]; simp [ints, hs]
                have y2 : wr.cell? ⟨p2, o2 + k, none⟩ = some (.int .i64 s2) := by rw [y1]; simp [ints, hs2]
                have b3 : wr.cell? ⟨w.heap.size, 13, none⟩ = some (.slice (some ⟨p, o, none⟩) hd.occur.length c3) := (k1.below hbel3 (by omega)).cell 13
                have b4 : wr.cell? ⟨w.heap.size + 1, 13, none⟩ = some (.slice (some ⟨p2, o2, none⟩) hd.occur.length d3) := (k2.below hbel3 (by omega)).cell 13
                have i1 : (k : Int) < (hd.occur.length : Int) := by omega
                have i3 : (k : Int) < 9223372036854775807 := by omega
                have HT := Lib.hid ht3
                have HS := Lib.hid hs
                have HS2 := Lib.hid hs2
                clear x1 y1 hs hs2 ht3 h1 h2 h3 h4 h5 g1 g2 g3 g4 g5 ih
                by_cases hss : s = s2
                · subst hss
                  clear hp hp2
                  go_wp2_with fail
                  go_quiet (fail)
                  go_wp2
                  go_roundw
                  case rel => exact ⟨k + 1, by omega, by go_num, take_eq_succ HT.out HS.out HS2.out, (by exact Base.bel)⟩
                  case measure => simp [intOf]; omega
                · have hne : (s == s2) = false := beq_eq_false_iff_ne.2 hss
                  go_wp2_with fail
                  go_quiet (fail)
                  clear lt1 lt2 lt3 lt4 i1 i3 hk' x2 y2 b3 b4 hsz hlt k1 k2 HT
                  go_wp2
                  go_ret
                  refine told_no (fun h => hss ?_) (by have := bchain hbW hbel3; exact Base.bel)
                  have h := (HP.out.1 h).2.2.1
                  exact Option.some.inj (HS.out.symm.trans ((congrArg (·[k]?) h).trans HS2.out))
              · obtain rfl : k = hd.occur.length := by omega
                have HT3 := Lib.hid (show hd.occur = oc2 by rw [List.take_length] at ht3; rw [← M3.out, List.take_length] at ht3; exact ht3)
                clear ht3 hge hk'
                have f1 : wr.cell? ⟨w.heap.size, 14, none⟩ = some (.slice A4 ks.length c4) := (k1.below hbel3 (by omega)).cell 14
                go_wp2_with fail
                go_loopw [147] (fun i wr => ∃ k : Nat, k ≤ ks.length ∧ i = .int .i64 k ∧ ks.take k = ks2.take k ∧ Below W2.heap.size W2 wr) (fun i _ => ks.length - (intOf i).toNat)
                case atStart => exact ⟨0, Nat.zero_le _, rfl, rfl, hbel3⟩
                case round =>
                  obtain ⟨k, hk', rfl, ht4, hbel4⟩ := hrel
                  have hbB : Below w.heap.size w wr := bchain hbW hbel4
                  rcases Nat.lt_or_ge k ks.length with hlt | hge
                  · obtain ⟨x, hx⟩ : ∃ s, ks[k]? = some s := ⟨_, List.getElem?_eq_getElem hlt⟩
                    obtain ⟨x2, hx2⟩ : ∃ s, ks2[k]? = some s := ⟨_, List.getElem?_eq_getElem (by have := M4.out; omega)⟩
                    obtain ⟨p, o, rfl, hp, hc⟩ := h4 (by intro h; subst h; simp at hlt)
                    obtain ⟨p2, o2, rfl, hp2, hc2⟩ := g4 (by intro h; have := M4.out; subst h; simp at this; omega)
                    have hq := (h5 k x hx).kept hbB hB
                    have hq2 := (g5 k x2 hx2).kept hbB hB
                    have hp : p < w.heap.size := Nat.lt_of_lt_of_le hp hB
                    have hp2 : p2 < w.heap.size := Nat.lt_of_lt_of_le hp2 hB
                    obtain ⟨X1, X2, X3, X4, t1, t2, t3, t4, e1, qa⟩ := kid_cells hq (fun j u hu => (hbB.cell (p := ⟨p, o + k * 15 + j, none⟩) hp).trans (hc k hlt j u hu))
                    obtain ⟨Y1, Y2, Y3, Y4, u1, u2, u3, u4, e2, qa2⟩ := kid_cells hq2 (fun j u hu => (hbB.cell (p := ⟨p2, o2 + k * 15 + j, none⟩) hp2).trans (hc2 k (by have := M4.out; omega) j u hu))
                    have b3 := fun b : Bw wr.heap.size wr => (b.below.cell (p := ⟨w.heap.size, 14, none⟩) (Nat.lt_of_lt_of_le (by show w.heap.size < W2.heap.size; omega) hbel4.size)).trans (show wr.cell? ⟨w.heap.size, 14, none⟩ = some (.slice (some ⟨p, o, none⟩) ks.length c4) from (k1.below hbel4 (by omega)).cell 14)
                    have b4 := fun b : Bw wr.heap.size wr => (b.below.cell (p := ⟨w.heap.size + 1, 14, none⟩) (Nat.lt_of_lt_of_le (by show w.heap.size + 1 < W2.heap.size; omega) hbel4.size)).trans (show wr.cell? ⟨w.heap.size + 1, 14, none⟩ = some (.slice (some ⟨p2, o2, none⟩) ks.length d4) from (k2.below hbel4 (by omega)).cell 14)
                    have i1 : (k : Int) < (ks.length : Int) := by omega
                    have i3 : (k : Int) < 9223372036854775807 := by omega
                    have HT := Lib.hid ht4
                    have HX := Lib.hid hx
                    have HX2 := Lib.hid hx2
                    clear ht4
                    by_cases hss : x = x2
                    · have i4 := i1
                      have z0 := fun b : Bw wr.heap.size wr => (qat_bw qa (Nat.lt_of_lt_of_le hp hbB.size) b).y0
                      have v0 := fun b : Bw wr.heap.size wr => (qat_bw qa2 (Nat.lt_of_lt_of_le hp2 hbB.size) b).y0
                      have z1 := fun b : Bw wr.heap.size wr => (qat_bw qa (Nat.lt_of_lt_of_le hp hbB.size) b).y1
                      have v1 := fun b : Bw wr.heap.size wr => (qat_bw qa2 (Nat.lt_of_lt_of_le hp2 hbB.size) b).y1
                      have z2 := fun b : Bw wr.heap.size wr => (qat_bw qa (Nat.lt_of_lt_of_le hp hbB.size) b).y2
                      have v2 := fun b : Bw wr.heap.size wr => (qat_bw qa2 (Nat.lt_of_lt_of_le hp2 hbB.size) b).y2
                      have z3 := fun b : Bw wr.heap.size wr => (qat_bw qa (Nat.lt_of_lt_of_le hp hbB.size) b).y3
                      have v3 := fun b : Bw wr.heap.size wr => (qat_bw qa2 (Nat.lt_of_lt_of_le hp2 hbB.size) b).y3
                      have z4 := fun b : Bw wr.heap.size wr => (qat_bw qa (Nat.lt_of_lt_of_le hp hbB.size) b).y4
                      have v4 := fun b : Bw wr.heap.size wr => (qat_bw qa2 (Nat.lt_of_lt_of_le hp2 hbB.size) b).y4
                      have z5 := fun b : Bw wr.heap.size wr => (qat_bw qa (Nat.lt_of_lt_of_le hp hbB.size) b).y5
                      have v5 := fun b : Bw wr.heap.size wr => (qat_bw qa2 (Nat.lt_of_lt_of_le hp2 hbB.size) b).y5
                      have z6 := fun b : Bw wr.heap.size wr => (qat_bw qa (Nat.lt_of_lt_of_le hp hbB.size) b).y6
                      have v6 := fun b : Bw wr.heap.size wr => (qat_bw qa2 (Nat.lt_of_lt_of_le hp2 hbB.size) b).y6
                      have z7 := fun b : Bw wr.heap.size wr => (qat_bw qa (Nat.lt_of_lt_of_le hp hbB.size) b).y7
                      have v7 := fun b : Bw wr.heap.size wr => (qat_bw qa2 (Nat.lt_of_lt_of_le hp2 hbB.size) b).y7
                      have z8 := fun b : Bw wr.heap.size wr => (qat_bw qa (Nat.lt_of_lt_of_le hp hbB.size) b).y8
                      have v8 := fun b : Bw wr.heap.size wr => (qat_bw qa2 (Nat.lt_of_lt_of_le hp2 hbB.size) b).y8
                      have z9 := fun b : Bw wr.heap.size wr => (qat_bw qa (Nat.lt_of_lt_of_le hp hbB.size) b).y9
                      have v9 := fun b : Bw wr.heap.size wr => (qat_bw qa2 (Nat.lt_of_lt_of_le hp2 hbB.size) b).y9
                      have z10 := fun b : Bw wr.heap.size wr => (qat_bw qa (Nat.lt_of_lt_of_le hp hbB.size) b).y10
                      have v10 := fun b : Bw wr.heap.size wr => (qat_bw qa2 (Nat.lt_of_lt_of_le hp2 hbB.size) b).y10
                      have z11 := fun b : Bw wr.heap.size wr => (qat_bw qa (Nat.lt_of_lt_of_le hp hbB.size) b).y11
                      have v11 := fun b : Bw wr.heap.size wr => (qat_bw qa2 (Nat.lt_of_lt_of_le hp2 hbB.size) b).y11
                      have z12 := fun b : Bw wr.heap.size wr => (qat_bw qa (Nat.lt_of_lt_of_le hp hbB.size) b).y12
                      have v12 := fun b : Bw wr.heap.size wr => (qat_bw qa2 (Nat.lt_of_lt_of_le hp2 hbB.size) b).y12
                      have z13 := fun b : Bw wr.heap.size wr => (qat_bw qa (Nat.lt_of_lt_of_le hp hbB.size) b).y13
                      have v13 := fun b : Bw wr.heap.size wr => (qat_bw qa2 (Nat.lt_of_lt_of_le hp2 hbB.size) b).y13
                      have z14 := fun b : Bw wr.heap.size wr => (qat_bw qa (Nat.lt_of_lt_of_le hp hbB.size) b).y14
                      have v14 := fun b : Bw wr.heap.size wr => (qat_bw qa2 (Nat.lt_of_lt_of_le hp2 hbB.size) b).y14
                      have C : ∀ b : Bw wr.heap.size wr, Calls Tryz.prog 33 #[.agg (qcells x.h x.kids.length X1 X2 X3 X4 t1 t2 t3 t4), .agg (qcells x2.h x2.kids.length Y1 Y2 Y3 Y4 u1 u2 u3 u4)] b.at_ fun e w' => e = .returned (.bool true) ∧ ∃ b' : Bw wr.heap.size wr, w' = b'.at_ := fun b =>
                        e1 ▸ e2 ▸ calls_bw (v := .bool true) (Nat.le_refl _) ((ih x (List.mem_of_getElem? hx) x2 _ _ B b.at_ ((h5 k x hx).kept (bchain hbB b.below) hB) ((g5 k x2 hx2).kept (bchain hbB b.below) hB) (Nat.le_trans hB (bchain hbB b.below).size)).mono (fun e w' he => ⟨by obtain ⟨⟨r, he, hr⟩, _⟩ := he; rw [he, hr.2 hss], he.2⟩))
                      unfold qcells at C
                      have HSS := Lib.hid hss
                      clear hss h1 h2 h3 h4 h5 g1 g2 g3 g4 g5 ih hx hx2 hc hc2 e1 e2 qa qa2 hq hq2
                      go_upto_region 26 with fail
                      refine wp_region_bw wr.heap.size (by kernel_rfl) (by kernel_rfl) ?_
                      repeat (go_big_quiet_step ((go_at_call 33; with_reducible exact C _)))
                      refine wpQuiet_nil ?_
                      intro _ hw'
                      obtain ⟨⟨wq, hbq⟩, hw''⟩ := hw'
                      subst hw''
                      go_wp2_with fail
                      go_roundw
                      case rel => exact ⟨k + 1, by omega, by go_num, take_eq_succ HT.out HX.out (by rw [HSS.out]; exact HX2.out), (by have := Below.trans hbel4 (hbq.mono hbel4.size); exact Base.bel)⟩
                      case measure => simp [intOf]; omega
                    · have i4 := i1
                      have z0 := fun b : Bw wr.heap.size wr => (qat_bw qa (Nat.lt_of_lt_of_le hp hbB.size) b).y0
                      have v0 := fun b : Bw wr.heap.size wr => (qat_bw qa2 (Nat.lt_of_lt_of_le hp2 hbB.size) b).y0
                      have z1 := fun b : Bw wr.heap.size wr => (qat_bw qa (Nat.lt_of_lt_of_le hp hbB.size) b).y1
                      have v1 := fun b : Bw wr.heap.size wr => (qat_bw qa2 (Nat.lt_of_lt_of_le hp2 hbB.size) b).y1
                      have z2 := fun b : Bw wr.heap.size wr => (qat_bw qa (Nat.lt_of_lt_of_le hp hbB.size) b).y2
                      have v2 := fun b : Bw wr.heap.size wr => (qat_bw qa2 (Nat.lt_of_lt_of_le hp2 hbB.size) b).y2
                      have z3 := fun b : Bw wr.heap.size wr => (qat_bw qa (Nat.lt_of_lt_of_le hp hbB.size) b).y3
                      have v3 := fun b : Bw wr.heap.size wr => (qat_bw qa2 (Nat.lt_of_lt_of_le hp2 hbB.size) b).y3
                      have z4 := fun b : Bw wr.heap.size wr => (qat_bw qa (Nat.lt_of_lt_of_le hp hbB.size) b).y4
                      have v4 := fun b : Bw wr.heap.size wr => (qat_bw qa2 (Nat.lt_of_lt_of_le hp2 hbB.size) b).y4
                      have z5 := fun b : Bw wr.heap.size wr => (qat_bw qa (Nat.lt_of_lt_of_le hp hbB.size) b).y5
                      have v5 := fun b : Bw wr.heap.size wr => (qat_bw qa2 (Nat.lt_of_lt_of_le hp2 hbB.size) b).y5
                      have z6 := fun b : Bw wr.heap.size wr => (qat_bw qa (Nat.lt_of_lt_of_le hp hbB.size) b).y6
                      have v6 := fun b : Bw wr.heap.size wr => (qat_bw qa2 (Nat.lt_of_lt_of_le hp2 hbB.size) b).y6
                      have z7 := fun b : Bw wr.heap.size wr => (qat_bw qa (Nat.lt_of_lt_of_le hp hbB.size) b).y7
                      have v7 := fun b : Bw wr.heap.size wr => (qat_bw qa2 (Nat.lt_of_lt_of_le hp2 hbB.size) b).y7
                      have z8 := fun b : Bw wr.heap.size wr => (qat_bw qa (Nat.lt_of_lt_of_le hp hbB.size) b).y8
                      have v8 := fun b : Bw wr.heap.size wr => (qat_bw qa2 (Nat.lt_of_lt_of_le hp2 hbB.size) b).y8
                      have z9 := fun b : Bw wr.heap.size wr => (qat_bw qa (Nat.lt_of_lt_of_le hp hbB.size) b).y9
                      have v9 := fun b : Bw wr.heap.size wr => (qat_bw qa2 (Nat.lt_of_lt_of_le hp2 hbB.size) b).y9
                      have z10 := fun b : Bw wr.heap.size wr => (qat_bw qa (Nat.lt_of_lt_of_le hp hbB.size) b).y10
                      have v10 := fun b : Bw wr.heap.size wr => (qat_bw qa2 (Nat.lt_of_lt_of_le hp2 hbB.size) b).y10
                      have z11 := fun b : Bw wr.heap.size wr => (qat_bw qa (Nat.lt_of_lt_of_le hp hbB.size) b).y11
                      have v11 := fun b : Bw wr.heap.size wr => (qat_bw qa2 (Nat.lt_of_lt_of_le hp2 hbB.size) b).y11
                      have z12 := fun b : Bw wr.heap.size wr => (qat_bw qa (Nat.lt_of_lt_of_le hp hbB.size) b).y12
                      have v12 := fun b : Bw wr.heap.size wr => (qat_bw qa2 (Nat.lt_of_lt_of_le hp2 hbB.size) b).y12
                      have z13 := fun b : Bw wr.heap.size wr => (qat_bw qa (Nat.lt_of_lt_of_le hp hbB.size) b).y13
                      have v13 := fun b : Bw wr.heap.size wr => (qat_bw qa2 (Nat.lt_of_lt_of_le hp2 hbB.size) b).y13
                      have z14 := fun b : Bw wr.heap.size wr => (qat_bw qa (Nat.lt_of_lt_of_le hp hbB.size) b).y14
                      have v14 := fun b : Bw wr.heap.size wr => (qat_bw qa2 (Nat.lt_of_lt_of_le hp2 hbB.size) b).y14
                      have C : ∀ b : Bw wr.heap.size wr, Calls Tryz.prog 33 #[.agg (qcells x.h x.kids.length X1 X2 X3 X4 t1 t2 t3 t4), .agg (qcells x2.h x2.kids.length Y1 Y2 Y3 Y4 u1 u2 u3 u4)] b.at_ fun e w' => e = .returned (.bool false) ∧ ∃ b' : Bw wr.heap.size wr, w' = b'.at_ := fun b =>
                        e1 ▸ e2 ▸ calls_bw (v := .bool false) (Nat.le_refl _) ((ih x (List.mem_of_getElem? hx) x2 _ _ B b.at_ ((h5 k x hx).kept (bchain hbB b.below) hB) ((g5 k x2 hx2).kept (bchain hbB b.below) hB) (Nat.le_trans hB (bchain hbB b.below).size)).mono (fun e w' he => ⟨by obtain ⟨⟨r, he, hr⟩, _⟩ := he; cases r; exact he; exact absurd (hr.1 rfl) hss, he.2⟩))
                      unfold qcells at C
                      have HSS := Lib.hid hss
                      clear hss h1 h2 h3 h4 h5 g1 g2 g3 g4 g5 ih hx hx2 hc hc2 e1 e2 qa qa2 hq hq2
                      go_upto_region 26 with fail
                      refine wp_region_bw wr.heap.size (by kernel_rfl) (by kernel_rfl) ?_
                      repeat (go_big_quiet_step ((go_at_call 33; with_reducible exact C _)))
                      refine wpQuiet_nil ?_
                      intro _ hw'
                      obtain ⟨⟨wq, hbq⟩, hw''⟩ := hw'
                      subst hw''
                      clear C z0 z1 z2 z3 z4 z5 z6 z7 z8 z9 z10 z11 z12 z13 z14 v0 v1 v2 v3 v4 v5 v6 v7 v8 v9 v10 v11 v12 v13 v14 b3 b4 i1 i3 i4 hsz lt1 lt2 lt3 lt4 hk' hlt HW k1 k2
                      go_wp2_with fail
                      go_ret
                      refine told_no (fun h => HSS.out ?_) (by have := hbB.trans (hbq.mono hbB.size); exact Base.bel)
                      have h := (HP.out.1 h).2.2.2
                      exact Option.some.inj (HX.out.symm.trans ((congrArg (·[k]?) h).trans HX2.out))
                  · obtain rfl : k = ks.length := by omega
                    have HK := Lib.hid (show ks = ks2 by rw [List.take_length] at ht4; rw [← M4.out, List.take_length] at ht4; exact ht4)
                    clear ht4 hge hk'
                    go_wp2_with fail
                    go_ret
                    exact told_yes (HP.out.2 ⟨HT1.out, HT2.out, HT3.out, HK.out⟩) hbB
end Go.Proofs.YtkcfgcdlnojaeaaGreatDoor.QrySame
