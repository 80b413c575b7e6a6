/-
  The walk of bind's good over whatever query, plain kinds alone.
  A load of a whole struct, met in a quiet region: one value in every world of the class.
  The walk of bind.Check over whatever query, plain kinds alone.
  The walk of compile's good.
-/
import Derived.Test.YtfpikilhbkeajaaGreatDoorCText
import Derived.Test.YtfpikilhbkeajaaGreatDoorBase
import Derived.Test.YtfpikilhbkeajaaGreatDoorCLeaves
import Derived.Test.YtfpikilhbkeajaaGreatDoorCEmitC
set_option linter.unusedVariables false
set_option linter.unusedSimpArgs false
namespace Go.Proofs.YtfpikilhbkeajaaGreatDoor.GoodPlain
set_option maxRecDepth 100000
open Go.RowKit Go.PlainAid Base Query QrySize BindBase TextPlain Numbers Lists LineBase

theorem k_cases {k : Nat} (h1 : 1 ≤ k) (h2 : k ≤ 14) {P : Nat → Prop} (a1 : P 1) (a2 : P 2) (a3 : P 3) (a4 : P 4) (a5 : P 5) (a6 : P 6) (a7 : P 7) (a8 : P 8) (a9 : P 9) (a10 : P 10) (a11 : P 11) (a12 : P 12) (a13 : P 13) (a14 : P 14) : P k := by
  rcases (by omega : k = 1 ∨ k = 2 ∨ k = 3 ∨ k = 4 ∨ k = 5 ∨ k = 6 ∨ k = 7 ∨ k = 8 ∨ k = 9 ∨ k = 10 ∨ k = 11 ∨ k = 12 ∨ k = 13 ∨ k = 14) with rfl | rfl | rfl | rfl | rfl | rfl | rfl | rfl | rfl | rfl | rfl | rfl | rfl | rfl <;> assumption
theorem row0 {k : Nat} (h1 : 1 ≤ k) (h2 : k ≤ 14) : kindsA[k * 10]? = some (.bool (hasOf k).a) := k_cases (P := fun k => kindsA[k * 10]? = some (.bool (hasOf k).a)) h1 h2 (by kernel_rfl) (by kernel_rfl) (by kernel_rfl) (by kernel_rfl) (by kernel_rfl) (by kernel_rfl) (by kernel_rfl) (by kernel_rfl) (by kernel_rfl) (by kernel_rfl) (by kernel_rfl) (by kernel_rfl) (by kernel_rfl) (by kernel_rfl)
theorem row1 {k : Nat} (h1 : 1 ≤ k) (h2 : k ≤ 14) : kindsA[k * 10 + 1]? = some (.bool (hasOf k).b) := k_cases (P := fun k => kindsA[k * 10 + 1]? = some (.bool (hasOf k).b)) h1 h2 (by kernel_rfl) (by kernel_rfl) (by kernel_rfl) (by kernel_rfl) (by kernel_rfl) (by kernel_rfl) (by kernel_rfl) (by kernel_rfl) (by kernel_rfl) (by kernel_rfl) (by kernel_rfl) (by kernel_rfl) (by kernel_rfl) (by kernel_rfl)
theorem row2 {k : Nat} (h1 : 1 ≤ k) (h2 : k ≤ 14) : kindsA[k * 10 + 2]? = some (.bool (hasOf k).c) := k_cases (P := fun k => kindsA[k * 10 + 2]? = some (.bool (hasOf k).c)) h1 h2 (by kernel_rfl) (by kernel_rfl) (by kernel_rfl) (by kernel_rfl) (by kernel_rfl) (by kernel_rfl) (by kernel_rfl) (by kernel_rfl) (by kernel_rfl) (by kernel_rfl) (by kernel_rfl) (by kernel_rfl) (by kernel_rfl) (by kernel_rfl)
theorem row3 {k : Nat} (h1 : 1 ≤ k) (h2 : k ≤ 14) : kindsA[k * 10 + 3]? = some (.int .i64 (hasOf k).m) := k_cases (P := fun k => kindsA[k * 10 + 3]? = some (.int .i64 (hasOf k).m)) h1 h2 (by kernel_rfl) (by kernel_rfl) (by kernel_rfl) (by kernel_rfl) (by kernel_rfl) (by kernel_rfl) (by kernel_rfl) (by kernel_rfl) (by kernel_rfl) (by kernel_rfl) (by kernel_rfl) (by kernel_rfl) (by kernel_rfl) (by kernel_rfl)
theorem row4 {k : Nat} (h1 : 1 ≤ k) (h2 : k ≤ 14) : kindsA[k * 10 + 4]? = some (.bool (hasOf k).d) := k_cases (P := fun k => kindsA[k * 10 + 4]? = some (.bool (hasOf k).d)) h1 h2 (by kernel_rfl) (by kernel_rfl) (by kernel_rfl) (by kernel_rfl) (by kernel_rfl) (by kernel_rfl) (by kernel_rfl) (by kernel_rfl) (by kernel_rfl) (by kernel_rfl) (by kernel_rfl) (by kernel_rfl) (by kernel_rfl) (by kernel_rfl)
theorem row5 {k : Nat} (h1 : 1 ≤ k) (h2 : k ≤ 14) : kindsA[k * 10 + 5]? = some (.bool (hasOf k).e) := k_cases (P := fun k => kindsA[k * 10 + 5]? = some (.bool (hasOf k).e)) h1 h2 (by kernel_rfl) (by kernel_rfl) (by kernel_rfl) (by kernel_rfl) (by kernel_rfl) (by kernel_rfl) (by kernel_rfl) (by kernel_rfl) (by kernel_rfl) (by kernel_rfl) (by kernel_rfl) (by kernel_rfl) (by kernel_rfl) (by kernel_rfl)
theorem row6 {k : Nat} (h1 : 1 ≤ k) (h2 : k ≤ 14) : kindsA[k * 10 + 6]? = some (.bool (hasOf k).f) := k_cases (P := fun k => kindsA[k * 10 + 6]? = some (.bool (hasOf k).f)) h1 h2 (by kernel_rfl) (by kernel_rfl) (by kernel_rfl) (by kernel_rfl) (by kernel_rfl) (by kernel_rfl) (by kernel_rfl) (by kernel_rfl) (by kernel_rfl) (by kernel_rfl) (by kernel_rfl) (by kernel_rfl) (by kernel_rfl) (by kernel_rfl)
theorem row7 {k : Nat} (h1 : 1 ≤ k) (h2 : k ≤ 14) : kindsA[k * 10 + 7]? = some (.int .i64 (hasOf k).k) := k_cases (P := fun k => kindsA[k * 10 + 7]? = some (.int .i64 (hasOf k).k)) h1 h2 (by kernel_rfl) (by kernel_rfl) (by kernel_rfl) (by kernel_rfl) (by kernel_rfl) (by kernel_rfl) (by kernel_rfl) (by kernel_rfl) (by kernel_rfl) (by kernel_rfl) (by kernel_rfl) (by kernel_rfl) (by kernel_rfl) (by kernel_rfl)
theorem row8 {k : Nat} (h1 : 1 ≤ k) (h2 : k ≤ 14) : kindsA[k * 10 + 8]? = some (.bool (hasOf k).p) := k_cases (P := fun k => kindsA[k * 10 + 8]? = some (.bool (hasOf k).p)) h1 h2 (by kernel_rfl) (by kernel_rfl) (by kernel_rfl) (by kernel_rfl) (by kernel_rfl) (by kernel_rfl) (by kernel_rfl) (by kernel_rfl) (by kernel_rfl) (by kernel_rfl) (by kernel_rfl) (by kernel_rfl) (by kernel_rfl) (by kernel_rfl)
theorem row9 {k : Nat} (h1 : 1 ≤ k) (h2 : k ≤ 14) : kindsA[k * 10 + 9]? = some (.string ⟨(hasOf k).n.toArray⟩) := k_cases (P := fun k => kindsA[k * 10 + 9]? = some (.string ⟨(hasOf k).n.toArray⟩)) h1 h2 (by kernel_rfl) (by kernel_rfl) (by kernel_rfl) (by kernel_rfl) (by kernel_rfl) (by kernel_rfl) (by kernel_rfl) (by kernel_rfl) (by kernel_rfl) (by kernel_rfl) (by kernel_rfl) (by kernel_rfl) (by kernel_rfl) (by kernel_rfl)
theorem numbers_k {k : Nat} (h1 : 1 ≤ k) (h2 : k ≤ 14) (n : Int) (hd : Head) (nk : Nat) (A1 A2 A3 A4 : Option Addr) (c1 c2 c3 c4 : Nat) (w : World) :
    Calls Tryz.prog 89 #[.agg (rowV (hasOf k)), .agg (qcells hd nk A1 A2 A3 A4 c1 c2 c3 c4), .int .i64 n] w fun e w' => e = .returned (.bool (numB (hasOf k) n hd)) ∧ Below w.heap.size w w' := by
  by_cases h : k = 9
  · subst h; exact numbers_span n hd nk A1 A2 A3 A4 c1 c2 c3 c4 w
  · refine numbers_no _ ?_ n hd nk A1 A2 A3 A4 c1 c2 c3 c4 w
    exact k_cases (P := fun k => k ≠ 9 → (hasOf k).d = false) h1 h2 (fun _ => rfl) (fun _ => rfl) (fun _ => rfl) (fun _ => rfl) (fun _ => rfl) (fun _ => rfl) (fun _ => rfl) (fun _ => rfl) (fun h => absurd rfl h) (fun _ => rfl) (fun _ => rfl) (fun _ => rfl) (fun _ => rfl) (fun _ => rfl) h
theorem lists_row {k : Nat} (h1 : 1 ≤ k) (h2 : k ≤ 14) : ((hasOf k).e = false ∧ (hasOf k).f = false ∧ (hasOf k).k = 0) ∨ ((hasOf k).e = true ∧ (hasOf k).f = false ∧ (hasOf k).k = 0) ∨ ((hasOf k).e = false ∧ (hasOf k).f = true ∧ (hasOf k).k = -1) ∨ ((hasOf k).e = false ∧ (hasOf k).f = false ∧ (hasOf k).k = -1) ∨ ((hasOf k).e = false ∧ (hasOf k).f = false ∧ (hasOf k).k = 1) := by
  rcases (by omega : k = 1 ∨ k = 2 ∨ k = 3 ∨ k = 4 ∨ k = 5 ∨ k = 6 ∨ k = 7 ∨ k = 8 ∨ k = 9 ∨ k = 10 ∨ k = 11 ∨ k = 12 ∨ k = 13 ∨ k = 14) with rfl | rfl | rfl | rfl | rfl | rfl | rfl | rfl | rfl | rfl | rfl | rfl | rfl | rfl <;> simp [hasOf]
theorem goods_take {P : Head → Nat → Bool} {ks : List Qry} {i : Nat} {k : Qry} (h : ks[i]? = some k) (ha : goodsBy P (ks.take i) = true) : goodsBy P (ks.take (i + 1)) = goodBy P k := by
  rw [goodsBy_all] at ha ⊢
  rw [List.take_add_one, h, List.all_append, ha]
  simp
theorem goods_bad {P : Head → Nat → Bool} {ks : List Qry} {i : Nat} {k : Qry} (h : ks[i]? = some k) (hb : goodBy P k = false) : goodsBy P ks = false := by
  rw [goodsBy_all, List.all_eq_false]
  exact ⟨k, List.mem_of_getElem? h, by simp [hb]⟩

set_option maxHeartbeats 8000000 in
theorem good_plain (q : Qry) : ∀ (cs : List Value) (B : Nat) (n : Int) (w : World), QVal w B cs q → B ≤ w.heap.size →
    Calls Tryz.prog 67 #[.agg kindsA, .agg cs.toArray, .int .i64 n, .bool true] w fun e w' => e = .returned (.bool (good n true q)) ∧ Below w.heap.size w w' := by
  induction q using Qry.ind with
  | h q ih =>
    intro cs B n w hq hB
    obtain ⟨hd, ks, A1, A2, A3, A4, c1, c2, c3, c4, kc, hw, hkl, h1, h2, h3, h4, h5⟩ := hq
    simp only [Qry.kids] at ih
    have hkl' : ks.length ≤ 9223372036854775807 := hkl
    unfold good
    simp only [goodBy]
    by_cases hk : 1 ≤ hd.kind ∧ hd.kind ≤ 14
    · obtain ⟨kind, field, text, terms, offs, qn, weight, lo, hi, occur⟩ := hd
      simp only at hk h2 h3 ⊢
      obtain ⟨k, rfl⟩ : ∃ k : Nat, kind = k := ⟨kind.toNat, (Int.toNat_of_nonneg (by omega)).symm⟩
      have kk1 : 1 ≤ k := by omega
      have kk2 : k ≤ 14 := by omega
      have k0 := row0 kk1 kk2
      have k1 := row1 kk1 kk2
      have k2 := row2 kk1 kk2
      have k3 := row3 kk1 kk2
      have k4 := row4 kk1 kk2
      have k5 := row5 kk1 kk2
      have k6 := row6 kk1 kk2
      have k7 := row7 kk1 kk2
      have k8 := row8 kk1 kk2
      have k9 := row9 kk1 kk2
      have hKs : (Tryz.prog.info? 143).map (·.size) = some kindsA.size := kindsInfo
      have NK := Lib.hid (fun W => numbers_k kk1 kk2 n ⟨(k : Int), field, text, terms, offs, qn, weight, lo, hi, occur⟩ ks.length A1 A2 A3 A4 c1 c2 c3 c4 W)
      have LT := fun W (s2 : Slc W W.heap.size A2 (ints offs)) (s3 : Slc W W.heap.size A3 (ints occur)) => lists_any (hasOf k) (lists_row kk1 kk2) ⟨(k : Int), field, text, terms, offs, qn, weight, lo, hi, occur⟩ hw ks.length A1 A2 A3 A4 c1 c2 c3 c4 W s2 s3
      have IH := Lib.hid (fun W (hW : Below w.heap.size w W) (i : Nat) (x : Qry) (hx : ks[i]? = some x) => ih x (List.mem_of_getElem? hx) _ B n W ((h5 i x hx).kept hW hB) (Nat.le_trans hB hW.size))
      obtain ⟨nb, hnb⟩ : ∃ b, b = numB (hasOf k) n ⟨(k : Int), field, text, terms, offs, qn, weight, lo, hi, occur⟩ := ⟨_, rfl⟩
      obtain ⟨lb, hlb⟩ : ∃ b, b = lstB (hasOf k) ks.length ⟨(k : Int), field, text, terms, offs, qn, weight, lo, hi, occur⟩ := ⟨_, rfl⟩
      obtain ⟨pb, hpb⟩ : ∃ b, b = (hasOf k).p := ⟨_, rfl⟩
      have h7 : pb = true → k ≠ 7 := fun e1 e2 => by
        subst e2
        rw [hpb] at e1
        exact absurd e1 (by decide)
      have hloc : locB n true ⟨(k : Int), field, text, terms, offs, qn, weight, lo, hi, occur⟩ ks.length = (pb && (nb && lb)) := by
        unfold locB
        simp only [Int.toNat_natCast]
        rw [← hnb, ← hlb, ← hpb, decide_eq_true hk.1, decide_eq_true hk.2]
        cases pb
        · simp
        · have b7 : ((k : Int) != 7) = true := bne_iff_ne.2 (by have := h7 rfl; omega)
          rw [b7]
          simp
      rw [hloc]
      rw [← hpb] at k8
      simp only [← hnb] at NK
      simp only [← hlb] at LT
      have H7 := Lib.hid h7
      have HPB := Lib.hid hpb
      clear hnb hlb hpb hloc h7
      generalize kindsA = K at *
      obtain ⟨W3, hW3⟩ : ∃ W, W = ((w.alloc (.cells K 143)).alloc (.cells (qcells ⟨(k : Int), field, text, terms, offs, qn, weight, lo, hi, occur⟩ ks.length A1 A2 A3 A4 c1 c2 c3 c4) 29)).alloc (.cells (rowV (hasOf k)) 142) := ⟨_, rfl⟩
      have K0 : Blk W3 w.heap.size 143 K := by
        rw [hW3]
        exact ((Blk.new w 143 K).alloc _).alloc _
      have K1 : Blk W3 (w.heap.size + 1) 29 (qcells ⟨(k : Int), field, text, terms, offs, qn, weight, lo, hi, occur⟩ ks.length A1 A2 A3 A4 c1 c2 c3 c4) := by
        rw [hW3]
        have := (Blk.new (w.alloc (.cells K 143)) 29 (qcells ⟨(k : Int), field, text, terms, offs, qn, weight, lo, hi, occur⟩ ks.length A1 A2 A3 A4 c1 c2 c3 c4)).alloc (.cells (rowV (hasOf k)) 142)
        rwa [World.size_alloc] at this
      have K2 : Blk W3 (w.heap.size + 1 + 1) 142 (rowV (hasOf k)) := by
        rw [hW3]
        have := Blk.new ((w.alloc (.cells K 143)).alloc (.cells (qcells ⟨(k : Int), field, text, terms, offs, qn, weight, lo, hi, occur⟩ ks.length A1 A2 A3 A4 c1 c2 c3 c4) 29)) 142 (rowV (hasOf k))
        rwa [World.size_alloc, World.size_alloc] at this
      have hsz : w.heap.size + 3 = W3.heap.size := by rw [hW3]; simp
      have hbW : Below w.heap.size w W3 := by rw [hW3]; exact Base.bel
      have LK := Lib.hid (fun W (hW : Below W3.heap.size W3 W) => LT W ((h2.below (bchain hbW hW) hB).mono (Nat.le_trans hB (bchain hbW hW).size)) ((h3.below (bchain hbW hW) hB).mono (Nat.le_trans hB (bchain hbW hW).size)))
      have HW := Lib.hid hW3
      unfold qcells rowV at NK LK
      have b1 : decide ((k : Int) < 1) = false := decide_eq_false (by omega)
      have b2 : decide ((14 : Int) < (k : Int)) = false := decide_eq_false (by omega)
      have i1 : (k : Int) < 15 := by omega
      have H5 := Lib.hid h5
      have H4 := Lib.hid h4
      clear LT hW3 h1 h2 h3 h4 h5 hw ih hk
      unfold qcells at K1
      unfold rowV at K2
      unfold qcells rowV at HW
      rw [← HPB.out] at K2 HW NK LK
      cases pb
      · go_enter Tryz.func67, Tryz.ntmps67
        go_wp2_with fail
        go_ret
        exact ⟨rfl, (by exact Base.bel)⟩
      · have hk7 := H7.out rfl
        have b7 : ((k : Int) == 7) = false := beq_eq_false_iff_ne.2 (by omega)
        clear hk7
        cases nb
        · go_enter Tryz.func67, Tryz.ntmps67
          go_wp2_with (first | (go_at_call 89; refine (NK.out _).mono ?_; rintro e w2 ⟨rfl, hb2⟩; have q2 : Below W3.heap.size W3 w2 := (by rw [HW.out]; exact hb2); obtain ⟨aq0, aq1, aq2, aq3, aq4, aq5, aq6, aq7, aq8, aq9, aq10, aq11, aq12, aq13, aq14⟩ := qrow (K1.below q2 (by omega)); obtain ⟨ar0, ar1, ar2, ar3, ar4, ar5, ar6, ar7, ar8, ar9⟩ := hrow (K2.below q2 (by omega))) | (go_at_call 90; refine (LK.out w2 q2).mono ?_; rintro e w3 ⟨rfl, hb3⟩; have q3 : Below W3.heap.size W3 w3 := bchain q2 hb3; obtain ⟨bq0, bq1, bq2, bq3, bq4, bq5, bq6, bq7, bq8, bq9, bq10, bq11, bq12, bq13, bq14⟩ := qrow (K1.below q3 (by omega))))
          go_ret
          exact ⟨rfl, bchain hbW q2⟩
        · cases lb
          · go_enter Tryz.func67, Tryz.ntmps67
            go_wp2_with (first | (go_at_call 89; refine (NK.out _).mono ?_; rintro e w2 ⟨rfl, hb2⟩; have q2 : Below W3.heap.size W3 w2 := (by rw [HW.out]; exact hb2); obtain ⟨aq0, aq1, aq2, aq3, aq4, aq5, aq6, aq7, aq8, aq9, aq10, aq11, aq12, aq13, aq14⟩ := qrow (K1.below q2 (by omega)); obtain ⟨ar0, ar1, ar2, ar3, ar4, ar5, ar6, ar7, ar8, ar9⟩ := hrow (K2.below q2 (by omega))) | (go_at_call 90; refine (LK.out w2 q2).mono ?_; rintro e w3 ⟨rfl, hb3⟩; have q3 : Below W3.heap.size W3 w3 := bchain q2 hb3; obtain ⟨bq0, bq1, bq2, bq3, bq4, bq5, bq6, bq7, bq8, bq9, bq10, bq11, bq12, bq13, bq14⟩ := qrow (K1.below q3 (by omega))))
            go_ret
            exact ⟨rfl, bchain hbW q3⟩
          · go_enter Tryz.func67, Tryz.ntmps67
            go_wp2_with (first | (go_at_call 89; refine (NK.out _).mono ?_; rintro e w2 ⟨rfl, hb2⟩; have q2 : Below W3.heap.size W3 w2 := (by rw [HW.out]; exact hb2); obtain ⟨aq0, aq1, aq2, aq3, aq4, aq5, aq6, aq7, aq8, aq9, aq10, aq11, aq12, aq13, aq14⟩ := qrow (K1.below q2 (by omega)); obtain ⟨ar0, ar1, ar2, ar3, ar4, ar5, ar6, ar7, ar8, ar9⟩ := hrow (K2.below q2 (by omega))) | (go_at_call 90; refine (LK.out w2 q2).mono ?_; rintro e w3 ⟨rfl, hb3⟩; have q3 : Below W3.heap.size W3 w3 := bchain q2 hb3; obtain ⟨bq0, bq1, bq2, bq3, bq4, bq5, bq6, bq7, bq8, bq9, bq10, bq11, bq12, bq13, bq14⟩ := qrow (K1.below q3 (by omega))))
            go_loopw [55] (fun i wr => ∃ j : Nat, j ≤ ks.length ∧ i = .int .i64 j ∧ Below W3.heap.size W3 wr ∧ goodsBy (locB n true) (ks.take j) = true) (fun i _ => ks.length - (intOf i).toNat)
            case atStart => exact ⟨0, Nat.zero_le _, rfl, q3, rfl⟩
            case round =>
              obtain ⟨j, hj, rfl, hbel, hall⟩ := hrel
              have HA := Lib.hid hall
              clear hall
              rcases Nat.lt_or_ge j ks.length with hlt | hge
              · obtain ⟨g, o, rfl, hg, hc⟩ := H4.out (by intro h; subst h; simp at hlt)
                obtain ⟨x, hx1⟩ : ∃ x, ks[j]? = some x := ⟨_, List.getElem?_eq_getElem hlt⟩
                have hbw := bchain hbW hbel
                have hq := (H5.out j x hx1).kept hbw hB
                obtain ⟨B1, B2, B3, B4, d1, d2, d3, d4, e, x0, x1, x2, x3, x4, x5, x6, x7, x8, x9, x10, x11, x12, x13, x14⟩ := kid_cells hq (fun j' u hu => (hbw.cell (p := ⟨g, o + j * 15 + j', none⟩) (Nat.lt_of_lt_of_le hg hB)).trans (hc j hlt j' u hu))
                have IH2 := Lib.hid (fun W hW => IH.out W hW j x hx1)
                rw [e] at IH2
                unfold qcells at IH2
                have HT := Lib.hid (goods_take hx1 HA.out)
                have HBD := Lib.hid (fun h => goods_bad (P := locB n true) hx1 h)
                have hlt2 : (j : Int) < 9223372036854775807 := by omega
                have i2 : (j : Int) < (ks.length : Int) := by omega
                have LL := fun u => load_blk (P := Tryz.prog) (ty := 143) _ ((K0.below hbel (by omega)).alloc u) kindsUnd rfl hKs
                have LD := load_blk (P := Tryz.prog) (ty := 29) _ (Blk.new wr 29 #[.int .i64 x.h.kind, .int .i64 x.h.field, .string x.h.text, .slice B1 x.h.terms.length d1, .slice B2 x.h.offs.length d2, .int .i64 x.h.n, .int .u64 x.h.weight, .bool x.h.lo.op, .bool x.h.lo.inn, .string x.h.lo.text, .bool x.h.hi.op, .bool x.h.hi.inn, .string x.h.hi.text, .slice B3 x.h.occur.length d3, .slice B4 x.kids.length d4]) Tryz.underlying29 rfl qInfo
                have HBW2 := Lib.hid hbw
                have HBL := Lib.hid hbel
                clear hc hq e hx1 hbw hbel
                go_upto_region 11 with fail
                go_step
                with_reducible refine wpList_load ⟨w.heap.size, 0, none⟩ (.agg K) ?_ ?_ ?_
                · rfl
                · exact LL _
                simp only [Act.put, Base.s1, Base.s2, Base.s3]
                with_reducible refine wpList_load ⟨wr.heap.size, 0, none⟩ (.agg #[.int .i64 x.h.kind, .int .i64 x.h.field, .string x.h.text, .slice B1 x.h.terms.length d1, .slice B2 x.h.offs.length d2, .int .i64 x.h.n, .int .u64 x.h.weight, .bool x.h.lo.op, .bool x.h.lo.inn, .string x.h.lo.text, .bool x.h.hi.op, .bool x.h.hi.inn, .string x.h.hi.text, .slice B3 x.h.occur.length d3, .slice B4 x.kids.length d4]) ?_ ?_ ?_
                · rfl
                · exact LD
                simp only [Act.put, Base.s1, Base.s2, Base.s3]
                clear LL LD
                cases hgx : goodBy (locB n true) x
                · go_wp2_with (go_at_call 67; refine (IH2.out _ (Below.alloc HBW2.out (Nat.le_trans hbW.size HBL.out.size) _)).mono ?_; rintro e w6 ⟨rfl, hb6⟩; rw [show good n true x = false from hgx])
                  go_ret
                  rw [HBD.out hgx]
                  exact ⟨by simp, bchain (Below.alloc HBW2.out (Nat.le_trans hbW.size HBL.out.size) _) hb6⟩
                · go_wp2_with (go_at_call 67; refine (IH2.out _ (Below.alloc HBW2.out (Nat.le_trans hbW.size HBL.out.size) _)).mono ?_; rintro e w6 ⟨rfl, hb6⟩; rw [show good n true x = true from hgx])
                  go_roundw
                  case rel => exact ⟨j + 1, by omega, by go_num, bchain (Below.alloc HBL.out HBL.out.size _) hb6, HT.out.trans hgx⟩
                  case measure => simp [intOf]; omega
              · have hj' : j = ks.length := by omega
                have HO := Lib.hid (show goodsBy (locB n true) ks = true by have := HA.out; rw [hj', List.take_length] at this; exact this)
                have c14 : wr.cell? ⟨w.heap.size + 1, 14, none⟩ = some (.slice A4 ks.length c4) := (K1.below hbel (by omega)).cell 14
                clear hj'
                go_wp2_with fail
                go_ret
                rw [HO.out]
                exact ⟨rfl, bchain hbW hbel⟩
    · have hf : (locB n true hd ks.length && goodsBy (locB n true) ks) = false := by
        have e1 : (decide (1 ≤ hd.kind) && decide (hd.kind ≤ 14)) = false := by
          rw [Bool.and_eq_false_iff, decide_eq_false_iff_not, decide_eq_false_iff_not]
          omega
        unfold locB
        rw [e1]
        simp
      rw [hf]
      clear hf ih h1 h2 h3 h4 h5 hw
      rcases (by omega : hd.kind < 1 ∨ (1 ≤ hd.kind ∧ 14 < hd.kind)) with hx | ⟨hx, hy⟩
      · have b1 : decide (hd.kind < 1) = true := decide_eq_true hx
        go_enter Tryz.func67, Tryz.ntmps67
        go_wp2_with fail
        go_ret
        exact ⟨rfl, (by exact Base.bel)⟩
      · have b1 : decide (hd.kind < 1) = false := decide_eq_false (by omega)
        have b2 : decide ((14 : Int) < hd.kind) = true := decide_eq_true hy
        go_enter Tryz.func67, Tryz.ntmps67
        go_wp2_with fail
        go_ret
        exact ⟨rfl, (by exact Base.bel)⟩
end Go.Proofs.YtfpikilhbkeajaaGreatDoor.GoodPlain

namespace Go.Proofs.YtfpikilhbkeajaaGreatDoor.QuietLoad
open Go.RowKit Go.PlainAid Base
section
variable {P : Program} {C : World → Prop} {o : Oper} {a : Act}

theorem quiet_load {K : Act → Prop} (ty : TypeId) (x : Operand) (ad : Addr) (v : Value) (ho : o.op = .load ty x) (hx : a.eval x = .pointer (some ad))
    (hv : ∀ w, C w → (loadVar ty ad).run P w = .ok v w) (hk : K (a.put o.dst v)) : o.quiet P a C K :=
  ⟨v, fun w hw => by
    unfold Oper.quietAt execOp
    simp only [ho, hx, Instr.loadAt, Instr.sureAddr, Sem.run_bind, Sem.run_pure, Result.andThen_ok, hv w hw]
    exact ⟨rfl, rfl⟩, hk⟩

theorem loads_blk {w : World} {B g : Nat} {t ty : TypeId} {cs : Array Value} {d : TypeDesc} (hb : Blk w g t cs) (hg : g < B) (hu : P.underlying ty = some d) (hd : (match d with | .struct _ | .array _ _ => true | _ => false) = true) (hi : (P.info? ty).map (·.size) = some cs.size) :
    ∀ wx, (∃ b : Bw B w, wx = b.at_) → (loadVar ty ⟨g, 0, none⟩).run P wx = .ok (.agg cs) wx := by
  rintro wx ⟨b, rfl⟩
  exact run_loadVar_row b.at_ g t ty cs (0, 0) d (hb.below b.below hg) hu hd hi
end
end Go.Proofs.YtfpikilhbkeajaaGreatDoor.QuietLoad

namespace Go.Proofs.YtfpikilhbkeajaaGreatDoor.CheckPlain
set_option maxRecDepth 100000
open Go.RowKit Go.PlainAid Base Query QrySize BindBase TextPlain LineBase GoodPlain QuietLoad

def errUnless (b : Bool) (ev : Value) : Value := if b then .nilIface else ev
set_option maxHeartbeats 4000000 in
theorem check_plain (q : Qry) (cs : List Value) (B : Nat) (n : Int) (ev : Value) (w : World) (hq : QVal w B cs q) (hB : B ≤ w.heap.size) (he : w.cell? ⟨0, 0, none⟩ = some ev) (h0 : 0 < w.heap.size) :
    Calls Tryz.prog 43 #[.agg cs.toArray, .int .i64 n, .bool true] w fun e w' => e = .returned (errUnless (good n true q) ev) ∧ Below w.heap.size w w' := by
  obtain ⟨C, hC⟩ : ∃ C, C = cs.toArray := ⟨_, rfl⟩
  have hlen : C.size = 15 := by rw [hC]; simpa using hq.len
  obtain ⟨W1, hW1⟩ : ∃ W, W = w.alloc (.cells C 29) := ⟨_, rfl⟩
  have K1 : Blk W1 w.heap.size 29 C := by rw [hW1]; exact Blk.new w _ _
  have hsz : w.heap.size + 1 = W1.heap.size := by rw [hW1]; simp
  have hbW : Below w.heap.size w W1 := by rw [hW1]; exact Base.bel
  obtain ⟨r, hr⟩ : ∃ r, r = good n true q := ⟨_, rfl⟩
  have KA : ∀ b : Bw W1.heap.size W1, Calls Tryz.prog 68 #[] b.at_ fun e w' => e = .returned (.agg kindsA) ∧ ∃ b' : Bw W1.heap.size W1, w' = b'.at_ := fun b => calls_bw (Nat.le_refl _) (kinds_any _)
  have GT : ∀ b : Bw W1.heap.size W1, Calls Tryz.prog 67 #[.agg kindsA, .agg C, .int .i64 n, .bool true] b.at_ fun e w' => e = .returned (.bool r) ∧ ∃ b' : Bw W1.heap.size W1, w' = b'.at_ := fun b => by
    rw [hr, hC]
    exact calls_bw (Nat.le_refl _) (good_plain q cs B n b.at_ (hq.kept (bchain hbW b.below) hB) (Nat.le_trans hB (Nat.le_trans hbW.size b.below.size)))
  have L1 := loads_blk (P := Tryz.prog) (ty := 29) K1 (show w.heap.size < W1.heap.size by omega) Tryz.underlying29 rfl (by rw [qInfo, hlen])
  rw [← hr, ← hC]
  generalize kindsA = K at KA GT
  have HW := Lib.hid hW1
  clear hW1 hr hC hq hlen
  cases r
  · go_enter Tryz.func43, Tryz.ntmps43
    go_upto_region 1 with fail
    rw [← HW.out]
    refine wp_region_bw W1.heap.size (by kernel_rfl) (by kernel_rfl) ?_
    repeat (first | (refine BigFrame.wpQuiet_want (by kernel_rfl) ?_; intro KK hK; refine quiet_load _ _ _ (.agg C) rfl rfl L1 (hK _ ?_); clear hK KK; simp only [Act.put, Base.s1, Base.s2, Base.s3]) | go_big_quiet_step ((first | (go_at_call 68; with_reducible exact KA _) | (go_at_call 67; with_reducible exact GT _))))
    refine wpQuiet_nil ?_
    intro wq hw'
    obtain ⟨⟨wz, hbq⟩, hw''⟩ := hw'
    subst hw''
    have he2 := (hbq.cell (p := ⟨0, 0, none⟩) (by show 0 < _; omega)).trans ((hbW.cell (p := ⟨0, 0, none⟩) h0).trans he)
    go_wp2_with fail
    go_ret
    exact ⟨rfl, bchain hbW hbq⟩
  · go_enter Tryz.func43, Tryz.ntmps43
    go_upto_region 1 with fail
    rw [← HW.out]
    refine wp_region_bw W1.heap.size (by kernel_rfl) (by kernel_rfl) ?_
    repeat (first | (refine BigFrame.wpQuiet_want (by kernel_rfl) ?_; intro KK hK; refine quiet_load _ _ _ (.agg C) rfl rfl L1 (hK _ ?_); clear hK KK; simp only [Act.put, Base.s1, Base.s2, Base.s3]) | go_big_quiet_step ((first | (go_at_call 68; with_reducible exact KA _) | (go_at_call 67; with_reducible exact GT _))))
    refine wpQuiet_nil ?_
    intro wq hw'
    obtain ⟨⟨wz, hbq⟩, hw''⟩ := hw'
    subst hw''
    go_wp2_with fail
    go_ret
    exact ⟨rfl, bchain hbW hbq⟩
end Go.Proofs.YtfpikilhbkeajaaGreatDoor.CheckPlain

namespace Go.Proofs.YtfpikilhbkeajaaGreatDoor.GoodPl
set_option maxRecDepth 100000
open Go.RowKit Go.PlainAid Base Query QrySize EmitPlain EmitBase EmitPut LeafMap EmitNear EmitQ0 AllLeaves LeafRange TextPlain CheckPlain EmitExt

def errV (a : Addr) : Value := .iface 222 (.pointer (some a))
def inF (n : Int) (l : Lf) : Bool := decide (0 ≤ l.field) && decide (l.field < n)
def goodPl (n : Int) (q : Qry) (all : Bool) (dr : List Lf) : Bool :=
  decide (1 ≤ n) && decide (n ≤ 16) && good n true q && !(all && decide (0 < dr.length)) && dr.all (inF n) && (leafs q ++ dr).all fun l => decide (l.term.size ≤ 64)
theorem all_take {α : Type} {P : α → Bool} {L : List α} {j : Nat} {i : α} (h : L[j]? = some i) (ha : (L.take j).all P = true) (hi : P i = true) : (L.take (j + 1)).all P = true := by
  rw [List.take_add_one, h, List.all_append, ha]
  simp [hi]
theorem all_bad {α : Type} {P : α → Bool} {L : List α} {i : α} (h : i ∈ L) (hi : P i = false) : L.all P = false := by
  rw [List.all_eq_false]
  exact ⟨i, h, by simp [hi]⟩

theorem mem_leafss : ∀ (ks : List Qry) (l : Lf), l ∈ leafss ks ↔ ∃ k ∈ ks, l ∈ leafs k
  | [], l => by simp [leafss]
  | q :: r, l => by rw [leafss, List.mem_append, mem_leafss r l]; simp
theorem leafs_ok {w : World} {B : Nat} {cs : List Value} {q : Qry} (h : QVal w B cs q) : ∀ l ∈ leafs q, LfOk l := by
  induction h with
  | mk hd ks A1 A2 A3 A4 c1 c2 c3 c4 cs hw hk h1 h2 h3 h4 h5 ih =>
    intro l hl
    rw [leafs, List.mem_append] at hl
    rcases hl with hl | hl
    · unfold hleafs at hl
      split at hl
      · simp at hl; subst hl; exact ⟨hw.field, hw.text⟩
      · split at hl
        · obtain ⟨t, ht, rfl⟩ := List.mem_map.1 hl
          exact ⟨hw.field, hw.terms t ht⟩
        · cases hl
    · obtain ⟨k, hk', hl'⟩ := (mem_leafss _ _).1 hl
      obtain ⟨i, hi⟩ := List.getElem?_of_mem hk'
      exact ih i k hi l hl'

noncomputable def tailG (k : Nat) : Code := ((Tryz.f20.body).bind (fromR k)).getD .skip

set_option maxHeartbeats 4000000 in
theorem good_tail (hd : Head) (nk : Nat) (A1 A2 A3 A4 : Option Addr) (c1 c2 c3 c4 : Nat) (all : Bool) (AD : Option Addr) (cD : Nat) (dr S : List Lf) (n : Int) (G : Bool) (w W1 w2 : World)
    (HK1 : Hid (Blk W1 w.heap.size 32 (plC hd nk A1 A2 A3 A4 c1 c2 c3 c4 all AD dr.length cD))) (HB : Hid (Below w.heap.size w W1)) (HS1 : Hid (W1.heap.size = w.heap.size + 1)) (HB2 : Hid (Below W1.heap.size W1 w2))
    (AL : Hid (∀ W, Below W1.heap.size W1 W → Calls Tryz.prog 44 #[.agg (plC hd nk A1 A2 A3 A4 c1 c2 c3 c4 all AD dr.length cD)] W (IsLeaves S W)))
    (HLO : Hid (∀ l ∈ S, LfOk l)) (HDR : Hid (Slc w w.heap.size AD (lfCs dr))) (HL : Hid (dr.length < maxLen)) (HG2 : Hid (G = (dr.all (inF n) && S.all fun l => decide (l.term.size ≤ 64)))) (u0 u3 u5 u6 u7 u8 u9 u10 u11 u12 u13 u14 u15 u16 u17 u18 u19 u20 u21 u22 u23 u24 u25 u26 u27 u28 u29 u30 u31 u32 u33 u34 u35 u36 u37 u38 u39 u40 u41 u42 u43 u44 u45 u46 u47 u48 u49 u50 u51 u52 u53 u54 u55 u56 u57 u58 : Value) :
    Code.wp Tryz.prog (tailG 3) (bodyPost Tryz.prog Tryz.f20 fun e w' => e = .returned (.bool G) ∧ Below w.heap.size w w') ⟨#[u0, .int .i64 n, .pointer (some ⟨w.heap.size, 0, none⟩), u3, .bool false, u5, u6, u7, u8, u9, u10, u11, u12, u13, u14, u15, u16, u17, u18, u19, u20, u21, u22, u23, u24, u25, u26, u27, u28, u29, u30, u31, u32, u33, u34, u35, u36, u37, u38, u39, u40, u41, u42, u43, u44, u45, u46, u47, u48, u49, u50, u51, u52, u53, u54, u55, u56, u57, u58], []⟩ w2 := by
  unfold plC at AL HK1
  have K2 := HK1.out.below HB2.out HK1.out.lt
  have z16 : w2.cell? ⟨w.heap.size, 16, none⟩ = _ := K2.cell 16
  simp only [List.getElem?_toArray, List.getElem?_cons_succ, List.getElem?_cons_zero] at z16
  clear K2
  unfold tailG
  conv => arg 2; whnf
  go_wp2_with fail
  clear z16
  go_loopw [34] (fun i wr => ∃ k : Nat, k ≤ dr.length ∧ i = .int .i64 k ∧ Below W1.heap.size W1 wr ∧ (dr.take k).all (inF n) = true) (fun i _ => dr.length - (intOf i).toNat)
  case atStart => exact ⟨0, Nat.zero_le _, rfl, HB2.out, by simp⟩
  case round =>
    obtain ⟨k, hk, rfl, hbr, hall⟩ := hrel
    have HBR := Lib.hid hbr
    rcases Nat.lt_or_ge k dr.length with hlt | hge
    · obtain ⟨y, hy⟩ : ∃ y, dr[k]? = some y := ⟨_, List.getElem?_eq_getElem hlt⟩
      obtain ⟨g, o, e4, hg4, hc4⟩ := HDR.out (by intro e; have := lfCs_len dr; rw [e] at this; simp only [List.length_nil] at this; omega)
      subst e4
      have hbel : Below w.heap.size w wr := HB.out.trans (hbr.mono (by have := HS1.out; omega))
      obtain ⟨d0, d1⟩ := lfCs_at dr k y hy
      have x0 : wr.cell? ⟨g, o + k * 2, none⟩ = some (.int .i64 y.field) := (hbel.cell (p := ⟨g, o + k * 2, none⟩) (by show g < _; omega)).trans (hc4 _ _ d0)
      have x1 : wr.cell? ⟨g, o + k * 2 + 1, none⟩ = some (.string y.term) := (hbel.cell (p := ⟨g, o + k * 2 + 1, none⟩) (by show g < _; omega)).trans (hc4 _ _ d1)
      have i1 : (k : Int) < (dr.length : Int) := by omega
      have i3 : (k : Int) < 9223372036854775807 := by have := HL.out; unfold maxLen at this; omega
      obtain ⟨W5, hW5⟩ : ∃ W, W = wr.alloc (.cells #[.int .i64 y.field, .string y.term] 51) := ⟨_, rfl⟩
      have hb5 : Below wr.heap.size wr W5 := by rw [hW5]; exact Base.bel
      have HB5 := Lib.hid (hbr.trans (hb5.mono hbr.size))
      have T5 : Blk W5 wr.heap.size 51 #[.int .i64 y.field, .string y.term] := by rw [hW5]; exact Blk.new _ _ _
      have t0 : W5.cell? ⟨wr.heap.size, 0, none⟩ = some (.int .i64 y.field) := T5.cell 0
      have HY := Lib.hid hy
      have HW5 := Lib.hid hW5
      have HALL := Lib.hid hall
      clear hW5 hb5 T5 hbel hbr hc4 hy d0 d1 hall
      rcases (by omega : y.field < 0 ∨ (0 ≤ y.field ∧ n ≤ y.field) ∨ (0 ≤ y.field ∧ y.field < n)) with hf | ⟨hf, hf2⟩ | ⟨hf, hf2⟩
      · have b4 : decide (y.field < 0) = true := decide_eq_true hf
        have hGf : G = false := by rw [HG2.out, all_bad (List.mem_of_getElem? HY.out) (by unfold inF; rw [decide_eq_false (show ¬ 0 ≤ y.field by omega)]; rfl)]; rfl
        go_upto_region 6 with fail
        rw [← HW5.out]
        go_wp2_with fail
        go_ret
        exact ⟨by rw [hGf]; rfl, HB.out.trans (HB5.out.mono (by have := HS1.out; omega))⟩
      · have b4 : decide (y.field < 0) = false := decide_eq_false (by omega)
        have b5 : decide (n ≤ y.field) = true := decide_eq_true hf2
        have hGf : G = false := by rw [HG2.out, all_bad (List.mem_of_getElem? HY.out) (by unfold inF; rw [decide_eq_false (show ¬ y.field < n by omega)]; simp)]; rfl
        go_upto_region 6 with fail
        rw [← HW5.out]
        go_wp2_with fail
        go_ret
        exact ⟨by rw [hGf]; rfl, HB.out.trans (HB5.out.mono (by have := HS1.out; omega))⟩
      · have b4 : decide (y.field < 0) = false := decide_eq_false (by omega)
        have b5 : decide (n ≤ y.field) = false := decide_eq_false (by omega)
        go_upto_region 6 with fail
        rw [← HW5.out]
        go_wp2_with fail
        go_roundw
        case rel => exact ⟨k + 1, by omega, by go_num, HB5.out, all_take HY.out HALL.out (by unfold inF; rw [decide_eq_true hf, decide_eq_true hf2]; rfl)⟩
        case measure => simp [intOf]; omega
    · obtain rfl : k = dr.length := by omega
      rw [List.take_length] at hall
      have KR := HK1.out.below hbr HK1.out.lt
      obtain ⟨z0, z1, z2, z3, z4, z5, z6, z7, z8, z9, z10, z11, z12, z13, z14, z15, z16⟩ := plcs KR
      have ALr := Lib.hid (AL.out wr hbr)
      have HALL := Lib.hid hall
      clear hall KR hbr
      go_wp2_with (first | (go_at_call 44; (with_reducible refine ALr.out.mono ?_); rintro e w4 ⟨mb, rfl, hmb, hset, hb4⟩; have HSET := Lib.hid hset; have HB4 := Lib.hid hb4; clear hset hb4) | (at_range; refine wpList_range_lf (by rfl) _ (by rfl) (by rfl) HSET.out ?_; intro w5 cnt0 hg0 hgr0 hs0; have HG0 := Lib.hid hg0; have HGR := Lib.hid hgr0; clear hg0 hgr0 hs0) | go_in)
      clear z0 z1 z2 z3 z4 z5 z6 z7 z8 z9 z10 z11 z12 z13 z14 z15 z16
      go_frame
      have HB4' : Below W1.heap.size W1 w4 := HBR.out.trans (HB4.out.mono HBR.out.size)
      have hs4 := HB4'.size
      go_loopw [51] (fun _ wr => ∃ (T : List Lf) (cnt : Nat), Going wr mb w4.heap.size S.length S T cnt ∧ Below W1.heap.size W1 wr ∧ T.all (fun l => decide (l.term.size ≤ 64)) = true) (fun _ wr => wr.rangeLeft mb w4.heap.size)
      case atStart => exact ⟨[], cnt0, HG0.out, HB4'.grown HGR.out HB4'.size (fun k hk => by cases hk), rfl⟩
      case round =>
        obtain ⟨T, cnt, hgo, hbr2, hT⟩ := hrel
        have HGO := Lib.hid hgo
        have HBR2 := Lib.hid hbr2
        have HT := Lib.hid hT
        clear hgo hbr2 hT
        go_wp2_with (first | (at_next; refine wpList_next_lf (by rfl) _ (by rfl) (by rfl) HGO.out ?_ ?_) | go_in)
        · intro hdone
          have hGt : G = true := by
            rw [HG2.out, HALL.out, Bool.true_and, List.all_eq_true]
            intro l hl
            exact List.all_eq_true.1 HT.out l ((hdone l (HLO.out l hl)).1 hl)
          clear hdone
          go_wp2_with fail
          go_ret
          exact ⟨by rw [hGt]; rfl, HB.out.trans (HBR2.out.mono (by have := HS1.out; omega))⟩
        · intro l c w6 cnt6 hlok hlS hlT hgo6 hlt6 hgr6 hs6 hen
          obtain ⟨W7, hW7⟩ : ∃ W, W = w6.alloc (.cells #[.int .i64 l.field, .string l.term] 51) := ⟨_, rfl⟩
          have T7 : Blk W7 w6.heap.size 51 #[.int .i64 l.field, .string l.term] := by rw [hW7]; exact Blk.new _ _ _
          have t1 : W7.cell? ⟨w6.heap.size, 1, none⟩ = some (.string l.term) := T7.cell 1
          have HB6 := Lib.hid (show Below W1.heap.size W1 W7 by
            have := HBR2.out.grown hgr6 HBR2.out.size (fun k hk => by cases hk; exact hs4)
            rw [hW7]; exact this.alloc this.size _)
          have HG7 := Lib.hid (show Going W7 mb w4.heap.size S.length S (T ++ [l]) cnt6 by rw [hW7]; exact hgo6.alloc _)
          have HW7 := Lib.hid hW7
          clear hgo6 hgr6 hW7 T7 hs6
          rcases Nat.lt_or_ge 64 l.term.size with h64 | h64
          · have b6 : decide ((64 : Int) < (l.term.size : Int)) = true := decide_eq_true (by omega)
            have hGf : G = false := by
              rw [HG2.out, all_bad (P := fun l : Lf => decide (l.term.size ≤ 64)) hlS (decide_eq_false (by omega : ¬ l.term.size ≤ 64)), Bool.and_false]
            go_upto_region 12 with fail
            rw [← HW7.out]
            go_wp2_with fail
            go_ret
            exact ⟨by rw [hGf]; rfl, HB.out.trans (HB6.out.mono (by have := HS1.out; omega))⟩
          · have b6 : decide ((64 : Int) < (l.term.size : Int)) = false := decide_eq_false (by omega)
            go_upto_region 12 with fail
            rw [← HW7.out]
            go_wp2_with fail
            go_roundw
            case rel => exact ⟨_, cnt6, HG7.out, HB6.out, by rw [List.all_append, HT.out]; simp [h64]⟩
            case measure => rw [HG7.out.left_eq, HGO.out.left_eq]; exact hlt6

end Go.Proofs.YtfpikilhbkeajaaGreatDoor.GoodPl
