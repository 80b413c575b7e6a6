/-
  The walk of bind's good over whatever query.
-/
import Derived.Test.YtkcfgcdlnojaeaaGreatDoorLists
import Derived.Test.YtkcfgcdlnojaeaaGreatDoorGoodPat
import Derived.Test.YtkcfgcdlnojaeaaGreatDoorDNumA
set_option linter.unusedVariables false
set_option linter.unusedSimpArgs false
namespace Go.Proofs.YtkcfgcdlnojaeaaGreatDoor.GoodAll
set_option maxRecDepth 100000
open Go.RowKit Go.PlainAid Base Query QrySize BindBase TextPlain TextLine Numbers Lists GoodPat LineBase

theorem k_cases {k : Nat} (h1 : 1 ≤ k) (h2 : k ≤ 14) {P : Nat → Prop} (a1 : P 1) (a2 : P 2) (a3 : P 3) (a4 : P 4) (a5 : P 5) (a6 : P 6) (a7 : P 7) (a8 : P 8) (a9 : P 9) (a10 : P 10) (a11 : P 11) (a12 : P 12) (a13 : P 13) (a14 : P 14) : P k := by
  rcases (by omega : k = 1 ∨ k = 2 ∨ k = 3 ∨ k = 4 ∨ k = 5 ∨ k = 6 ∨ k = 7 ∨ k = 8 ∨ k = 9 ∨ k = 10 ∨ k = 11 ∨ k = 12 ∨ k = 13 ∨ k = 14) with rfl | rfl | rfl | rfl | rfl | rfl | rfl | rfl | rfl | rfl | rfl | rfl | rfl | rfl <;> assumption
theorem row0 {k : Nat} (h1 : 1 ≤ k) (h2 : k ≤ 14) : kindsA[k * 10]? = some (.bool (hasOf k).a) := k_cases (P := fun k => kindsA[k * 10]? = some (.bool (hasOf k).a)) h1 h2 (by kernel_rfl) (by kernel_rfl) (by kernel_rfl) (by kernel_rfl) (by kernel_rfl) (by kernel_rfl) (by kernel_rfl) (by kernel_rfl) (by kernel_rfl) (by kernel_rfl) (by kernel_rfl) (by kernel_rfl) (by kernel_rfl) (by kernel_rfl)
theorem row1 {k : Nat} (h1 : 1 ≤ k) (h2 : k ≤ 14) : kindsA[k * 10 + 1]? = some (.bool (hasOf k).b) := k_cases (P := fun k => kindsA[k * 10 + 1]? = some (.bool (hasOf k).b)) h1 h2 (by kernel_rfl) (by kernel_rfl) (by kernel_rfl) (by kernel_rfl) (by kernel_rfl) (by kernel_rfl) (by kernel_rfl) (by kernel_rfl) (by kernel_rfl) (by kernel_rfl) (by kernel_rfl) (by kernel_rfl) (by kernel_rfl) (by kernel_rfl)
theorem row2 {k : Nat} (h1 : 1 ≤ k) (h2 : k ≤ 14) : kindsA[k * 10 + 2]? = some (.bool (hasOf k).c) := k_cases (P := fun k => kindsA[k * 10 + 2]? = some (.bool (hasOf k).c)) h1 h2 (by kernel_rfl) (by kernel_rfl) (by kernel_rfl) (by kernel_rfl) (by kernel_rfl) (by kernel_rfl) (by kernel_rfl) (by kernel_rfl) (by kernel_rfl) (by kernel_rfl) (by kernel_rfl) (by kernel_rfl) (by kernel_rfl) (by kernel_rfl)
theorem row3 {k : Nat} (h1 : 1 ≤ k) (h2 : k ≤ 14) : kindsA[k * 10 + 3]? = some (.int .i64 (hasOf k).m) := k_cases (P := fun k => kindsA[k * 10 + 3]? = some (.int .i64 (hasOf k).m)) h1 h2 (by kernel_rfl) (by kernel_rfl) (by kernel_rfl) (by kernel_rfl) (by kernel_rfl) (by kernel_rfl) (by kernel_rfl) (by kernel_rfl) (by kernel_rfl) (by kernel_rfl) (by kernel_rfl) (by kernel_rfl) (by kernel_rfl) (by kernel_rfl)
theorem row4 {k : Nat} (h1 : 1 ≤ k) (h2 : k ≤ 14) : kindsA[k * 10 + 4]? = some (.bool (hasOf k).d) := k_cases (P := fun k => kindsA[k * 10 + 4]? = some (.bool (hasOf k).d)) h1 h2 (by kernel_rfl) (by kernel_rfl) (by kernel_rfl) (by kernel_rfl) (by kernel_rfl) (by kernel_rfl) (by kernel_rfl) (by kernel_rfl) (by kernel_rfl) (by kernel_rfl) (by kernel_rfl) (by kernel_rfl) (by kernel_rfl) (by kernel_rfl)
theorem row5 {k : Nat} (h1 : 1 ≤ k) (h2 : k ≤ 14) : kindsA[k * 10 + 5]? = some (.bool (hasOf k).e) := k_cases (P := fun k => kindsA[k * 10 + 5]? = some (.bool (hasOf k).e)) h1 h2 (by kernel_rfl) (by kernel_rfl) (by kernel_rfl) (by kernel_rfl) (by kernel_rfl) (by kernel_rfl) (by kernel_rfl) (by kernel_rfl) (by kernel_rfl) (by kernel_rfl) (by kernel_rfl) (by kernel_rfl) (by kernel_rfl) (by kernel_rfl)
theorem row6 {k : Nat} (h1 : 1 ≤ k) (h2 : k ≤ 14) : kindsA[k * 10 + 6]? = some (.bool (hasOf k).f) := k_cases (P := fun k => kindsA[k * 10 + 6]? = some (.bool (hasOf k).f)) h1 h2 (by kernel_rfl) (by kernel_rfl) (by kernel_rfl) (by kernel_rfl) (by kernel_rfl) (by kernel_rfl) (by kernel_rfl) (by kernel_rfl) (by kernel_rfl) (by kernel_rfl) (by kernel_rfl) (by kernel_rfl) (by kernel_rfl) (by kernel_rfl)
theorem row7 {k : Nat} (h1 : 1 ≤ k) (h2 : k ≤ 14) : kindsA[k * 10 + 7]? = some (.int .i64 (hasOf k).k) := k_cases (P := fun k => kindsA[k * 10 + 7]? = some (.int .i64 (hasOf k).k)) h1 h2 (by kernel_rfl) (by kernel_rfl) (by kernel_rfl) (by kernel_rfl) (by kernel_rfl) (by kernel_rfl) (by kernel_rfl) (by kernel_rfl) (by kernel_rfl) (by kernel_rfl) (by kernel_rfl) (by kernel_rfl) (by kernel_rfl) (by kernel_rfl)
theorem row8 {k : Nat} (h1 : 1 ≤ k) (h2 : k ≤ 14) : kindsA[k * 10 + 8]? = some (.bool (hasOf k).p) := k_cases (P := fun k => kindsA[k * 10 + 8]? = some (.bool (hasOf k).p)) h1 h2 (by kernel_rfl) (by kernel_rfl) (by kernel_rfl) (by kernel_rfl) (by kernel_rfl) (by kernel_rfl) (by kernel_rfl) (by kernel_rfl) (by kernel_rfl) (by kernel_rfl) (by kernel_rfl) (by kernel_rfl) (by kernel_rfl) (by kernel_rfl)
theorem row9 {k : Nat} (h1 : 1 ≤ k) (h2 : k ≤ 14) : kindsA[k * 10 + 9]? = some (.string ⟨(hasOf k).n.toArray⟩) := k_cases (P := fun k => kindsA[k * 10 + 9]? = some (.string ⟨(hasOf k).n.toArray⟩)) h1 h2 (by kernel_rfl) (by kernel_rfl) (by kernel_rfl) (by kernel_rfl) (by kernel_rfl) (by kernel_rfl) (by kernel_rfl) (by kernel_rfl) (by kernel_rfl) (by kernel_rfl) (by kernel_rfl) (by kernel_rfl) (by kernel_rfl) (by kernel_rfl)
theorem numbers_k {k : Nat} (h1 : 1 ≤ k) (h2 : k ≤ 14) (n : Int) (hd : Head) (nk : Nat) (A1 A2 A3 A4 : Option Addr) (c1 c2 c3 c4 : Nat) (w : World) :
    Calls Tryz.prog 97 #[.agg (rowV (hasOf k)), .agg (qcells hd nk A1 A2 A3 A4 c1 c2 c3 c4), .int .i64 n] w fun e w' => e = .returned (.bool (numB (hasOf k) n hd)) ∧ Below w.heap.size w w' := by
  by_cases h : k = 9
  · subst h; exact numbers_span n hd nk A1 A2 A3 A4 c1 c2 c3 c4 w
  · refine numbers_no _ ?_ n hd nk A1 A2 A3 A4 c1 c2 c3 c4 w
    exact k_cases (P := fun k => k ≠ 9 → (hasOf k).d = false) h1 h2 (fun _ => rfl) (fun _ => rfl) (fun _ => rfl) (fun _ => rfl) (fun _ => rfl) (fun _ => rfl) (fun _ => rfl) (fun _ => rfl) (fun h => absurd rfl h) (fun _ => rfl) (fun _ => rfl) (fun _ => rfl) (fun _ => rfl) (fun _ => rfl) h
theorem lists_row {k : Nat} (h1 : 1 ≤ k) (h2 : k ≤ 14) : ((hasOf k).e = false ∧ (hasOf k).f = false ∧ (hasOf k).k = 0) ∨ ((hasOf k).e = true ∧ (hasOf k).f = false ∧ (hasOf k).k = 0) ∨ ((hasOf k).e = false ∧ (hasOf k).f = true ∧ (hasOf k).k = -1) ∨ ((hasOf k).e = false ∧ (hasOf k).f = false ∧ (hasOf k).k = -1) ∨ ((hasOf k).e = false ∧ (hasOf k).f = false ∧ (hasOf k).k = 1) := by
  rcases (by omega : k = 1 ∨ k = 2 ∨ k = 3 ∨ k = 4 ∨ k = 5 ∨ k = 6 ∨ k = 7 ∨ k = 8 ∨ k = 9 ∨ k = 10 ∨ k = 11 ∨ k = 12 ∨ k = 13 ∨ k = 14) with rfl | rfl | rfl | rfl | rfl | rfl | rfl | rfl | rfl | rfl | rfl | rfl | rfl | rfl <;> simp [hasOf]
theorem goods_take {P : Head → Nat → Bool} {ks : List Qry} {i : Nat} {k : Qry} (h : ks[i]? = some k) (ha : goodsBy P (ks.take i) = true) : goodsBy P (ks.take (i + 1)) = goodBy P k := by
  rw [goodsBy_all] at ha ⊢
  rw [List.take_add_one, h, List.all_append, ha]
  simp
theorem goods_bad {P : Head → Nat → Bool} {ks : List Qry} {i : Nat} {k : Qry} (h : ks[i]? = some k) (hb : goodBy P k = false) : goodsBy P ks = false := by
  rw [goodsBy_all, List.all_eq_false]
  exact ⟨k, List.mem_of_getElem? h, by simp [hb]⟩

/-- Every node's text has at most 2^40 bytes. -/
inductive Txt : Qry → Prop
  | mk (hd : Head) (ks : List Qry) (h : hd.text.size ≤ 1099511627776) (hk : ∀ k ∈ ks, Txt k) : Txt (.mk hd ks)
theorem txt_bulk (q : Qry) : bulk q ≤ 1099511627776 → Txt q := by
  induction q using Qry.ind with
  | h q ih =>
    intro hb
    obtain ⟨hd, ks⟩ := q
    simp only [Qry.kids] at ih
    simp only [bulk] at hb
    refine .mk hd ks (by unfold hbulk at hb; omega) fun k hk => ih k hk ?_
    obtain ⟨i, hi⟩ := List.getElem?_of_mem hk
    have := bulks_take hi
    omega
set_option maxHeartbeats 8000000 in
theorem good_txt (q : Qry) : ∀ (cs : List Value) (B : Nat) (n : Int) (w : World), QVal w B cs q → B ≤ w.heap.size → Txt q →
    Calls Tryz.prog 55 #[.agg kindsA, .agg cs.toArray, .int .i64 n, .bool false] w fun e w' => e = .returned (.bool (good n false q)) ∧ Below w.heap.size w w' := by
  induction q using Qry.ind with
  | h q ih =>
    intro cs B n w hq hB hbk
    obtain ⟨hd, ks, A1, A2, A3, A4, c1, c2, c3, c4, kc, hw, hkl, h1, h2, h3, h4, h5⟩ := hq
    simp only [Qry.kids] at ih
    obtain ⟨_, _, htz, hkt⟩ := hbk
    have hkb : ∀ (i : Nat) (k : Qry), ks[i]? = some k → Txt k := fun i k hk => hkt k (List.mem_of_getElem? hk)
    have hkl' : ks.length ≤ 9223372036854775807 := hkl
    unfold good
    simp only [goodBy]
    by_cases hk : 1 ≤ hd.kind ∧ hd.kind ≤ 14
    · obtain ⟨kind, field, text, terms, offs, qn, weight, lo, hi, occur⟩ := hd
      simp only at hk htz h2 h3 ⊢
      obtain ⟨k, rfl⟩ : ∃ k : Nat, kind = k := ⟨kind.toNat, (Int.toNat_of_nonneg (by omega)).symm⟩
      have kk1 : 1 ≤ k := by omega
      have kk2 : k ≤ 14 := by omega
      have k0 := row0 kk1 kk2
      have k1 := row1 kk1 kk2
      have k2 := row2 kk1 kk2
      have k3 := row3 kk1 kk2
      have k4 := row4 kk1 kk2
      have k5 := row5 kk1 kk2
      have k6 := row6 kk1 kk2
      have k7 := row7 kk1 kk2
      have k8 := row8 kk1 kk2
      have k9 := row9 kk1 kk2
      have hKs : (Tryz.prog.info? 86).map (·.size) = some kindsA.size := kindsInfo
      have NK := Lib.hid (fun W => numbers_k kk1 kk2 n ⟨(k : Int), field, text, terms, offs, qn, weight, lo, hi, occur⟩ ks.length A1 A2 A3 A4 c1 c2 c3 c4 W)
      have LT := fun W (s2 : Slc W W.heap.size A2 (ints offs)) (s3 : Slc W W.heap.size A3 (ints occur)) => lists_any (hasOf k) (lists_row kk1 kk2) ⟨(k : Int), field, text, terms, offs, qn, weight, lo, hi, occur⟩ hw ks.length A1 A2 A3 A4 c1 c2 c3 c4 W s2 s3
      have IH := Lib.hid (fun W (hW : Below w.heap.size w W) (i : Nat) (x : Qry) (hx : ks[i]? = some x) => ih x (List.mem_of_getElem? hx) _ B n W ((h5 i x hx).kept hW hB) (Nat.le_trans hB hW.size) (hkb i x hx))
      have PK := Lib.hid (fun W => good_pat text W (by omega))
      obtain ⟨nb, hnb⟩ : ∃ b, b = numB (hasOf k) n ⟨(k : Int), field, text, terms, offs, qn, weight, lo, hi, occur⟩ := ⟨_, rfl⟩
      obtain ⟨lb, hlb⟩ : ∃ b, b = lstB (hasOf k) ks.length ⟨(k : Int), field, text, terms, offs, qn, weight, lo, hi, occur⟩ := ⟨_, rfl⟩
      obtain ⟨pb, hpb⟩ : ∃ b, b = pat text 0 := ⟨_, rfl⟩
      have hloc : locB n false ⟨(k : Int), field, text, terms, offs, qn, weight, lo, hi, occur⟩ ks.length = (nb && lb && ((k : Int) != 7 || pb)) := by
        unfold locB
        simp only [Int.toNat_natCast]
        rw [← hnb, ← hlb, ← hpb, decide_eq_true hk.1, decide_eq_true hk.2]
        simp
      have hlen7 : lb = true → k = 7 → ks.length = 0 := fun e1 e2 => by
        subst e2
        rw [e1] at hlb
        simp [lstB, hasOf] at hlb
        rw [hlb.1.1.1.1.1]; rfl
      rw [hloc]
      simp only [← hnb] at NK
      simp only [← hlb] at LT
      simp only [← hpb] at PK
      have HL7 := Lib.hid hlen7
      clear hnb hlb hpb hloc hlen7
      generalize kindsA = K at *
      obtain ⟨W3, hW3⟩ : ∃ W, W = ((w.alloc (.cells K 86)).alloc (.cells (qcells ⟨(k : Int), field, text, terms, offs, qn, weight, lo, hi, occur⟩ ks.length A1 A2 A3 A4 c1 c2 c3 c4) 29)).alloc (.cells (rowV (hasOf k)) 85) := ⟨_, rfl⟩
      have K0 : Blk W3 w.heap.size 86 K := by
        rw [hW3]
        exact ((Blk.new w 86 K).alloc _).alloc _
      have K1 : Blk W3 (w.heap.size + 1) 29 (qcells ⟨(k : Int), field, text, terms, offs, qn, weight, lo, hi, occur⟩ ks.length A1 A2 A3 A4 c1 c2 c3 c4) := by
        rw [hW3]
        have := (Blk.new (w.alloc (.cells K 86)) 29 (qcells ⟨(k : Int), field, text, terms, offs, qn, weight, lo, hi, occur⟩ ks.length A1 A2 A3 A4 c1 c2 c3 c4)).alloc (.cells (rowV (hasOf k)) 85)
        rwa [World.size_alloc] at this
      have K2 : Blk W3 (w.heap.size + 1 + 1) 85 (rowV (hasOf k)) := by
        rw [hW3]
        have := Blk.new ((w.alloc (.cells K 86)).alloc (.cells (qcells ⟨(k : Int), field, text, terms, offs, qn, weight, lo, hi, occur⟩ ks.length A1 A2 A3 A4 c1 c2 c3 c4) 29)) 85 (rowV (hasOf k))
        rwa [World.size_alloc, World.size_alloc] at this
      have hsz : w.heap.size + 3 = W3.heap.size := by rw [hW3]; simp
      have hbW : Below w.heap.size w W3 := by rw [hW3]; (repeat (first | exact Below.refl _ _ | assumption | refine balloc ?_ _ | refine bdrew ?_ | refine bdrewN ?_ _ | refine bchain ?_ (by assumption)))
      have LK := Lib.hid (fun W (hW : Below W3.heap.size W3 W) => LT W ((h2.below (bchain hbW hW) hB).mono (Nat.le_trans hB (bchain hbW hW).size)) ((h3.below (bchain hbW hW) hB).mono (Nat.le_trans hB (bchain hbW hW).size)))
      have HW := Lib.hid hW3
      unfold qcells rowV at NK LK
      have b1 : decide ((k : Int) < 1) = false := decide_eq_false (by omega)
      have b2 : decide ((14 : Int) < (k : Int)) = false := decide_eq_false (by omega)
      have i1 : (k : Int) < 15 := by omega
      have H5 := Lib.hid h5
      have H4 := Lib.hid h4
      clear LT hW3 h1 h2 h3 h4 h5 hw ih hkb hkt htz hk
      unfold qcells at K1
      unfold rowV at K2
      by_cases ks7 : k = 7
      · have b7 : ((k : Int) == 7) = true := beq_iff_eq.2 (by omega)
        have b7' : ((k : Int) != 7) = false := by rw [bne, b7]; rfl
        rw [b7']
        have K7 := Lib.hid ks7
        clear ks7
        cases nb
        · go_enter Tryz.func55, Tryz.ntmps55
          go_wp2_with (first | (go_at_call 97; refine (NK.out _).mono ?_; rintro e w2 ⟨rfl, hb2⟩; have q2 : Below W3.heap.size W3 w2 := (by rw [HW.out]; exact hb2); obtain ⟨aq0, aq1, aq2, aq3, aq4, aq5, aq6, aq7, aq8, aq9, aq10, aq11, aq12, aq13, aq14⟩ := qrow (K1.below q2 (by omega)); obtain ⟨ar0, ar1, ar2, ar3, ar4, ar5, ar6, ar7, ar8, ar9⟩ := hrow (K2.below q2 (by omega))) | (go_at_call 98; refine (LK.out w2 q2).mono ?_; rintro e w3 ⟨rfl, hb3⟩; have q3 : Below W3.heap.size W3 w3 := bchain q2 hb3; obtain ⟨bq0, bq1, bq2, bq3, bq4, bq5, bq6, bq7, bq8, bq9, bq10, bq11, bq12, bq13, bq14⟩ := qrow (K1.below q3 (by omega))))
          go_ret
          exact ⟨rfl, bchain hbW q2⟩
        · cases lb
          · go_enter Tryz.func55, Tryz.ntmps55
            go_wp2_with (first | (go_at_call 97; refine (NK.out _).mono ?_; rintro e w2 ⟨rfl, hb2⟩; have q2 : Below W3.heap.size W3 w2 := (by rw [HW.out]; exact hb2); obtain ⟨aq0, aq1, aq2, aq3, aq4, aq5, aq6, aq7, aq8, aq9, aq10, aq11, aq12, aq13, aq14⟩ := qrow (K1.below q2 (by omega)); obtain ⟨ar0, ar1, ar2, ar3, ar4, ar5, ar6, ar7, ar8, ar9⟩ := hrow (K2.below q2 (by omega))) | (go_at_call 98; refine (LK.out w2 q2).mono ?_; rintro e w3 ⟨rfl, hb3⟩; have q3 : Below W3.heap.size W3 w3 := bchain q2 hb3; obtain ⟨bq0, bq1, bq2, bq3, bq4, bq5, bq6, bq7, bq8, bq9, bq10, bq11, bq12, bq13, bq14⟩ := qrow (K1.below q3 (by omega))))
            go_ret
            exact ⟨rfl, bchain hbW q3⟩
          · have hz := HL7.out rfl K7.out
            have hnil : ks = [] := List.eq_nil_of_length_eq_zero hz
            have HG := Lib.hid (show goodsBy (locB n false) ks = true by rw [hnil]; rfl)
            have i3 : ¬ ((0 : Int) < (ks.length : Int)) := by omega
            clear hnil hz
            cases pb
            · go_enter Tryz.func55, Tryz.ntmps55
              go_wp2_with (first | (go_at_call 97; refine (NK.out _).mono ?_; rintro e w2 ⟨rfl, hb2⟩; have q2 : Below W3.heap.size W3 w2 := (by rw [HW.out]; exact hb2); obtain ⟨aq0, aq1, aq2, aq3, aq4, aq5, aq6, aq7, aq8, aq9, aq10, aq11, aq12, aq13, aq14⟩ := qrow (K1.below q2 (by omega)); obtain ⟨ar0, ar1, ar2, ar3, ar4, ar5, ar6, ar7, ar8, ar9⟩ := hrow (K2.below q2 (by omega))) | (go_at_call 98; refine (LK.out w2 q2).mono ?_; rintro e w3 ⟨rfl, hb3⟩; have q3 : Below W3.heap.size W3 w3 := bchain q2 hb3; obtain ⟨bq0, bq1, bq2, bq3, bq4, bq5, bq6, bq7, bq8, bq9, bq10, bq11, bq12, bq13, bq14⟩ := qrow (K1.below q3 (by omega))) | (go_at_call 99; refine (PK.out w3).mono ?_; rintro e w4 ⟨rfl, hb4⟩; have q4 : Below W3.heap.size W3 w4 := bchain q3 hb4; obtain ⟨cq0, cq1, cq2, cq3, cq4, cq5, cq6, cq7, cq8, cq9, cq10, cq11, cq12, cq13, cq14⟩ := qrow (K1.below q4 (by omega))))
              go_ret
              exact ⟨rfl, bchain hbW q4⟩
            · go_enter Tryz.func55, Tryz.ntmps55
              go_wp2_with (first | (go_at_call 97; refine (NK.out _).mono ?_; rintro e w2 ⟨rfl, hb2⟩; have q2 : Below W3.heap.size W3 w2 := (by rw [HW.out]; exact hb2); obtain ⟨aq0, aq1, aq2, aq3, aq4, aq5, aq6, aq7, aq8, aq9, aq10, aq11, aq12, aq13, aq14⟩ := qrow (K1.below q2 (by omega)); obtain ⟨ar0, ar1, ar2, ar3, ar4, ar5, ar6, ar7, ar8, ar9⟩ := hrow (K2.below q2 (by omega))) | (go_at_call 98; refine (LK.out w2 q2).mono ?_; rintro e w3 ⟨rfl, hb3⟩; have q3 : Below W3.heap.size W3 w3 := bchain q2 hb3; obtain ⟨bq0, bq1, bq2, bq3, bq4, bq5, bq6, bq7, bq8, bq9, bq10, bq11, bq12, bq13, bq14⟩ := qrow (K1.below q3 (by omega))) | (go_at_call 99; refine (PK.out w3).mono ?_; rintro e w4 ⟨rfl, hb4⟩; have q4 : Below W3.heap.size W3 w4 := bchain q3 hb4; obtain ⟨cq0, cq1, cq2, cq3, cq4, cq5, cq6, cq7, cq8, cq9, cq10, cq11, cq12, cq13, cq14⟩ := qrow (K1.below q4 (by omega))))
              refine wp_loop_rounds 1 ?_
              rw [rounds_succ]
              go_wp2_with fail
              go_ret
              rw [HG.out]
              exact ⟨rfl, bchain hbW q4⟩
      · have b7 : ((k : Int) == 7) = false := beq_eq_false_iff_ne.2 (by omega)
        have b7' : ((k : Int) != 7) = true := bne_iff_ne.2 (by omega)
        rw [b7']
        cases nb
        · go_enter Tryz.func55, Tryz.ntmps55
          go_wp2_with (first | (go_at_call 97; refine (NK.out _).mono ?_; rintro e w2 ⟨rfl, hb2⟩; have q2 : Below W3.heap.size W3 w2 := (by rw [HW.out]; exact hb2); obtain ⟨aq0, aq1, aq2, aq3, aq4, aq5, aq6, aq7, aq8, aq9, aq10, aq11, aq12, aq13, aq14⟩ := qrow (K1.below q2 (by omega)); obtain ⟨ar0, ar1, ar2, ar3, ar4, ar5, ar6, ar7, ar8, ar9⟩ := hrow (K2.below q2 (by omega))) | (go_at_call 98; refine (LK.out w2 q2).mono ?_; rintro e w3 ⟨rfl, hb3⟩; have q3 : Below W3.heap.size W3 w3 := bchain q2 hb3; obtain ⟨bq0, bq1, bq2, bq3, bq4, bq5, bq6, bq7, bq8, bq9, bq10, bq11, bq12, bq13, bq14⟩ := qrow (K1.below q3 (by omega))))
          go_ret
          exact ⟨rfl, bchain hbW q2⟩
        · cases lb
          · go_enter Tryz.func55, Tryz.ntmps55
            go_wp2_with (first | (go_at_call 97; refine (NK.out _).mono ?_; rintro e w2 ⟨rfl, hb2⟩; have q2 : Below W3.heap.size W3 w2 := (by rw [HW.out]; exact hb2); obtain ⟨aq0, aq1, aq2, aq3, aq4, aq5, aq6, aq7, aq8, aq9, aq10, aq11, aq12, aq13, aq14⟩ := qrow (K1.below q2 (by omega)); obtain ⟨ar0, ar1, ar2, ar3, ar4, ar5, ar6, ar7, ar8, ar9⟩ := hrow (K2.below q2 (by omega))) | (go_at_call 98; refine (LK.out w2 q2).mono ?_; rintro e w3 ⟨rfl, hb3⟩; have q3 : Below W3.heap.size W3 w3 := bchain q2 hb3; obtain ⟨bq0, bq1, bq2, bq3, bq4, bq5, bq6, bq7, bq8, bq9, bq10, bq11, bq12, bq13, bq14⟩ := qrow (K1.below q3 (by omega))))
            go_ret
            exact ⟨rfl, bchain hbW q3⟩
          · go_enter Tryz.func55, Tryz.ntmps55
            go_wp2_with (first | (go_at_call 97; refine (NK.out _).mono ?_; rintro e w2 ⟨rfl, hb2⟩; have q2 : Below W3.heap.size W3 w2 := (by rw [HW.out]; exact hb2); obtain ⟨aq0, aq1, aq2, aq3, aq4, aq5, aq6, aq7, aq8, aq9, aq10, aq11, aq12, aq13, aq14⟩ := qrow (K1.below q2 (by omega)); obtain ⟨ar0, ar1, ar2, ar3, ar4, ar5, ar6, ar7, ar8, ar9⟩ := hrow (K2.below q2 (by omega))) | (go_at_call 98; refine (LK.out w2 q2).mono ?_; rintro e w3 ⟨rfl, hb3⟩; have q3 : Below W3.heap.size W3 w3 := bchain q2 hb3; obtain ⟨bq0, bq1, bq2, bq3, bq4, bq5, bq6, bq7, bq8, bq9, bq10, bq11, bq12, bq13, bq14⟩ := qrow (K1.below q3 (by omega))))
            go_loopw [55] (fun i wr => ∃ j : Nat, j ≤ ks.length ∧ i = .int .i64 j ∧ Below W3.heap.size W3 wr ∧ goodsBy (locB n false) (ks.take j) = true) (fun i _ => ks.length - (intOf i).toNat)
            case atStart => exact ⟨0, Nat.zero_le _, rfl, q3, rfl⟩
            case round =>
              obtain ⟨j, hj, rfl, hbel, hall⟩ := hrel
              have HA := Lib.hid hall
              clear hall
              rcases Nat.lt_or_ge j ks.length with hlt | hge
              · obtain ⟨g, o, rfl, hg, hc⟩ := H4.out (by intro h; subst h; simp at hlt)
                obtain ⟨x, hx1⟩ : ∃ x, ks[j]? = some x := ⟨_, List.getElem?_eq_getElem hlt⟩
                have hbw := bchain hbW hbel
                have hq := (H5.out j x hx1).kept hbw hB
                obtain ⟨B1, B2, B3, B4, d1, d2, d3, d4, e, x0, x1, x2, x3, x4, x5, x6, x7, x8, x9, x10, x11, x12, x13, x14⟩ := kid_cells hq (fun j' u hu => (hbw.cell (p := ⟨g, o + j * 15 + j', none⟩) (Nat.lt_of_lt_of_le hg hB)).trans (hc j hlt j' u hu))
                have IH2 := Lib.hid (fun W hW => IH.out W hW j x hx1)
                rw [e] at IH2
                unfold qcells at IH2
                have HT := Lib.hid (goods_take hx1 HA.out)
                have HBD := Lib.hid (fun h => goods_bad (P := locB n false) hx1 h)
                have hlt2 : (j : Int) < 9223372036854775807 := by omega
                have i2 : (j : Int) < (ks.length : Int) := by omega
                have LL := fun u => load_blk (P := Tryz.prog) (ty := 86) _ ((K0.below hbel (by omega)).alloc u) kindsUnd rfl hKs
                have LD := load_blk (P := Tryz.prog) (ty := 29) _ (Blk.new wr 29 #[.int .i64 x.h.kind, .int .i64 x.h.field, .string x.h.text, .slice B1 x.h.terms.length d1, .slice B2 x.h.offs.length d2, .int .i64 x.h.n, .int .u64 x.h.weight, .bool x.h.lo.op, .bool x.h.lo.inn, .string x.h.lo.text, .bool x.h.hi.op, .bool x.h.hi.inn, .string x.h.hi.text, .slice B3 x.h.occur.length d3, .slice B4 x.kids.length d4]) Tryz.underlying29 rfl qInfo
                have HBW2 := Lib.hid hbw
                have HBL := Lib.hid hbel
                clear hc hq e hx1 hbw hbel
                go_upto_region 11 with fail
                go_step
                with_reducible refine wpList_load ⟨w.heap.size, 0, none⟩ (.agg K) ?_ ?_ ?_
                · rfl
                · exact LL _
                simp only [Act.put, Base.s1, Base.s2, Base.s3]
                with_reducible refine wpList_load ⟨wr.heap.size, 0, none⟩ (.agg #[.int .i64 x.h.kind, .int .i64 x.h.field, .string x.h.text, .slice B1 x.h.terms.length d1, .slice B2 x.h.offs.length d2, .int .i64 x.h.n, .int .u64 x.h.weight, .bool x.h.lo.op, .bool x.h.lo.inn, .string x.h.lo.text, .bool x.h.hi.op, .bool x.h.hi.inn, .string x.h.hi.text, .slice B3 x.h.occur.length d3, .slice B4 x.kids.length d4]) ?_ ?_ ?_
                · rfl
                · exact LD
                simp only [Act.put, Base.s1, Base.s2, Base.s3]
                clear LL LD
                cases hgx : goodBy (locB n false) x
                · go_wp2_with (go_at_call 55; refine (IH2.out _ (Below.alloc HBW2.out (Nat.le_trans hbW.size HBL.out.size) _)).mono ?_; rintro e w6 ⟨rfl, hb6⟩; rw [show good n false x = false from hgx])
                  go_ret
                  rw [HBD.out hgx]
                  exact ⟨by simp, bchain (Below.alloc HBW2.out (Nat.le_trans hbW.size HBL.out.size) _) hb6⟩
                · go_wp2_with (go_at_call 55; refine (IH2.out _ (Below.alloc HBW2.out (Nat.le_trans hbW.size HBL.out.size) _)).mono ?_; rintro e w6 ⟨rfl, hb6⟩; rw [show good n false x = true from hgx])
                  go_roundw
                  case rel => exact ⟨j + 1, by omega, by go_num, bchain (Below.alloc HBL.out HBL.out.size _) hb6, HT.out.trans hgx⟩
                  case measure => simp [intOf]; omega
              · have hj' : j = ks.length := by omega
                have HO := Lib.hid (show goodsBy (locB n false) ks = true by have := HA.out; rw [hj', List.take_length] at this; exact this)
                have c14 : wr.cell? ⟨w.heap.size + 1, 14, none⟩ = some (.slice A4 ks.length c4) := (K1.below hbel (by omega)).cell 14
                clear hj'
                go_wp2_with fail
                go_ret
                rw [HO.out]
                exact ⟨rfl, bchain hbW hbel⟩
    · have hf : (locB n false hd ks.length && goodsBy (locB n false) ks) = false := by
        have e1 : (decide (1 ≤ hd.kind) && decide (hd.kind ≤ 14)) = false := by
          rw [Bool.and_eq_false_iff, decide_eq_false_iff_not, decide_eq_false_iff_not]
          omega
        unfold locB
        rw [e1]
        simp
      rw [hf]
      clear hf ih h1 h2 h3 h4 h5 hw hkb htz hkt
      rcases (by omega : hd.kind < 1 ∨ (1 ≤ hd.kind ∧ 14 < hd.kind)) with hx | ⟨hx, hy⟩
      · have b1 : decide (hd.kind < 1) = true := decide_eq_true hx
        go_enter Tryz.func55, Tryz.ntmps55
        go_wp2_with fail
        go_ret
        exact ⟨rfl, (by (repeat (first | exact Below.refl _ _ | assumption | refine balloc ?_ _ | refine bdrew ?_ | refine bdrewN ?_ _ | refine bchain ?_ (by assumption))))⟩
      · have b1 : decide (hd.kind < 1) = false := decide_eq_false (by omega)
        have b2 : decide ((14 : Int) < hd.kind) = true := decide_eq_true hy
        go_enter Tryz.func55, Tryz.ntmps55
        go_wp2_with fail
        go_ret
        exact ⟨rfl, (by (repeat (first | exact Below.refl _ _ | assumption | refine balloc ?_ _ | refine bdrew ?_ | refine bdrewN ?_ _ | refine bchain ?_ (by assumption))))⟩
theorem good_any (q : Qry) (cs : List Value) (B : Nat) (n : Int) (w : World) (hq : QVal w B cs q) (hB : B ≤ w.heap.size) (hbk : bulk q ≤ 1099511627776) :
    Calls Tryz.prog 55 #[.agg kindsA, .agg cs.toArray, .int .i64 n, .bool false] w fun e w' => e = .returned (.bool (good n false q)) ∧ Below w.heap.size w w' := good_txt q cs B n w hq hB (txt_bulk q hbk)
end Go.Proofs.YtkcfgcdlnojaeaaGreatDoor.GoodAll
