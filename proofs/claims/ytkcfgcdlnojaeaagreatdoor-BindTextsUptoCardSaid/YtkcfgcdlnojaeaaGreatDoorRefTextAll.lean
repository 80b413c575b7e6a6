/-
  The walks of the reference's text and Text over whatever query.
-/
import Derived.Test.YtkcfgcdlnojaeaaGreatDoorRefText1
import Derived.Test.YtkcfgcdlnojaeaaGreatDoorRefText5
import Derived.Test.YtkcfgcdlnojaeaaGreatDoorDRefT
import Derived.Test.YtkcfgcdlnojaeaaGreatDoorRefGood
import Derived.Test.YtkcfgcdlnojaeaaGreatDoorTextAll
set_option linter.unusedVariables false
set_option linter.unusedSimpArgs false
namespace Go.Proofs.YtkcfgcdlnojaeaaGreatDoor.RefTextAll
set_option maxRecDepth 100000
open Go.RowKit Go.PlainAid Base Query QrySize TextPlain TextLine TextOne LineBase RefGood TextAll

theorem rtext_any (q : Qry) : good 16 false q = true → ∀ (cs : List Value) (B : Nat) (w : World), QVal w B cs q → B ≤ w.heap.size → bulk q ≤ 1099511627776 →
    Calls Tryz.prog 48 #[.agg cs.toArray] w fun e w' => e = .returned (.string ⟨(lineL q).toArray⟩) ∧ Below w.heap.size w w' := by
  induction q using Qry.ind with
  | h q ih =>
    intro hg cs B w hq hB hbk
    have hwt := wt_of hq
    obtain ⟨hd, ks, A1, A2, A3, A4, c1, c2, c3, c4, kc, hw, hk, h1, h2, h3, h4, h5⟩ := hq
    simp only [Qry.kids] at ih
    unfold good at hg
    simp only [goodBy, goodsBy_all, Bool.and_eq_true, List.all_eq_true] at hg hwt
    obtain ⟨hk1, hk2, ok⟩ := ok_of hg.1
    have hb0 := hbk
    simp only [bulk] at hb0
    have leaf : (hasOf hd.kind.toNat).k = 0 → ks = [] := fun e => List.eq_nil_of_length_eq_zero (ok.k0 e)
    have s1 := h1.mono hB
    have s2 := h2.mono hB
    have s3 := h3.mono hB
    have IH : ∀ i k, ks[i]? = some k → ∀ W, Below w.heap.size w W → Calls Tryz.prog 48 #[.agg (kc i).toArray] W fun e w' => e = .returned (.string ⟨(lineL k).toArray⟩) ∧ Below W.heap.size W w' := fun i k hik W hW =>
      ih k (List.mem_of_getElem? hik) (hg.2 k (List.mem_of_getElem? hik)) _ B W ((h5 i k hik).kept hW hB) (Nat.le_trans hB hW.size) (by have := bulks_take hik; omega)
    have hkl : ∀ k ∈ ks, (lineL k).length + 4 ≤ 128 * bulk k := fun k hm => line_len (n := 16) (p := false) (by decide) k (hg.2 k hm) (hwt.2 k hm)
    obtain ⟨k, hkk⟩ : ∃ k, hd.kind = k := ⟨_, rfl⟩
    rw [hkk] at hk1 hk2
    rcases (by omega : k = 1 ∨ k = 2 ∨ k = 3 ∨ k = 4 ∨ k = 5 ∨ k = 6 ∨ k = 7 ∨ k = 8 ∨ k = 9 ∨ k = 10 ∨ k = 11 ∨ k = 12 ∨ k = 13 ∨ k = 14) with rfl | rfl | rfl | rfl | rfl | rfl | rfl | rfl | rfl | rfl | rfl | rfl | rfl | rfl
    · obtain rfl := leaf (by rw [hkk]; rfl)
      exact RefText1.rtext_k1 hd hkk hw hg.1 A1 A2 A3 A4 c1 c2 c3 c4 w (by omega)
    · obtain rfl := leaf (by rw [hkk]; rfl)
      exact RefText1.rtext_k2 hd hkk hw hg.1 A1 A2 A3 A4 c1 c2 c3 c4 w (by omega)
    · obtain rfl := leaf (by rw [hkk]; rfl)
      exact RefText1.rtext_k3 hd hkk hw hg.1 A1 A2 A3 A4 c1 c2 c3 c4 w (by omega)
    · obtain rfl := leaf (by rw [hkk]; rfl)
      exact RefText1.rtext_k4 hd hkk hw hg.1 A1 A2 A3 A4 c1 c2 c3 c4 w (by omega)
    · obtain rfl := leaf (by rw [hkk]; rfl)
      exact RefText5.rtext_k5 hd hkk hw hg.1 A1 A2 A3 A4 c1 c2 c3 c4 w (by omega) s1 s2
    · obtain rfl := leaf (by rw [hkk]; rfl)
      exact RefText1.rtext_k6 hd hkk hw hg.1 A1 A2 A3 A4 c1 c2 c3 c4 w (by omega)
    · obtain rfl := leaf (by rw [hkk]; rfl)
      exact RefText1.rtext_k7 hd hkk hw hg.1 A1 A2 A3 A4 c1 c2 c3 c4 w (by omega)
    · obtain rfl := leaf (by rw [hkk]; rfl)
      exact RefText1.rtext_k8 hd hkk hw hg.1 A1 A2 A3 A4 c1 c2 c3 c4 w (by omega)
    · obtain rfl := leaf (by rw [hkk]; rfl)
      exact RefText9.rtext_k9 hd hkk hw hg.1 A1 A2 A3 A4 c1 c2 c3 c4 w (by omega)
    · exact RefText10.rtext_k10 hd ks hkk hw hg.1 A1 A2 A3 A4 c1 c2 c3 c4 w B hB kc hk s3 h4 h5 IH hkl hbk
    · exact RefText11.rtext_k11 hd ks hkk hw hg.1 A1 A2 A3 A4 c1 c2 c3 c4 w B hB kc hk s3 h4 h5 IH hkl hbk
    · exact RefText12.rtext_k12 hd ks hkk hw hg.1 A1 A2 A3 A4 c1 c2 c3 c4 w B hB kc hk s3 h4 h5 IH hkl hbk
    · exact RefText12.rtext_k13 hd ks hkk hw hg.1 A1 A2 A3 A4 c1 c2 c3 c4 w B hB kc hk s3 h4 h5 IH hkl hbk
    · exact RefText12.rtext_k14 hd ks hkk hw hg.1 A1 A2 A3 A4 c1 c2 c3 c4 w B hB kc hk s3 h4 h5 IH hkl hbk

set_option maxHeartbeats 2000000 in
theorem rText_any (q : Qry) (cs : List Value) (B : Nat) (w : World) (hq : QVal w B cs q) (hB : B ≤ w.heap.size) (hbk : bulk q ≤ 1099511627776) :
    Calls Tryz.prog 14 #[.agg cs.toArray] w fun e w' => e = .returned (.string ⟨(textL q).toArray⟩) ∧ Below w.heap.size w w' := by
  have RC := Lib.hid (fun W (hW : Below w.heap.size w W) => rcheck_any q cs B 16 W (hq.kept hW hB) (Nat.le_trans hB hW.size) hbk)
  have RT := Lib.hid (fun hg W (hW : Below w.heap.size w W) => rtext_any q hg cs B W (hq.kept hW hB) (Nat.le_trans hB hW.size) hbk)
  obtain ⟨r, hr⟩ : ∃ r, r = good 16 false q := ⟨_, rfl⟩
  unfold textL
  rw [← hr] at RC RT ⊢
  obtain ⟨W1, hW1⟩ : ∃ W, W = w.alloc (.cells cs.toArray 29) := ⟨_, rfl⟩
  have K1 : Blk W1 w.heap.size 29 cs.toArray := by rw [hW1]; exact Blk.new w _ _
  have hsz : w.heap.size + 1 = W1.heap.size := by rw [hW1]; simp
  have hbW : Below w.heap.size w W1 := by rw [hW1]; (repeat (first | exact Below.refl _ _ | assumption | refine balloc ?_ _ | refine bdrew ?_ | refine bdrewN ?_ _ | refine bchain ?_ (by assumption)))
  have HW := Lib.hid hW1
  have HZ := Lib.hid hsz
  obtain ⟨hd, ks, A1, A2, A3, A4, c1, c2, c3, c4, kc, hw, hk, h1, h2, h3, h4, h5⟩ := hq
  clear hr hw hk h1 h2 h3 h4 h5 hbk hW1 hsz
  cases r
  · go_enter Tryz.func14, Tryz.ntmps14
    go_wp2_with (go_at_call 28; refine (RC.out _ (by (repeat (first | exact Below.refl _ _ | assumption | refine balloc ?_ _ | refine bdrew ?_ | refine bdrewN ?_ _ | refine bchain ?_ (by assumption))))).mono ?_; rintro e w2 ⟨rfl, hb2⟩)
    go_ret
    exact ⟨rfl, (by (repeat (first | exact Below.refl _ _ | assumption | refine balloc ?_ _ | refine bdrew ?_ | refine bdrewN ?_ _ | refine bchain ?_ (by assumption))))⟩
  · have RT2 := Lib.hid (RT.out rfl)
    clear RT
    go_enter Tryz.func14, Tryz.ntmps14
    go_wp2_with (first | (go_at_call 28; refine (RC.out _ (by (repeat (first | exact Below.refl _ _ | assumption | refine balloc ?_ _ | refine bdrew ?_ | refine bdrewN ?_ _ | refine bchain ?_ (by assumption))))).mono ?_; rintro e w2 ⟨rfl, hb2⟩; have q2 : Below W1.heap.size W1 w2 := (by rw [HW.out]; exact hb2); have hw2 : Below w.heap.size w w2 := bchain hbW q2; have y0 : w2.cell? ⟨w.heap.size, 0, none⟩ = some (.int .i64 hd.kind) := (K1.below q2 (by have := HZ.out; omega)).cell 0; have y1 : w2.cell? ⟨w.heap.size, 1, none⟩ = some (.int .i64 hd.field) := (K1.below q2 (by have := HZ.out; omega)).cell 1; have y2 : w2.cell? ⟨w.heap.size, 2, none⟩ = some (.string hd.text) := (K1.below q2 (by have := HZ.out; omega)).cell 2; have y3 : w2.cell? ⟨w.heap.size, 3, none⟩ = some (.slice A1 hd.terms.length c1) := (K1.below q2 (by have := HZ.out; omega)).cell 3; have y4 : w2.cell? ⟨w.heap.size, 4, none⟩ = some (.slice A2 hd.offs.length c2) := (K1.below q2 (by have := HZ.out; omega)).cell 4; have y5 : w2.cell? ⟨w.heap.size, 5, none⟩ = some (.int .i64 hd.n) := (K1.below q2 (by have := HZ.out; omega)).cell 5; have y6 : w2.cell? ⟨w.heap.size, 6, none⟩ = some (.int .u64 hd.weight) := (K1.below q2 (by have := HZ.out; omega)).cell 6; have y7 : w2.cell? ⟨w.heap.size, 7, none⟩ = some (.bool hd.lo.op) := (K1.below q2 (by have := HZ.out; omega)).cell 7; have y8 : w2.cell? ⟨w.heap.size, 8, none⟩ = some (.bool hd.lo.inn) := (K1.below q2 (by have := HZ.out; omega)).cell 8; have y9 : w2.cell? ⟨w.heap.size, 9, none⟩ = some (.string hd.lo.text) := (K1.below q2 (by have := HZ.out; omega)).cell 9; have y10 : w2.cell? ⟨w.heap.size, 10, none⟩ = some (.bool hd.hi.op) := (K1.below q2 (by have := HZ.out; omega)).cell 10; have y11 : w2.cell? ⟨w.heap.size, 11, none⟩ = some (.bool hd.hi.inn) := (K1.below q2 (by have := HZ.out; omega)).cell 11; have y12 : w2.cell? ⟨w.heap.size, 12, none⟩ = some (.string hd.hi.text) := (K1.below q2 (by have := HZ.out; omega)).cell 12; have y13 : w2.cell? ⟨w.heap.size, 13, none⟩ = some (.slice A3 hd.occur.length c3) := (K1.below q2 (by have := HZ.out; omega)).cell 13; have y14 : w2.cell? ⟨w.heap.size, 14, none⟩ = some (.slice A4 ks.length c4) := (K1.below q2 (by have := HZ.out; omega)).cell 14) | (go_at_call 48; refine (RT2.out w2 hw2).mono ?_; rintro e w3 ⟨rfl, hb3⟩))
    go_ret
    exact ⟨rfl, bchain hw2 hb3⟩
end Go.Proofs.YtkcfgcdlnojaeaaGreatDoor.RefTextAll
