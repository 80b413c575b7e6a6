/-
  The walks of the reference's good and Check over whatever query.
-/
import Derived.Test.YtkcfgcdlnojaeaaGreatDoorRefBare1
import Derived.Test.YtkcfgcdlnojaeaaGreatDoorRefBare2
import Derived.Test.YtkcfgcdlnojaeaaGreatDoorRefBare3
import Derived.Test.YtkcfgcdlnojaeaaGreatDoorRefBare4
import Derived.Test.YtkcfgcdlnojaeaaGreatDoorRefAsked
import Derived.Test.YtkcfgcdlnojaeaaGreatDoorRefGood1
import Derived.Test.YtkcfgcdlnojaeaaGreatDoorRefGood2
import Derived.Test.YtkcfgcdlnojaeaaGreatDoorRefGood5
import Derived.Test.YtkcfgcdlnojaeaaGreatDoorDNumA
set_option linter.unusedVariables false
set_option linter.unusedSimpArgs false
namespace Go.Proofs.YtkcfgcdlnojaeaaGreatDoor.RefGood
set_option maxRecDepth 100000
open Go.RowKit Go.PlainAid Base Query QrySize BindBase TextPlain TextLine TextOne Numbers Lists GoodPat RefBare1 RefBare2 RefBare3 RefBare4 RefAsked LineBase RefGood1 RefGood2 RefGood5

theorem bare_any (hd : Head) (hk : 1 ≤ hd.kind ∧ hd.kind ≤ 14) (nk : Nat) (A1 A2 A3 A4 : Option Addr) (c1 c2 c3 c4 : Nat) (w : World) :
    Calls Tryz.prog 105 #[.agg (qcells hd nk A1 A2 A3 A4 c1 c2 c3 c4)] w fun e w' => e = .returned (.bool (bareB hd nk)) ∧ Below w.heap.size w w' := by
  rcases (by omega : hd.kind = 1 ∨ hd.kind = 2 ∨ hd.kind = 3 ∨ hd.kind = 4 ∨ hd.kind = 5 ∨ hd.kind = 6 ∨ hd.kind = 7 ∨ hd.kind = 8 ∨ hd.kind = 9 ∨ hd.kind = 10 ∨ hd.kind = 11 ∨ hd.kind = 12 ∨ hd.kind = 13 ∨ hd.kind = 14) with h | h | h | h | h | h | h | h | h | h | h | h | h | h
  · exact bare_1 hd h nk A1 A2 A3 A4 c1 c2 c3 c4 w
  · exact bare_2 hd h nk A1 A2 A3 A4 c1 c2 c3 c4 w
  · exact bare_3 hd h nk A1 A2 A3 A4 c1 c2 c3 c4 w
  · exact bare_4 hd h nk A1 A2 A3 A4 c1 c2 c3 c4 w
  · exact bare_5 hd h nk A1 A2 A3 A4 c1 c2 c3 c4 w
  · exact bare_6 hd h nk A1 A2 A3 A4 c1 c2 c3 c4 w
  · exact bare_7 hd h nk A1 A2 A3 A4 c1 c2 c3 c4 w
  · exact bare_8 hd h nk A1 A2 A3 A4 c1 c2 c3 c4 w
  · exact bare_9 hd h nk A1 A2 A3 A4 c1 c2 c3 c4 w
  · exact bare_10 hd h nk A1 A2 A3 A4 c1 c2 c3 c4 w
  · exact bare_11 hd h nk A1 A2 A3 A4 c1 c2 c3 c4 w
  · exact bare_12 hd h nk A1 A2 A3 A4 c1 c2 c3 c4 w
  · exact bare_13 hd h nk A1 A2 A3 A4 c1 c2 c3 c4 w
  · exact bare_14 hd h nk A1 A2 A3 A4 c1 c2 c3 c4 w

set_option maxHeartbeats 16000000 in
theorem rgood_any (q : Qry) : ∀ (cs : List Value) (B : Nat) (n : Int) (w : World), QVal w B cs q → B ≤ w.heap.size → bulk q ≤ 1099511627776 →
    Calls Tryz.prog 61 #[.agg cs.toArray, .int .i64 n, .bool false] w fun e w' => e = .returned (.bool (goodBy (rlocB n false) q)) ∧ Below w.heap.size w w' := by
  induction q using Qry.ind with
  | h q ih =>
    intro cs B n w hq hB hbk
    obtain ⟨hd, ks, A1, A2, A3, A4, c1, c2, c3, c4, kc, hw, hkl, h1, h2, h3, h4, h5⟩ := hq
    simp only [Qry.kids] at ih
    simp only [bulk] at hbk
    have htz : hd.text.size ≤ hbulk hd := by unfold hbulk; omega
    have hkb : ∀ i k, ks[i]? = some k → bulk k ≤ 1099511627776 := fun i k hk => by have := bulks_take hk; omega
    have hkl' : ks.length ≤ 9223372036854775807 := hkl
    simp only [goodBy]
    by_cases hk : 1 ≤ hd.kind ∧ hd.kind ≤ 14
    · have BK := Lib.hid (fun W => bare_any hd hk ks.length A1 A2 A3 A4 c1 c2 c3 c4 W)
      have AT := fun W (s2 : Slc W W.heap.size A2 (ints hd.offs)) (s3 : Slc W W.heap.size A3 (ints hd.occur)) => asked_any hd hk hw (by omega) ks.length A1 A2 A3 A4 c1 c2 c3 c4 W s2 s3
      have IH := Lib.hid (fun W (hW : Below w.heap.size w W) (i : Nat) (x : Qry) (hx : ks[i]? = some x) => ih x (List.mem_of_getElem? hx) _ B n W ((h5 i x hx).kept hW hB) (Nat.le_trans hB hW.size) (hkb i x hx))
      obtain ⟨bb, hbb⟩ : ∃ b, b = bareB hd ks.length := ⟨_, rfl⟩
      obtain ⟨ab, hab⟩ : ∃ b, b = askB hd ks.length := ⟨_, rfl⟩
      have hloc : rlocB n false hd ks.length = ((!(decide (3 ≤ hd.kind) && decide (hd.kind ≤ 9)) || inR hd.field n) && bb && ab) := by
        unfold rlocB
        rw [← hbb, ← hab, decide_eq_true hk.1, decide_eq_true hk.2]
        simp
      rw [hloc]
      simp only [← hbb] at BK
      simp only [← hab] at AT
      clear hbb hab hloc
      obtain ⟨k, field, text, terms, offs, qn, weight, lo, hi, occur⟩ := hd
      simp only at hk htz h2 h3 BK AT ⊢
      obtain ⟨W1, hW1⟩ : ∃ W, W = w.alloc (.cells (qcells ⟨k, field, text, terms, offs, qn, weight, lo, hi, occur⟩ ks.length A1 A2 A3 A4 c1 c2 c3 c4) 29) := ⟨_, rfl⟩
      have K1 : Blk W1 w.heap.size 29 (qcells ⟨k, field, text, terms, offs, qn, weight, lo, hi, occur⟩ ks.length A1 A2 A3 A4 c1 c2 c3 c4) := by rw [hW1]; exact Blk.new w _ _
      have hsz : w.heap.size + 1 = W1.heap.size := by rw [hW1]; simp
      have hbW : Below w.heap.size w W1 := by rw [hW1]; (repeat (first | exact Below.refl _ _ | assumption | refine balloc ?_ _ | refine bdrew ?_ | refine bdrewN ?_ _ | refine bchain ?_ (by assumption)))
      have AK := Lib.hid (fun W (hW : Below W1.heap.size W1 W) => AT W ((h2.below (bchain hbW hW) hB).mono (Nat.le_trans hB (bchain hbW hW).size)) ((h3.below (bchain hbW hW) hB).mono (Nat.le_trans hB (bchain hbW hW).size)))
      have HW := Lib.hid hW1
      have HZ := Lib.hid hsz
      unfold qcells at BK AK K1 HW
      have b1 : decide (k < 1) = false := decide_eq_false (by omega)
      have b2 : decide ((14 : Int) < k) = false := decide_eq_false (by omega)
      have H5 := Lib.hid h5
      have H4 := Lib.hid h4
      have hcase : (decide (3 ≤ k) = false ∧ (!(decide (3 ≤ k) && decide (k ≤ 9)) || inR field n) = true) ∨ (decide (3 ≤ k) = true ∧ decide (k ≤ 9) = false ∧ (!(decide (3 ≤ k) && decide (k ≤ 9)) || inR field n) = true) ∨ (decide (3 ≤ k) = true ∧ decide (k ≤ 9) = true ∧ decide (field < 0) = true ∧ (!(decide (3 ≤ k) && decide (k ≤ 9)) || inR field n) = false) ∨ (decide (3 ≤ k) = true ∧ decide (k ≤ 9) = true ∧ decide (field < 0) = false ∧ decide (n ≤ field) = true ∧ (!(decide (3 ≤ k) && decide (k ≤ 9)) || inR field n) = false) ∨ (decide (3 ≤ k) = true ∧ decide (k ≤ 9) = true ∧ decide (field < 0) = false ∧ decide (n ≤ field) = false ∧ (!(decide (3 ≤ k) && decide (k ≤ 9)) || inR field n) = true) := by
        unfold inR
        by_cases q1 : 3 ≤ k <;> by_cases q2 : k ≤ 9 <;> by_cases q3 : field < 0 <;> by_cases q4 : n ≤ field <;> simp [q1, q2, q3, q4] <;> omega
      clear AT hW1 hsz h1 h2 h3 h4 h5 hw ih hkb hbk htz hk
      generalize (!(decide (3 ≤ k) && decide (k ≤ 9)) || inR field n) = fa at hcase ⊢
      rcases hcase with ⟨e1, rfl⟩ | ⟨e1, e2, rfl⟩ | ⟨e1, e2, e3, rfl⟩ | ⟨e1, e2, e3, e4, rfl⟩ | ⟨e1, e2, e3, e4, rfl⟩
      · cases bb
        · cases ab
          · exact rg_1_false_false k field qn weight n text terms offs lo hi occur ks kc A1 A2 A3 A4 c1 c2 c3 c4 B w W1 hB hkl' K1 HZ hbW HW BK AK H4 H5 IH b1 b2 e1
          · exact rg_1_false_true k field qn weight n text terms offs lo hi occur ks kc A1 A2 A3 A4 c1 c2 c3 c4 B w W1 hB hkl' K1 HZ hbW HW BK AK H4 H5 IH b1 b2 e1
        · cases ab
          · exact rg_1_true_false k field qn weight n text terms offs lo hi occur ks kc A1 A2 A3 A4 c1 c2 c3 c4 B w W1 hB hkl' K1 HZ hbW HW BK AK H4 H5 IH b1 b2 e1
          · exact rg_1_true_true k field qn weight n text terms offs lo hi occur ks kc A1 A2 A3 A4 c1 c2 c3 c4 B w W1 hB hkl' K1 HZ hbW HW BK AK H4 H5 IH b1 b2 e1
      · cases bb
        · cases ab
          · exact rg_2_false_false k field qn weight n text terms offs lo hi occur ks kc A1 A2 A3 A4 c1 c2 c3 c4 B w W1 hB hkl' K1 HZ hbW HW BK AK H4 H5 IH b1 b2 e1 e2
          · exact rg_2_false_true k field qn weight n text terms offs lo hi occur ks kc A1 A2 A3 A4 c1 c2 c3 c4 B w W1 hB hkl' K1 HZ hbW HW BK AK H4 H5 IH b1 b2 e1 e2
        · cases ab
          · exact rg_2_true_false k field qn weight n text terms offs lo hi occur ks kc A1 A2 A3 A4 c1 c2 c3 c4 B w W1 hB hkl' K1 HZ hbW HW BK AK H4 H5 IH b1 b2 e1 e2
          · exact rg_2_true_true k field qn weight n text terms offs lo hi occur ks kc A1 A2 A3 A4 c1 c2 c3 c4 B w W1 hB hkl' K1 HZ hbW HW BK AK H4 H5 IH b1 b2 e1 e2
      · go_enter Tryz.func61, Tryz.ntmps61
        go_wp2_with fail
        go_ret
        exact ⟨rfl, (by (repeat (first | exact Below.refl _ _ | assumption | refine balloc ?_ _ | refine bdrew ?_ | refine bdrewN ?_ _ | refine bchain ?_ (by assumption))))⟩
      · go_enter Tryz.func61, Tryz.ntmps61
        go_wp2_with fail
        go_ret
        exact ⟨rfl, (by (repeat (first | exact Below.refl _ _ | assumption | refine balloc ?_ _ | refine bdrew ?_ | refine bdrewN ?_ _ | refine bchain ?_ (by assumption))))⟩
      · cases bb
        · cases ab
          · exact rg_5_false_false k field qn weight n text terms offs lo hi occur ks kc A1 A2 A3 A4 c1 c2 c3 c4 B w W1 hB hkl' K1 HZ hbW HW BK AK H4 H5 IH b1 b2 e1 e2 e3 e4
          · exact rg_5_false_true k field qn weight n text terms offs lo hi occur ks kc A1 A2 A3 A4 c1 c2 c3 c4 B w W1 hB hkl' K1 HZ hbW HW BK AK H4 H5 IH b1 b2 e1 e2 e3 e4
        · cases ab
          · exact rg_5_true_false k field qn weight n text terms offs lo hi occur ks kc A1 A2 A3 A4 c1 c2 c3 c4 B w W1 hB hkl' K1 HZ hbW HW BK AK H4 H5 IH b1 b2 e1 e2 e3 e4
          · exact rg_5_true_true k field qn weight n text terms offs lo hi occur ks kc A1 A2 A3 A4 c1 c2 c3 c4 B w W1 hB hkl' K1 HZ hbW HW BK AK H4 H5 IH b1 b2 e1 e2 e3 e4
    · have hf : (rlocB n false hd ks.length && goodsBy (rlocB n false) ks) = false := by
        have e1 : (decide (1 ≤ hd.kind) && decide (hd.kind ≤ 14)) = false := by
          rw [Bool.and_eq_false_iff, decide_eq_false_iff_not, decide_eq_false_iff_not]
          omega
        unfold rlocB
        rw [e1]
        simp
      rw [hf]
      clear hf ih h1 h2 h3 h4 h5 hw hkb htz hbk
      rcases (by omega : hd.kind < 1 ∨ (1 ≤ hd.kind ∧ 14 < hd.kind)) with hx | ⟨hx, hy⟩
      · have b1 : decide (hd.kind < 1) = true := decide_eq_true hx
        go_enter Tryz.func61, Tryz.ntmps61
        go_wp2_with fail
        go_ret
        exact ⟨rfl, (by (repeat (first | exact Below.refl _ _ | assumption | refine balloc ?_ _ | refine bdrew ?_ | refine bdrewN ?_ _ | refine bchain ?_ (by assumption))))⟩
      · have b1 : decide (hd.kind < 1) = false := decide_eq_false (by omega)
        have b2 : decide ((14 : Int) < hd.kind) = true := decide_eq_true hy
        go_enter Tryz.func61, Tryz.ntmps61
        go_wp2_with fail
        go_ret
        exact ⟨rfl, (by (repeat (first | exact Below.refl _ _ | assumption | refine balloc ?_ _ | refine bdrew ?_ | refine bdrewN ?_ _ | refine bchain ?_ (by assumption))))⟩

set_option maxHeartbeats 1000000 in
theorem rcheck_any (q : Qry) (cs : List Value) (B : Nat) (n : Int) (w : World) (hq : QVal w B cs q) (hB : B ≤ w.heap.size) (hbk : bulk q ≤ 1099511627776) :
    Calls Tryz.prog 28 #[.agg cs.toArray, .int .i64 n, .bool false] w fun e w' => e = .returned (.int .i64 (if good n false q then 0 else 18)) ∧ Below w.heap.size w w' := by
  have RG := Lib.hid (fun W (hW : Below w.heap.size w W) => rgood_any q cs B n W (hq.kept hW hB) (Nat.le_trans hB hW.size) hbk)
  obtain ⟨r, hr⟩ : ∃ r, r = good n false q := ⟨_, rfl⟩
  have e : goodBy (rlocB n false) q = r := by rw [hr, loc_eq]; rfl
  rw [e] at RG
  rw [← hr]
  obtain ⟨hd, ks, A1, A2, A3, A4, c1, c2, c3, c4, kc, hw, hkl, h1, h2, h3, h4, h5⟩ := hq
  clear e hr hw hkl h1 h2 h3 h4 h5
  cases r
  all_goals
    go_enter Tryz.func28, Tryz.ntmps28
    go_wp2_with (go_at_call 61; refine (RG.out _ (by (repeat (first | exact Below.refl _ _ | assumption | refine balloc ?_ _ | refine bdrew ?_ | refine bdrewN ?_ _ | refine bchain ?_ (by assumption))))).mono ?_; rintro e w2 ⟨rfl, hb2⟩)
    go_ret
    exact ⟨rfl, (by (repeat (first | exact Below.refl _ _ | assumption | refine balloc ?_ _ | refine bdrew ?_ | refine bdrewN ?_ _ | refine bchain ?_ (by assumption))))⟩
end Go.Proofs.YtkcfgcdlnojaeaaGreatDoor.RefGood
