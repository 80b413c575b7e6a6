/-
  The walks of the reference's good and Check over whatever query.
-/
import Derived.Test.YtfpikilhbkeajaaGreatDoorCRef
import Derived.Test.YtfpikilhbkeajaaGreatDoorRefGoodP1
import Derived.Test.YtfpikilhbkeajaaGreatDoorRefGoodP2
import Derived.Test.YtfpikilhbkeajaaGreatDoorRefGoodP5
import Derived.Test.YtfpikilhbkeajaaGreatDoorCText
set_option linter.unusedVariables false
set_option linter.unusedSimpArgs false
namespace Go.Proofs.YtfpikilhbkeajaaGreatDoor.RefGoodP
set_option maxRecDepth 100000
open Go.RowKit Go.PlainAid Base Query QrySize BindBase TextPlain Numbers Lists RefBare1 RefBare2 RefBare3 RefBare4 RefAsked RefGoodP1 RefGoodP2 RefGoodP5 LineBase

theorem bare_any (hd : Head) (hk : 1 ≤ hd.kind ∧ hd.kind ≤ 14) (hm : multi hd.kind = false) (nk : Nat) (A1 A2 A3 A4 : Option Addr) (c1 c2 c3 c4 : Nat) (w : World) :
    Calls Tryz.prog 85 #[.agg (qcells hd nk A1 A2 A3 A4 c1 c2 c3 c4)] w fun e w' => e = .returned (.bool (bareB hd nk)) ∧ Below w.heap.size w w' := by
  have hm2 : hd.kind ≠ 6 ∧ hd.kind ≠ 7 ∧ hd.kind ≠ 8 ∧ hd.kind ≠ 9 := by unfold multi at hm; simp at hm; omega
  rcases (by omega : hd.kind = 1 ∨ hd.kind = 2 ∨ hd.kind = 3 ∨ hd.kind = 4 ∨ hd.kind = 5 ∨ hd.kind = 10 ∨ hd.kind = 11 ∨ hd.kind = 12 ∨ hd.kind = 13 ∨ hd.kind = 14) with h | h | h | h | h | h | h | h | h | h
  · exact bare_1 hd h nk A1 A2 A3 A4 c1 c2 c3 c4 w
  · exact bare_2 hd h nk A1 A2 A3 A4 c1 c2 c3 c4 w
  · exact bare_3 hd h nk A1 A2 A3 A4 c1 c2 c3 c4 w
  · exact bare_4 hd h nk A1 A2 A3 A4 c1 c2 c3 c4 w
  · exact bare_5 hd h nk A1 A2 A3 A4 c1 c2 c3 c4 w
  · exact bare_10 hd h nk A1 A2 A3 A4 c1 c2 c3 c4 w
  · exact bare_11 hd h nk A1 A2 A3 A4 c1 c2 c3 c4 w
  · exact bare_12 hd h nk A1 A2 A3 A4 c1 c2 c3 c4 w
  · exact bare_13 hd h nk A1 A2 A3 A4 c1 c2 c3 c4 w
  · exact bare_14 hd h nk A1 A2 A3 A4 c1 c2 c3 c4 w

set_option maxHeartbeats 1000000 in
theorem multi_any (k : Int) (w : World) : Calls Tryz.prog 84 #[.int .i64 k] w fun e w' => e = .returned (.bool (multi k)) ∧ Below w.heap.size w w' := by
  have z : ∀ x y : Int, ((x = y) ∧ (x == y) = true) ∨ (x ≠ y ∧ (x == y) = false) := fun x y => by by_cases h : x = y <;> simp [h]
  rcases z k 6 with ⟨rfl, e6⟩ | ⟨h6, e6⟩
  · go_enter Tryz.func84, Tryz.ntmps84
    go_wp2_with fail
    go_ret
    exact ⟨rfl, (by exact Base.bel)⟩
  rcases z k 7 with ⟨rfl, e7⟩ | ⟨h7, e7⟩
  · go_enter Tryz.func84, Tryz.ntmps84
    go_wp2_with fail
    go_ret
    exact ⟨rfl, (by exact Base.bel)⟩
  rcases z k 8 with ⟨rfl, e8⟩ | ⟨h8, e8⟩
  · go_enter Tryz.func84, Tryz.ntmps84
    go_wp2_with fail
    go_ret
    exact ⟨rfl, (by exact Base.bel)⟩
  have e : multi k = (k == 9) := by unfold multi; rw [e6, e7, e8]; rfl
  rw [e]
  go_enter Tryz.func84, Tryz.ntmps84
  go_wp2_with fail
  go_ret
  exact ⟨rfl, (by exact Base.bel)⟩

set_option maxHeartbeats 16000000 in
theorem rgood_any (q : Qry) : ∀ (cs : List Value) (B : Nat) (n : Int) (w : World), QVal w B cs q → B ≤ w.heap.size →
    Calls Tryz.prog 61 #[.agg cs.toArray, .int .i64 n, .bool true] w fun e w' => e = .returned (.bool (goodBy (rlocB n true) q)) ∧ Below w.heap.size w w' := by
  induction q using Qry.ind with
  | h q ih =>
    intro cs B n w hq hB
    obtain ⟨hd, ks, A1, A2, A3, A4, c1, c2, c3, c4, kc, hw, hkl, h1, h2, h3, h4, h5⟩ := hq
    simp only [Qry.kids] at ih
    have hkl' : ks.length ≤ 9223372036854775807 := hkl
    simp only [goodBy]
    by_cases hk : 1 ≤ hd.kind ∧ hd.kind ≤ 14
    · by_cases hm : multi hd.kind = true
      · have hf : (rlocB n true hd ks.length && goodsBy (rlocB n true) ks) = false := by
          unfold rlocB
          rw [hm]
          simp
        rw [hf]
        have MU := Lib.hid (fun W => multi_any hd.kind W)
        rw [hm] at MU
        have b1 : decide (hd.kind < 1) = false := decide_eq_false (by omega)
        have b2 : decide ((14 : Int) < hd.kind) = false := decide_eq_false (by omega)
        clear hf ih h1 h2 h3 h4 h5 hw hk hm
        go_enter Tryz.func61, Tryz.ntmps61
        go_wp2_with (go_at_call 84; refine (MU.out _).mono ?_; rintro e w1 ⟨rfl, hb1⟩)
        go_ret
        exact ⟨rfl, (by exact Base.bel)⟩
      have hm : multi hd.kind = false := by simpa using hm
      have MU := Lib.hid (fun W => multi_any hd.kind W)
      rw [hm] at MU
      have BK := Lib.hid (fun W => bare_any hd hk hm ks.length A1 A2 A3 A4 c1 c2 c3 c4 W)
      have AT := fun W (s2 : Slc W W.heap.size A2 (ints hd.offs)) (s3 : Slc W W.heap.size A3 (ints hd.occur)) => asked_any hd hk hm hw ks.length A1 A2 A3 A4 c1 c2 c3 c4 W s2 s3
      have IH := Lib.hid (fun W (hW : Below w.heap.size w W) (i : Nat) (x : Qry) (hx : ks[i]? = some x) => ih x (List.mem_of_getElem? hx) _ B n W ((h5 i x hx).kept hW hB) (Nat.le_trans hB hW.size))
      obtain ⟨bb, hbb⟩ : ∃ b, b = bareB hd ks.length := ⟨_, rfl⟩
      obtain ⟨ab, hab⟩ : ∃ b, b = askB hd ks.length := ⟨_, rfl⟩
      have hloc : rlocB n true hd ks.length = ((!(decide (3 ≤ hd.kind) && decide (hd.kind ≤ 9)) || inR hd.field n) && bb && ab) := by
        unfold rlocB
        rw [← hbb, ← hab, decide_eq_true hk.1, decide_eq_true hk.2, hm]
        simp
      rw [hloc]
      simp only [← hbb] at BK
      simp only [← hab] at AT
      clear hbb hab hloc
      obtain ⟨k, field, text, terms, offs, qn, weight, lo, hi, occur⟩ := hd
      simp only at hk h2 h3 BK AT MU ⊢
      obtain ⟨W1, hW1⟩ : ∃ W, W = w.alloc (.cells (qcells ⟨k, field, text, terms, offs, qn, weight, lo, hi, occur⟩ ks.length A1 A2 A3 A4 c1 c2 c3 c4) 29) := ⟨_, rfl⟩
      have K1 : Blk W1 w.heap.size 29 (qcells ⟨k, field, text, terms, offs, qn, weight, lo, hi, occur⟩ ks.length A1 A2 A3 A4 c1 c2 c3 c4) := by rw [hW1]; exact Blk.new w _ _
      have hsz : w.heap.size + 1 = W1.heap.size := by rw [hW1]; simp
      have hbW : Below w.heap.size w W1 := by rw [hW1]; exact Base.bel
      have AK := Lib.hid (fun W (hW : Below W1.heap.size W1 W) => AT W ((h2.below (bchain hbW hW) hB).mono (Nat.le_trans hB (bchain hbW hW).size)) ((h3.below (bchain hbW hW) hB).mono (Nat.le_trans hB (bchain hbW hW).size)))
      have HW := Lib.hid hW1
      have HZ := Lib.hid hsz
      unfold qcells at BK AK K1 HW
      have b1 : decide (k < 1) = false := decide_eq_false (by omega)
      have b2 : decide ((14 : Int) < k) = false := decide_eq_false (by omega)
      have H5 := Lib.hid h5
      have H4 := Lib.hid h4
      have hcase : (decide (3 ≤ k) = false ∧ (!(decide (3 ≤ k) && decide (k ≤ 9)) || inR field n) = true) ∨ (decide (3 ≤ k) = true ∧ decide (k ≤ 9) = false ∧ (!(decide (3 ≤ k) && decide (k ≤ 9)) || inR field n) = true) ∨ (decide (3 ≤ k) = true ∧ decide (k ≤ 9) = true ∧ decide (field < 0) = true ∧ (!(decide (3 ≤ k) && decide (k ≤ 9)) || inR field n) = false) ∨ (decide (3 ≤ k) = true ∧ decide (k ≤ 9) = true ∧ decide (field < 0) = false ∧ decide (n ≤ field) = true ∧ (!(decide (3 ≤ k) && decide (k ≤ 9)) || inR field n) = false) ∨ (decide (3 ≤ k) = true ∧ decide (k ≤ 9) = true ∧ decide (field < 0) = false ∧ decide (n ≤ field) = false ∧ (!(decide (3 ≤ k) && decide (k ≤ 9)) || inR field n) = true) := by
        unfold inR
        by_cases q1 : 3 ≤ k <;> by_cases q2 : k ≤ 9 <;> by_cases q3 : field < 0 <;> by_cases q4 : n ≤ field <;> simp [q1, q2, q3, q4] <;> omega
      clear AT hW1 hsz h1 h2 h3 h4 h5 hw ih hk hm
      generalize (!(decide (3 ≤ k) && decide (k ≤ 9)) || inR field n) = fa at hcase ⊢
      rcases hcase with ⟨e1, rfl⟩ | ⟨e1, e2, rfl⟩ | ⟨e1, e2, e3, rfl⟩ | ⟨e1, e2, e3, e4, rfl⟩ | ⟨e1, e2, e3, e4, rfl⟩
      · cases bb
        · cases ab
          · exact rg_1_false_false k field qn weight n text terms offs lo hi occur ks kc A1 A2 A3 A4 c1 c2 c3 c4 B w W1 hB hkl' K1 HZ hbW HW MU BK AK H4 H5 IH b1 b2 e1
          · exact rg_1_false_true k field qn weight n text terms offs lo hi occur ks kc A1 A2 A3 A4 c1 c2 c3 c4 B w W1 hB hkl' K1 HZ hbW HW MU BK AK H4 H5 IH b1 b2 e1
        · cases ab
          · exact rg_1_true_false k field qn weight n text terms offs lo hi occur ks kc A1 A2 A3 A4 c1 c2 c3 c4 B w W1 hB hkl' K1 HZ hbW HW MU BK AK H4 H5 IH b1 b2 e1
          · exact rg_1_true_true k field qn weight n text terms offs lo hi occur ks kc A1 A2 A3 A4 c1 c2 c3 c4 B w W1 hB hkl' K1 HZ hbW HW MU BK AK H4 H5 IH b1 b2 e1
      · cases bb
        · cases ab
          · exact rg_2_false_false k field qn weight n text terms offs lo hi occur ks kc A1 A2 A3 A4 c1 c2 c3 c4 B w W1 hB hkl' K1 HZ hbW HW MU BK AK H4 H5 IH b1 b2 e1 e2
          · exact rg_2_false_true k field qn weight n text terms offs lo hi occur ks kc A1 A2 A3 A4 c1 c2 c3 c4 B w W1 hB hkl' K1 HZ hbW HW MU BK AK H4 H5 IH b1 b2 e1 e2
        · cases ab
          · exact rg_2_true_false k field qn weight n text terms offs lo hi occur ks kc A1 A2 A3 A4 c1 c2 c3 c4 B w W1 hB hkl' K1 HZ hbW HW MU BK AK H4 H5 IH b1 b2 e1 e2
          · exact rg_2_true_true k field qn weight n text terms offs lo hi occur ks kc A1 A2 A3 A4 c1 c2 c3 c4 B w W1 hB hkl' K1 HZ hbW HW MU BK AK H4 H5 IH b1 b2 e1 e2
      · go_enter Tryz.func61, Tryz.ntmps61
        go_wp2_with (go_at_call 84; refine (MU.out _).mono ?_; rintro e w1 ⟨rfl, hb1⟩; have q1 : Below W1.heap.size W1 w1 := (by rw [HW.out]; exact hb1); obtain ⟨mq0, mq1, mq2, mq3, mq4, mq5, mq6, mq7, mq8, mq9, mq10, mq11, mq12, mq13, mq14⟩ := qrow (K1.below q1 (by have := HZ.out; omega)))
        go_ret
        exact ⟨rfl, bchain hbW q1⟩
      · go_enter Tryz.func61, Tryz.ntmps61
        go_wp2_with (go_at_call 84; refine (MU.out _).mono ?_; rintro e w1 ⟨rfl, hb1⟩; have q1 : Below W1.heap.size W1 w1 := (by rw [HW.out]; exact hb1); obtain ⟨mq0, mq1, mq2, mq3, mq4, mq5, mq6, mq7, mq8, mq9, mq10, mq11, mq12, mq13, mq14⟩ := qrow (K1.below q1 (by have := HZ.out; omega)))
        go_ret
        exact ⟨rfl, bchain hbW q1⟩
      · cases bb
        · cases ab
          · exact rg_5_false_false k field qn weight n text terms offs lo hi occur ks kc A1 A2 A3 A4 c1 c2 c3 c4 B w W1 hB hkl' K1 HZ hbW HW MU BK AK H4 H5 IH b1 b2 e1 e2 e3 e4
          · exact rg_5_false_true k field qn weight n text terms offs lo hi occur ks kc A1 A2 A3 A4 c1 c2 c3 c4 B w W1 hB hkl' K1 HZ hbW HW MU BK AK H4 H5 IH b1 b2 e1 e2 e3 e4
        · cases ab
          · exact rg_5_true_false k field qn weight n text terms offs lo hi occur ks kc A1 A2 A3 A4 c1 c2 c3 c4 B w W1 hB hkl' K1 HZ hbW HW MU BK AK H4 H5 IH b1 b2 e1 e2 e3 e4
          · exact rg_5_true_true k field qn weight n text terms offs lo hi occur ks kc A1 A2 A3 A4 c1 c2 c3 c4 B w W1 hB hkl' K1 HZ hbW HW MU BK AK H4 H5 IH b1 b2 e1 e2 e3 e4
    · have hf : (rlocB n true hd ks.length && goodsBy (rlocB n true) ks) = false := by
        have e1 : (decide (1 ≤ hd.kind) && decide (hd.kind ≤ 14)) = false := by
          rw [Bool.and_eq_false_iff, decide_eq_false_iff_not, decide_eq_false_iff_not]
          omega
        unfold rlocB
        rw [e1]
        simp
      rw [hf]
      clear hf ih h1 h2 h3 h4 h5 hw
      rcases (by omega : hd.kind < 1 ∨ (1 ≤ hd.kind ∧ 14 < hd.kind)) with hx | ⟨hx, hy⟩
      · have b1 : decide (hd.kind < 1) = true := decide_eq_true hx
        go_enter Tryz.func61, Tryz.ntmps61
        go_wp2_with fail
        go_ret
        exact ⟨rfl, (by exact Base.bel)⟩
      · have b1 : decide (hd.kind < 1) = false := decide_eq_false (by omega)
        have b2 : decide ((14 : Int) < hd.kind) = true := decide_eq_true hy
        go_enter Tryz.func61, Tryz.ntmps61
        go_wp2_with fail
        go_ret
        exact ⟨rfl, (by exact Base.bel)⟩

set_option maxHeartbeats 1000000 in
theorem rcheck_any (q : Qry) (cs : List Value) (B : Nat) (n : Int) (w : World) (hq : QVal w B cs q) (hB : B ≤ w.heap.size) :
    Calls Tryz.prog 34 #[.agg cs.toArray, .int .i64 n, .bool true] w fun e w' => e = .returned (.int .i64 (if good n true q then 0 else 18)) ∧ Below w.heap.size w w' := by
  have RG := Lib.hid (fun W (hW : Below w.heap.size w W) => rgood_any q cs B n W (hq.kept hW hB) (Nat.le_trans hB hW.size))
  obtain ⟨r, hr⟩ : ∃ r, r = good n true q := ⟨_, rfl⟩
  have e : goodBy (rlocB n true) q = r := by rw [hr, loc_eq]; rfl
  rw [e] at RG
  rw [← hr]
  obtain ⟨hd, ks, A1, A2, A3, A4, c1, c2, c3, c4, kc, hw, hkl, h1, h2, h3, h4, h5⟩ := hq
  clear e hr hw hkl h1 h2 h3 h4 h5
  cases r
  all_goals
    go_enter Tryz.func34, Tryz.ntmps34
    go_wp2_with (go_at_call 61; refine (RG.out _ (by exact Base.bel)).mono ?_; rintro e w2 ⟨rfl, hb2⟩)
    go_ret
    exact ⟨rfl, (by exact Base.bel)⟩
end Go.Proofs.YtfpikilhbkeajaaGreatDoor.RefGoodP
