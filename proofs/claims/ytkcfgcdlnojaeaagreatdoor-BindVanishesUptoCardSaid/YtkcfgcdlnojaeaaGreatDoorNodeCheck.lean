/-
  The walk of printer.Check over any node.
-/
import Derived.Test.YtkcfgcdlnojaeaaGreatDoorNodeOwn3
import Derived.Test.YtkcfgcdlnojaeaaGreatDoorDTerm
set_option linter.unusedVariables false
set_option linter.unusedSimpArgs false
namespace Go.Proofs.YtkcfgcdlnojaeaaGreatDoor.NodeCheck
set_option maxRecDepth 100000
open Go.RowKit Go.PlainAid Base Query NodeTree NodeWalk NodePlain NodeOwn NodeOwn3 TermCheck

set_option maxHeartbeats 4000000 in
theorem nodeCheck_any (q : Nod) : ∀ (cs : List Value) (B : Nat) (a : Addr) (w : World), NVal w B cs q → B ≤ w.heap.size → q.bulk ≤ 1099511627776 → Asks w → 2 < w.heap.size →
    w.cell? ⟨1, 0, none⟩ = some (.iface 274 (.pointer (some a))) → 1 < w.heap.size →
    Calls Tryz.prog 18 #[.agg cs.toArray] w fun e w' => e = .returned (errUnless (nodB q) (.iface 274 (.pointer (some a)))) ∧ Below w.heap.size w w' := by
  induction q using Nod.ind with
  | h q ih =>
    intro cs B a w hq hB hbk ha h0 he h1
    obtain ⟨hd, ks, A1, A2, c1, c2, kc, hw, hk, s1, h2, h3⟩ := hq
    simp only [Nod.kids] at ih
    simp only [Nod.bulk, nbulk] at hbk
    have hkb : ∀ (i : Nat) (k : Nod), ks[i]? = some k → k.bulk ≤ 1099511627776 := fun i k hk => by have := nbulks_mem (List.mem_of_getElem? hk); omega
    have hkl' : ks.length ≤ 9223372036854775807 := hk
    obtain ⟨W1, hW1⟩ : ∃ W, W = w.alloc (.cells (ncells hd ks.length A1 A2 c1 c2) 39) := ⟨_, rfl⟩
    have K1 : Blk W1 w.heap.size 39 (ncells hd ks.length A1 A2 c1 c2) := by rw [hW1]; exact Blk.new w _ _
    have hsz : w.heap.size + 1 = W1.heap.size := by rw [hW1]; simp
    have hbW : Below w.heap.size w W1 := by rw [hW1]; exact Base.bel
    have OK := own_any hd ks.length A1 A2 c1 c2 W1 (by omega) ((s1.below hbW hB).mono (Nat.le_trans hB hbW.size)) hw.noccur hk (ha.below hbW h0) (Nat.lt_of_lt_of_le h0 hbW.size)
    have IH := Lib.hid (fun W (hW : Below w.heap.size w W) (i : Nat) (x : Nod) (hx : ks[i]? = some x) => ih x (List.mem_of_getElem? hx) _ B a W ((h3 i x hx).kept hW hB) (Nat.le_trans hB hW.size) (hkb i x hx) (ha.below hW h0) (Nat.lt_of_lt_of_le h0 hW.size) ((hW.cell (p := ⟨1, 0, none⟩) h1).trans he) (Nat.lt_of_lt_of_le h1 hW.size))
    have HE := Lib.hid (fun W (hW : Below w.heap.size w W) => (hW.cell (p := ⟨1, 0, none⟩) h1).trans he)
    unfold nodeV at OK
    simp only at OK
    simp only [nodB]
    obtain ⟨b, hb⟩ : ∃ b, b = ownB hd ks.length := ⟨_, rfl⟩
    rw [← hb] at OK ⊢
    have HW := Lib.hid hW1
    have H2 := Lib.hid h2
    have H3 := Lib.hid h3
    have HZ := Lib.hid hsz
    unfold ncells at K1 HW
    rw [HW.out] at OK
    have OWK := Lib.hid OK
    clear OK hW1 hsz hb ih ha he hbk hkb h2 h3 s1 hw h0 h1 hk
    have OWN : True := trivial
    cases b
    · go_enter Tryz.func18, Tryz.ntmps18
      go_wp2_with (go_at_call 54; refine OWK.out.mono ?_; rintro e w2 ⟨rfl, hb2⟩; have hb12 : Below W1.heap.size W1 w2 := (by rw [HW.out]; exact hb2); have ee := HE.out w2 (bchain hbW hb12))
      go_ret
      exact ⟨rfl, bchain hbW hb12⟩
    · go_enter Tryz.func18, Tryz.ntmps18
      go_wp2_with (go_at_call 54; refine OWK.out.mono ?_; rintro e w2 ⟨rfl, hb2⟩; have hb12 : Below W1.heap.size W1 w2 := (by rw [HW.out]; exact hb2); have c11 : w2.cell? ⟨w.heap.size, 11, none⟩ = some (.slice A2 ks.length c2) := (K1.below hb12 (by have := HZ.out; omega)).cell 11)
      go_loopw [12] (fun i wr => ∃ j : Nat, j ≤ ks.length ∧ i = .int .i64 j ∧ Below W1.heap.size W1 wr ∧ nodsB (ks.take j) = true) (fun i _ => ks.length - (intOf i).toNat)
      case atStart => exact ⟨0, Nat.zero_le _, rfl, hb12, rfl⟩
      case round =>
        obtain ⟨j, hj, rfl, hbel, hall⟩ := hrel
        have HA := Lib.hid hall
        clear hall c11
        rcases Nat.lt_or_ge j ks.length with hlt | hge
        · obtain ⟨g, o, rfl, hg, hc⟩ := H2.out (by intro h; subst h; simp at hlt)
          obtain ⟨x, hx1⟩ : ∃ x, ks[j]? = some x := ⟨_, List.getElem?_eq_getElem hlt⟩
          have hbw := bchain hbW hbel
          have hq := (H3.out j x hx1).kept hbw hB
          obtain ⟨B1, B2, d1, d2, e, x0, x1, x2, x3, x4, x5, x6, x7, x8, x9, x10, x11⟩ := nkid_cells hq (fun j' u hu => (hbw.cell (p := ⟨g, o + j * 12 + j', none⟩) (Nat.lt_of_lt_of_le hg hB)).trans (hc j hlt j' u hu))
          have IH2 := Lib.hid (fun W hW => IH.out W hW j x hx1)
          rw [e] at IH2
          unfold ncells at IH2
          have HT := Lib.hid (nods_take hx1 HA.out)
          have HBD := Lib.hid (fun h => nods_bad hx1 h)
          have hlt2 : (j : Int) < 9223372036854775807 := by omega
          have i2 : (j : Int) < (ks.length : Int) := by omega
          have HBW2 := Lib.hid hbw
          have HBL := Lib.hid hbel
          clear hc hq e hx1 hbw hbel
          cases hgx : nodB x
          · rw [hgx] at IH2
            go_wp2_with (go_at_call 18; refine (IH2.out _ (Below.alloc HBW2.out (Nat.le_trans hbW.size HBL.out.size) _)).mono ?_; rintro e w6 ⟨rfl, hb6⟩; have ee := HE.out w6 (bchain (Below.alloc HBW2.out (Nat.le_trans hbW.size HBL.out.size) _) hb6); rw [show errUnless false (.iface 274 (.pointer (some a))) = .iface 274 (.pointer (some a)) from rfl])
            go_ret
            rw [HBD.out hgx]
            exact ⟨rfl, bchain (Below.alloc HBW2.out (Nat.le_trans hbW.size HBL.out.size) _) hb6⟩
          · rw [hgx] at IH2
            go_wp2_with (go_at_call 18; refine (IH2.out _ (Below.alloc HBW2.out (Nat.le_trans hbW.size HBL.out.size) _)).mono ?_; rintro e w6 ⟨rfl, hb6⟩; rw [show errUnless true (.iface 274 (.pointer (some a))) = .nilIface from rfl])
            go_roundw
            case rel => exact ⟨j + 1, by omega, by go_num, bchain (Below.alloc HBL.out HBL.out.size _) hb6, HT.out.trans hgx⟩
            case measure => simp [intOf]; omega
        · have hj' : j = ks.length := by omega
          have HO := Lib.hid (show nodsB ks = true by have := HA.out; rw [hj', List.take_length] at this; exact this)
          have i3 : ¬ ((j : Int) < (ks.length : Int)) := by omega
          clear hj'
          go_wp2_with fail
          go_ret
          rw [HO.out]
          exact ⟨rfl, bchain hbW hbel⟩
end Go.Proofs.YtkcfgcdlnojaeaaGreatDoor.NodeCheck
