/-
  The walk of concordlaw16.BindTexts.
-/
import Derived.Test.YtkcfgcdlnojaeaaGreatDoorLivesBind
import Derived.Test.YtkcfgcdlnojaeaaGreatDoorDQry
import Derived.Test.YtkcfgcdlnojaeaaGreatDoorQuietLoad
import Derived.Test.YtkcfgcdlnojaeaaGreatDoorWordsOne
import Derived.Test.YtkcfgcdlnojaeaaGreatDoorRefTextAll
set_option linter.unusedVariables false
set_option linter.unusedSimpArgs false
namespace Go.Proofs.YtkcfgcdlnojaeaaGreatDoor.BindTextsWalk
set_option maxRecDepth 100000
open Go.RowKit Go.PlainAid Base Query BindBase NodeTerm StopsWalk OfText OfAny LivesBind QuietLoad WordsOne QrySize QryLeft NumAll TextPlain TextLine LineBase TextAll RefTextAll

set_option maxHeartbeats 8000000 in
theorem walk (q : Qry) (cs : List Value) (es : Value) (a : Addr) (w : World) (hq : QVal w w.heap.size cs q) (hbk : bulk q ≤ 1073741824) (hp : Pow w.heap.size w) (ht : Tab w) (ha : Ask1 w) (he : w.cell? ⟨0, 0, none⟩ = some es) (hn : w.cell? ⟨1, 0, none⟩ = some (.iface 274 (.pointer (some a)))) (h0 : 3 < w.heap.size) :
    Calls Tryz.prog 3 #[.agg cs.toArray] w fun e w' => e = .returned (.bool true) ∧ Below w.heap.size w w' := by
  obtain ⟨W2, hW2⟩ : ∃ W, W = w.alloc (.cells cs.toArray 29) := ⟨_, rfl⟩
  have K1 : Blk W2 w.heap.size 29 cs.toArray := by rw [hW2]; exact Blk.new w _ _
  have hsz : W2.heap.size = w.heap.size + 1 := by rw [hW2]; simp
  have hbW : Below w.heap.size w W2 := by rw [hW2]; (repeat (first | exact Below.refl _ _ | assumption | refine balloc ?_ _ | refine bdrew ?_ | refine bdrewN ?_ _ | refine bchain ?_ (by assumption)))
  have LV := Lib.hid (lives_any es a W2 (tab_below ht hbW h0) (ha.below hbW (by omega)) ((hbW.cell (p := ⟨0, 0, none⟩) (by show 0 < _; omega)).trans he) ((hbW.cell (p := ⟨1, 0, none⟩) (by show 1 < _; omega)).trans hn) (by omega))
  have le : ∀ W : World, Below W2.heap.size W2 W → Below w.heap.size w W := fun W h => bchain hbW h
  have FQ := Lib.hid (fun W (hW : Below W2.heap.size W2 W) => few_any q cs w.heap.size W 4000 (hq.kept (le W hW) (Nat.le_refl _)) (le W hW).size)
  obtain ⟨T, hT⟩ : ∃ T : ByteArray, T = ⟨(textL q).toArray⟩ := ⟨_, rfl⟩
  have TQ := Lib.hid (fun W (hW : Below W2.heap.size W2 W) => text_any q cs w.heap.size w.heap.size a W (hq.kept (le W hW) (Nat.le_refl _)) (Nat.le_refl _) (le W hW).size (hp.on (le W hW)) hbk (((le W hW).cell (p := ⟨1, 0, none⟩) (by show 1 < _; omega)).trans hn) (by have := (le W hW).size; omega))
  have RQ := Lib.hid (fun W (hW : Below W2.heap.size W2 W) => rText_any q cs w.heap.size W (hq.kept (le W hW) (Nat.le_refl _)) (le W hW).size (by omega))
  rw [← hT] at TQ RQ
  obtain ⟨hd, ks, A1, A2, A3, A4, c1, c2, c3, c4, kc, hw, hk, h1, h2, h3, h4, h5⟩ := hq
  have HW := Lib.hid hW2
  have HZ := Lib.hid hsz
  clear hw hk h1 h2 h3 h4 h5 hW2 hsz ht ha he hn hp hbk hT
  go_enter Tryz.func3, Tryz.ntmps3
  go_upto_region 1 with fail
  rw [← HW.out]
  go_wp2_with (go_at_call 11; refine LV.out.mono ?_; rintro e w3 ⟨rfl, hb3⟩; obtain ⟨z0, z1, z2, z3, z4, z5, z6, z7, z8, z9, z10, z11, z12, z13, z14⟩ := qrow (K1.below hb3 (by have := HZ.out; omega)))
  go_at_call 12
  refine (FQ.out w3 hb3).mono ?_
  rintro e w4 ⟨⟨f1, rfl⟩, hb4⟩
  have hb := bchain hb3 hb4
  have hs4 := hb.size
  have hsw := HZ.out
  clear z0 z1 z2 z3 z4 z5 z6 z7 z8 z9 z10 z11 z12 z13 z14
  cases f1
  · go_wp2_with fail
    go_ret
    exact ⟨rfl, bchain hbW hb⟩
  have K1' : Blk w4 w.heap.size 29 _ := K1.below hb (by omega)
  have L1 := loads_blk (P := Tryz.prog) (ty := 29) K1' (show w.heap.size < w4.heap.size by omega) Tryz.underlying29 rfl (by rw [LineBase.qInfo]; rfl)
  have C1 := fun b : Bw w4.heap.size w4 => calls_bw (Nat.le_refl _) (TQ.out b.at_ (bchain hb b.below))
  have C2 := fun b : Bw w4.heap.size w4 => calls_bw (Nat.le_refl _) (RQ.out b.at_ (bchain hb b.below))
  go_upto_region 4 with fail
  clear K1 K1'
  generalize Value.agg (List.toArray [.int .i64 hd.kind, .int .i64 hd.field, .string hd.text, .slice A1 hd.terms.length c1, .slice A2 hd.offs.length c2, .int .i64 hd.n, .int .u64 hd.weight, .bool hd.lo.op, .bool hd.lo.inn, .string hd.lo.text, .bool hd.hi.op, .bool hd.hi.inn, .string hd.hi.text, .slice A3 hd.occur.length c3, .slice A4 ks.length c4]) = v1 at L1 C1 C2 ⊢
  refine wp_region_bw w4.heap.size (by kernel_rfl) (by kernel_rfl) ?_
  repeat (first | (refine BigFrame.wpQuiet_want (by kernel_rfl) ?_; intro K hK; refine quiet_load _ _ _ v1 rfl rfl L1 (hK _ ?_); clear hK K; simp only [Act.put, Base.s1, Base.s2, Base.s3]) | go_big_quiet_step ((first | (go_at_call 13; with_reducible exact C1 _) | (go_at_call 14; with_reducible exact C2 _))))
  refine wpQuiet_nil ?_
  intro wq hw'
  obtain ⟨⟨wz, hbq⟩, hw''⟩ := hw'
  subst hw''
  go_wp2_with fail
  go_ret
  exact ⟨rfl, bchain hbW (bchain hb hbq)⟩
end Go.Proofs.YtkcfgcdlnojaeaaGreatDoor.BindTextsWalk
