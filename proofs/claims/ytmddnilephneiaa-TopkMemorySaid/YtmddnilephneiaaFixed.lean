/-
  The laws' fixed fact over keepers.
-/
import Derived.Test.YtmddnilephneiaaTopkWalk
namespace Go.Proofs.Ytmddnilephneiaa.Fixed
open Go.RowKit Go.PlainAid HitPlain HeapPlain KeepPlain Base HitBase PushWalk OfferWalk KeepWalk TopkWalk

theorem k1 : kept (2 : Int).toNat [] ((5, 7) : Hit) = true := by decide
theorem l1 : (insS ((5, 7) : Hit) []).take (2 : Int).toNat = [(5, 7)] := by decide
theorem k2 : kept (2 : Int).toNat [(5, 7)] ((4, 7) : Hit) = true := by decide
theorem l2 : (insS ((4, 7) : Hit) [(5, 7)]).take (2 : Int).toNat = [(4, 7), (5, 7)] := by decide
theorem k3 : kept (2 : Int).toNat [(4, 7), (5, 7)] ((6, 7) : Hit) = false := by decide
theorem l3 : (insS ((6, 7) : Hit) [(4, 7), (5, 7)]).take (2 : Int).toNat = [(4, 7), (5, 7)] := by decide
theorem k4 : kept (2 : Int).toNat [(4, 7), (5, 7)] ((9, 8) : Hit) = true := by decide
theorem l4 : (insS ((9, 8) : Hit) [(4, 7), (5, 7)]).take (2 : Int).toNat = [(9, 8), (4, 7)] := by decide
theorem b5 : btr ((1, 9) : Hit) (3, 9) = true := by decide

theorem offer_fix {S S' : List Hit} {i s : Int} {bb : Bool} (hk : kept (2 : Int).toNat S (i, s) = bb) (hl : (insS (i, s) S).take (2 : Int).toNat = S') (hS : S.length ≤ 1000) (B b : Nat) (w : World) (hK : KB w B b 2 S) (hB : B ≤ w.heap.size) :
    Calls Try.prog 18 #[.pointer (some ⟨b, 0, none⟩), .agg #[.int .i64 i, .int .u64 s]] w fun e w' => e = .returned (.bool bb) ∧ KB w' B b 2 S' ∧ Below B w w' := by
  subst hk hl
  exact offer_kb B b 2 S i s w hK hB (by omega)

set_option maxRecDepth 100000 in
set_option maxHeartbeats 4000000 in
theorem fixed_any (w : World) : Calls Try.prog 9 #[] w fun e w' => e = .returned (.bool true) ∧ Below w.heap.size w w' := by
  have HB := Lib.hid b5
  have O1 := Lib.hid (@offer_fix _ _ _ _ _ k1 l1 (by decide))
  have O2 := Lib.hid (@offer_fix _ _ _ _ _ k2 l2 (by decide))
  have O3 := Lib.hid (@offer_fix _ _ _ _ _ k3 l3 (by decide))
  have O4 := Lib.hid (@offer_fix _ _ _ _ _ k4 l4 (by decide))
  go_enter Try.func9, Try.ntmps9
  go_wp2_with (go_at_call 10; refine (new_any _ _).mono ?_; rintro e w1 ⟨rfl, hk1, hb1, hlt1⟩)
  have q1 : KB w1 w.heap.size w.heap.size 2 [] := ⟨_, hk1⟩
  clear hk1 hlt1
  have z1 := hb1.size
  go_at_call 18
  refine (O1.out _ _ _ q1 z1).mono ?_
  rintro e w2 ⟨rfl, q2, hb2⟩
  have z2 := Nat.le_trans z1 hb2.size
  go_wp2_with fail
  go_at_call 18
  refine (O2.out _ _ _ q2 z2).mono ?_
  rintro e w3 ⟨rfl, q3, hb3⟩
  have z3 := Nat.le_trans z2 hb3.size
  go_wp2_with fail
  go_at_call 18
  refine (O3.out _ _ _ q3 z3).mono ?_
  rintro e w4 ⟨rfl, q4, hb4⟩
  have z4 := Nat.le_trans z3 hb4.size
  go_wp2_with fail
  go_at_call 18
  refine (O4.out _ _ _ q4 z4).mono ?_
  rintro e w5 ⟨rfl, q5, hb5⟩
  have z5 := Nat.le_trans z4 hb5.size
  go_wp2_with fail
  go_at_call 13
  refine (hits_kb _ _ _ _ _ q5 z5 (by decide)).mono ?_
  rintro e w6 ⟨A6, c6, rfl, hown6, hb6⟩
  have hs6 := (slc_own hown6)
  have hbA := (((hb1.trans hb2).trans hb3).trans hb4).trans hb5
  have hb7 : Below w.heap.size w w6 := hbA.trans (hb6.mono z5)
  have z6 := hb7.size
  go_wp2_with fail
  have hba : Below w6.heap.size w6 (w6.alloc (.cells #[.int .i64 9, .int .u64 8, .int .i64 4, .int .u64 7] 29)) := (Below.refl _ _).alloc (Nat.le_refl _) _
  have hs7 : Slc (w6.alloc (.cells #[.int .i64 9, .int .u64 8, .int .i64 4, .int .u64 7] 29)) (w6.heap.size + 1) (some ⟨w6.heap.size, 0, none⟩) (hc [(9, 8), (4, 7)]) := slc_new _ _ _
  refine (equal_eq [(9, 8), (4, 7)] _ _ _ _ _ _ _ (by decide) (hs6.below hba (Nat.le_refl _)) hs7).mono ?_
  rintro e w8 ⟨rfl, hb8⟩
  have hb9 : Below w.heap.size w w8 := (hb7.trans (hba.mono z6)).trans (hb8.mono (by simp; omega))
  go_wp2_with (go_at_call 25; refine (better_any _ _ _ _ _).mono ?_; rw [HB.out]; rintro e w10 ⟨rfl, hb10⟩)
  go_ret
  exact ⟨rfl, bchain hb9 hb10⟩
end Go.Proofs.Ytmddnilephneiaa.Fixed
