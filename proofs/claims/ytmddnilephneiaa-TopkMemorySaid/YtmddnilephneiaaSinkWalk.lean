/-
  The walk of a keeper's heap: sink.
-/
import Derived.Test.YtmddnilephneiaaPushWalk
import Derived.Deep.CutRange
namespace Go.Proofs.Ytmddnilephneiaa.SinkWalk
open Go.RowKit Go.PlainAid HitPlain HeapPlain Base HitBase PushWalk

theorem pick1 {M : List Hit} {j : Nat} {z1 : Hit} (h1 : M[2 * j + 1]? = some z1) (hl : M.length ≤ 2 * j + 2) : Pick M j (2 * j + 1) z1 :=
  ⟨.inl rfl, fun q x hq hp hx => by
    have := (List.getElem?_eq_some_iff.1 hx).1
    obtain rfl : q = 2 * j + 1 := by omega
    rw [h1] at hx; injection hx with hx; subst hx; exact btr_irr _⟩
theorem pick2 {M : List Hit} {j : Nat} {z1 z2 : Hit} (h1 : M[2 * j + 1]? = some z1) (h2 : M[2 * j + 2]? = some z2) (hb : btr z1 z2 = false) : Pick M j (2 * j + 1) z1 :=
  ⟨.inl rfl, fun q x hq hp hx => by
    rcases (by omega : q = 2 * j + 1 ∨ q = 2 * j + 2) with rfl | rfl
    · rw [h1] at hx; injection hx with hx; subst hx; exact btr_irr _
    · rw [h2] at hx; injection hx with hx; subst hx; exact hb⟩
theorem pick3 {M : List Hit} {j : Nat} {z1 z2 : Hit} (h1 : M[2 * j + 1]? = some z1) (h2 : M[2 * j + 2]? = some z2) (hb : btr z1 z2 = true) : Pick M j (2 * j + 2) z2 :=
  ⟨.inr rfl, fun q x hq hp hx => by
    rcases (by omega : q = 2 * j + 1 ∨ q = 2 * j + 2) with rfl | rfl
    · rw [h1] at hx; injection hx with hx; subst hx; exact btr_asym hb
    · rw [h2] at hx; injection hx with hx; subst hx; exact btr_irr _⟩

/-- What the choice between two kids leaves. -/
def Chosen (M : List Hit) (j : Nat) (bb : Bool) : Prop :=
  ∃ z, M[if bb then 2 * j + 2 else 2 * j + 1]? = some z ∧ Pick M j (if bb then 2 * j + 2 else 2 * j + 1) z

set_option maxRecDepth 100000 in
set_option maxHeartbeats 8000000 in
theorem sink_any (w0 : World) (B b g n cap : Nat) (k : Int) (v : Value) (L : List Hit) (w : World) (hn : n ≤ 8796093022208) (hR : Row w0 w B b k v n g cap L) (_hB : B ≤ b) (hd : Dn L 0) :
    Calls Try.prog 41 #[.pointer (some ⟨b, 1, none⟩)] w fun e w' => e = .returned (.tuple #[]) ∧ ∃ M, Row w0 w' B b k v n g cap M ∧ Hp M ∧ M.Perm L := by
  go_enter Try.func41, Try.ntmps41
  go_wp2_with fail
  go_loopw [2] (fun i2 wr => ∃ (j : Nat) (M : List Hit), i2 = .int .i64 j ∧ j ≤ n ∧ Dn M j ∧ M.Perm L ∧ Row w0 wr B b k v n g cap M) (fun i2 _ => n - (intOf i2).toNat)
  case atStart => exact ⟨0, L, rfl, Nat.zero_le _, hd, .refl _, hR⟩
  case round =>
    obtain ⟨j, M, rfl, hj, hdn, hperm, hr⟩ := hrel
    have hlen := hr.len
    have e1 := hr.c1
    have e2 := hr.c2
    by_cases hl : n ≤ 2 * j + 1
    · go_wp2_with fail
      exact bodyPost_ret (v := .tuple #[]) (by simp [results, Try.results41, go_sem]) rfl ⟨rfl, M, hr, hdn.leaf (by omega), hperm⟩
    · obtain ⟨⟨z1, z1'⟩, hz1⟩ : ∃ z, M[2 * j + 1]? = some z := ⟨_, List.getElem?_eq_getElem (by omega)⟩
      have q0 : wr.cell? ⟨g, (2 * j + 1) * 2, none⟩ = some (.int .i64 z1) := hr.h0 hz1
      have q1 : wr.cell? ⟨g, (2 * j + 1) * 2 + 1, none⟩ = some (.int .u64 z1') := hr.h1 hz1
      have HZ1 := Lib.hid hz1
      clear hz1
      have a1 : (0 : Int) ≤ 2 * (j : Int) + 1 := by omega
      have a2 : 2 * (j : Int) + 1 < (n : Int) := by omega
      have a3 : (2 * (j : Int) + 1).toNat = 2 * j + 1 := by omega
      have HLEN := Lib.hid hlen
      clear hlen
      go_upto_region 3 with fail
      go_cut [43] from 4 to 92 (fun s43 wx => ∃ bb : Bool, s43 = .bool bb ∧ Chosen M j bb ∧ Row w0 wx B b k v n g cap M)
      case first =>
        by_cases hl2 : n ≤ 2 * j + 2
        · have d1 : decide (2 * (j : Int) + 1 + 1 < (n : Int)) = false := by simp; omega
          have d2 : decide (2 * j + 1 + 1 < n) = false := by simp; omega
          go_quiet (fail)
          go_wp2_with fail
          go_meet
          exact ⟨false, rfl, ⟨_, HZ1.out, pick1 HZ1.out (by have := HLEN.out; omega)⟩, hr.drewN _⟩
        · obtain ⟨⟨z2, z2'⟩, hz2⟩ : ∃ z, M[2 * j + 2]? = some z := ⟨_, List.getElem?_eq_getElem (by have := HLEN.out; omega)⟩
          have q2 : wr.cell? ⟨g, (2 * j + 1 + 1) * 2, none⟩ = some (.int .i64 z2) := hr.h0 hz2
          have q3 : wr.cell? ⟨g, (2 * j + 1 + 1) * 2 + 1, none⟩ = some (.int .u64 z2') := hr.h1 hz2
          have HZ2 := Lib.hid hz2
          clear hz2
          have d1 : decide (2 * (j : Int) + 1 + 1 < (n : Int)) = true := by simp; omega
          have d2 : decide (2 * j + 1 + 1 < n) = true := by simp; omega
          have a4 : (0 : Int) ≤ 2 * (j : Int) + 1 + 1 := by omega
          have a5 : 2 * (j : Int) + 1 + 1 < (n : Int) := by omega
          have a6 : (2 * (j : Int) + 1 + 1).toNat = 2 * j + 1 + 1 := by omega
          have a7 : IntKind.i64.wrap (2 * (j : Int) + 1 + 1) = 2 * (j : Int) + 1 + 1 := IntWalk.i64_in _ (by omega)
          cases hb : btr (z1, z1') (z2, z2')
          all_goals
            have HB := Lib.hid hb
            clear hb
            go_still_tail 28, (by kernel_rfl)
            go_wp2_with (go_at_call 28; refine (less_any _ _ _ _ _).mono ?_; rw [HB.out]; rintro e w5 ⟨rfl, hb5⟩)
            go_meet
          · exact ⟨false, rfl, ⟨_, HZ1.out, pick2 HZ1.out HZ2.out HB.out⟩, hr.drew.below hb5⟩
          · exact ⟨true, rfl, ⟨_, HZ2.out, pick3 HZ1.out HZ2.out HB.out⟩, hr.drew.below hb5⟩
      case rest =>
        obtain ⟨bb, rfl, ⟨z, hz, hpick⟩, hr2⟩ := hcut
        have HZ := Lib.hid hz
        have HP := Lib.hid hpick
        clear hz hpick q0 q1 e1 e2 hr
        go_upto_if 43 with fail
        go_cut [3] from 4 to 92 (fun s3 wx => ∃ (K : Nat) (y : Hit), s3 = .int .i64 K ∧ K ≤ 2 * j + 2 ∧ M[K]? = some y ∧ Pick M j K y ∧ Row w0 wx B b k v n g cap M)
        case first =>
          cases bb
          · go_wp2_with fail
            go_meet
            exact ⟨2 * j + 1, z, by go_num, by omega, HZ.out, HP.out, hr2⟩
          · go_wp2_with fail
            go_meet
            exact ⟨2 * j + 2, z, by go_num, by omega, HZ.out, HP.out, hr2⟩
        case rest =>
          clear HZ HP hr2
          obtain ⟨K, ⟨y1, y2⟩, rfl, hK2, hy, hpick, hr⟩ := hcut
          obtain ⟨⟨x1, x2⟩, hx⟩ : ∃ x, M[j]? = some x := ⟨_, List.getElem?_eq_getElem (by have := HLEN.out; omega)⟩
          have hKn := (List.getElem?_eq_some_iff.1 hy).1
          have hKj : j < K := by have := hpick.1; omega
          have hKn : K < n := by have := HLEN.out; omega
          have e1 := hr.c1
          have e2 := hr.c2
          have x0 : wc.cell? ⟨g, j * 2, none⟩ = some (.int .i64 x1) := hr.h0 hx
          have x1' : wc.cell? ⟨g, j * 2 + 1, none⟩ = some (.int .u64 x2) := hr.h1 hx
          have y0 : wc.cell? ⟨g, K * 2, none⟩ = some (.int .i64 y1) := hr.h0 hy
          have y1' : wc.cell? ⟨g, K * 2 + 1, none⟩ = some (.int .u64 y2) := hr.h1 hy
          have HX := Lib.hid hx
          have HY := Lib.hid hy
          have HP := Lib.hid hpick
          clear hx hy hpick a1 a2 a3
          have b1 : j < n := by omega
          have i1 : (0 : Int) ≤ (j : Int) := by omega
          have i2 : (j : Int) < (n : Int) := by omega
          have i5 : (0 : Int) ≤ (K : Int) := by omega
          have i6 : (K : Int) < (n : Int) := by omega
          cases hb : btr (x1, x2) (y1, y2)
          · have HB := Lib.hid hb
            go_wp2_with fail
            go_still_tail 18, (by kernel_rfl)
            go_wp2_with (go_at_call 28; refine (less_any _ _ _ _ _).mono ?_; rw [HB.out]; rintro e w5 ⟨rfl, hb5⟩)
            have hr5 := hr.drew.below hb5
            exact bodyPost_ret (v := .tuple #[]) (by simp [results, Try.results41, go_sem]) rfl ⟨rfl, M, hr5, hdn.stop HX.out HP.out HB.out, hperm⟩
          · have HB := Lib.hid hb
            go_wp2_with fail
            go_still_tail 18, (by kernel_rfl)
            go_wp2_with (go_at_call 28; refine (less_any _ _ _ _ _).mono ?_; rw [HB.out]; rintro e w5 ⟨rfl, hb5⟩)
            have hr5 := hr.drew.below hb5
            clear e1 e2 x0 x1' y0 y1'
            have e1 := hr5.c1
            have x0 : w5.cell? ⟨g, j * 2, none⟩ = some (.int .i64 x1) := hr5.h0 HX.out
            have x1' : w5.cell? ⟨g, j * 2 + 1, none⟩ = some (.int .u64 x2) := hr5.h1 HX.out
            have y0 : w5.cell? ⟨g, K * 2, none⟩ = some (.int .i64 y1) := hr5.h0 HY.out
            have y1' : w5.cell? ⟨g, K * 2 + 1, none⟩ = some (.int .u64 y2) := hr5.h1 HY.out
            have f0 := hr5.z (j * 2)
            have f1 := hr5.z (j * 2 + 1)
            have f2 := hr5.z (K * 2)
            have f3 := hr5.z (K * 2 + 1)
            go_wp2_with fail
            have n1 : ¬ j * 2 = K * 2 := by omega
            have n2 : ¬ j * 2 + 1 = K * 2 := by omega
            have n3 : ¬ j * 2 = K * 2 + 1 := by omega
            have n4 : ¬ j * 2 + 1 = K * 2 + 1 := by omega
            go_region
            go_wp2_with fail
            go_roundw
            case rel =>
              refine ⟨K, swp M j K (x1, x2) (y1, y2), by go_num, by omega, hdn.step HX.out HY.out HP.out HB.out, (swp_perm HX.out HY.out).trans hperm, ?_⟩
              exact (hr5.drew.set_ j (y1, y2)).set_ K (x1, x2)
            case measure => simp [intOf]; omega
end Go.Proofs.Ytmddnilephneiaa.SinkWalk
