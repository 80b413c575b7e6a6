/-
  The walk of tokens.endsDouble.
-/
import Derived.Test.YtmoahflgcojfcaaDoorStemWalk
import Derived.RegionTactic
namespace Go.Proofs.YtmoahflgcojfcaaDoor.EndsDouble
set_option maxRecDepth 100000
open Go.RowKit Go.PlainAid StemPlain Base Vowels StemWalk

set_option maxHeartbeats 4000000 in
theorem endsDouble_any (s : ByteArray) (w : World) (hs : s.size ≤ 281474976710656) :
    Calls Tryd.prog 61 #[.string s] w fun r w' => r = .returned (.bool (dbl s)) ∧ Below w.heap.size w w' := by
  have hb := get_bt s
  by_cases h2 : 2 ≤ s.size
  · have d2 : decide ((2 : Int) ≤ (s.size : Int)) = true := by simp; omega
    by_cases he : bt s (s.size - 1) = bt s (s.size - 2)
    · have hd : dbl s = !vow s (s.size - 1) := by unfold dbl; simp [h2, he]
      have HD := Lib.hid hd
      have he' : (bt s (s.size - 1) == bt s (s.size - 2)) = true := by simpa using he
      clear hd he
      go_enter Tryd.func61, Tryd.ntmps61
      go_wp2_with fail
      have i1 : (0 : Int) ≤ (s.size : Int) - 1 := by omega
      have i2 : (s.size : Int) - 1 < (s.size : Int) := by omega
      have i3 : (0 : Int) ≤ (s.size : Int) - 2 := by omega
      have i4 : (s.size : Int) - 2 < (s.size : Int) := by omega
      have x1 : IntKind.i64.wrap ((s.size : Int) - 1) = (s.size : Int) - 1 := IntWalk.i64_in _ (by omega)
      have x2 : IntKind.i64.wrap ((s.size : Int) - 2) = (s.size : Int) - 2 := IntWalk.i64_in _ (by omega)
      have j1 : (1 : Int) ≤ (s.size : Int) := by omega
      have j2 : (2 : Int) ≤ (s.size : Int) := by omega
      have y1 : ((s.size : Int) - 1).toNat = s.size - 1 := by omega
      have y2 : ((s.size : Int) - 2).toNat = s.size - 2 := by omega
      refine wp_region_any (by kernel_rfl) ?_
      (refine wpAny_take (i := 0) (v := ?v0) (by rw [List.getElem?_toArray]; rfl) (by kernel_rfl) (by kernel_rfl) (by kernel_rfl) (by exact fun _ _ _ h => h) (Or.inl ⟨by rfl, ?y0⟩) ?r0)
      case y0 => (intro w'; go_simp; try with_reducible rfl)
      try simp only [Act.put, List.setIfInBounds_toArray, List.set_cons_zero, List.set_cons_succ]
      (refine wpAny_take (i := 1) (v := ?v1) (by rw [List.getElem?_toArray]; rfl) (by kernel_rfl) (by kernel_rfl) (by kernel_rfl) (by exact fun _ _ _ h => h) (Or.inl ⟨by rfl, ?y1⟩) ?r1)
      case y1 => (intro w'; go_simp; try with_reducible rfl)
      try simp only [Act.put, List.setIfInBounds_toArray, List.set_cons_zero, List.set_cons_succ]
      (refine wpAny_take (i := 2) (v := ?v2) (by rw [List.getElem?_toArray]; rfl) (by kernel_rfl) (by kernel_rfl) (by kernel_rfl) (by exact fun _ _ _ h => h) (Or.inl ⟨by rfl, ?y2⟩) ?r2)
      case y2 => (intro w'; go_simp; try with_reducible rfl)
      try simp only [Act.put, List.setIfInBounds_toArray, List.set_cons_zero, List.set_cons_succ]
      (refine wpAny_take (i := 3) (v := ?v3) (by rw [List.getElem?_toArray]; rfl) (by kernel_rfl) (by kernel_rfl) (by kernel_rfl) (by exact fun _ _ _ h => h) (Or.inl ⟨by rfl, ?y3⟩) ?r3)
      case y3 => (intro w'; go_simp; try with_reducible rfl)
      try simp only [Act.put, List.setIfInBounds_toArray, List.set_cons_zero, List.set_cons_succ]
      (refine wpAny_take (i := 4) (v := ?v4) (by rw [List.getElem?_toArray]; rfl) (by kernel_rfl) (by kernel_rfl) (by kernel_rfl) (by exact fun _ _ _ h => h) (Or.inl ⟨by rfl, ?y4⟩) ?r4)
      case y4 => (intro w'; go_simp; try with_reducible rfl)
      try simp only [Act.put, List.setIfInBounds_toArray, List.set_cons_zero, List.set_cons_succ]
      (refine wpAny_take (i := 5) (v := ?v5) (by rw [List.getElem?_toArray]; rfl) (by kernel_rfl) (by kernel_rfl) (by kernel_rfl) (by exact fun _ _ _ h => h) (Or.inl ⟨by rfl, ?y5⟩) ?r5)
      case y5 => (intro w'; go_simp; try with_reducible rfl)
      try simp only [Act.put, List.setIfInBounds_toArray, List.set_cons_zero, List.set_cons_succ]
      (refine wpAny_take (i := 6) (v := ?v6) (by rw [List.getElem?_toArray]; rfl) (by kernel_rfl) (by kernel_rfl) (by kernel_rfl) (by exact fun _ _ _ h => h) (Or.inl ⟨by rfl, ?y6⟩) ?r6)
      case y6 => (intro w'; go_simp; try with_reducible rfl)
      try simp only [Act.put, List.setIfInBounds_toArray, List.set_cons_zero, List.set_cons_succ]
      (refine wpAny_take (i := 7) (v := ?v7) (by rw [List.getElem?_toArray]; rfl) (by kernel_rfl) (by kernel_rfl) (by kernel_rfl) (by exact fun _ _ _ h => h) (Or.inl ⟨by rfl, ?y7⟩) ?r7)
      case y7 => (intro w'; go_simp; try with_reducible rfl)
      try simp only [Act.put, List.setIfInBounds_toArray, List.set_cons_zero, List.set_cons_succ]
      (refine wpAny_take (i := 8) (v := ?v8) (by rw [List.getElem?_toArray]; rfl) (by kernel_rfl) (by kernel_rfl) (by kernel_rfl) (by exact fun _ _ _ h => h) (Or.inl ⟨by rfl, ?y8⟩) ?r8)
      case y8 => (intro w'; go_simp; try with_reducible rfl)
      try simp only [Act.put, List.setIfInBounds_toArray, List.set_cons_zero, List.set_cons_succ]
      (refine wpAny_take (i := 9) (v := ?v9) (by rw [List.getElem?_toArray]; rfl) (by kernel_rfl) (by kernel_rfl) (by kernel_rfl) (by exact fun _ _ _ h => h) (Or.inl ⟨by rfl, ?y9⟩) ?r9)
      case y9 => (intro w'; go_simp; try with_reducible rfl)
      try simp only [Act.put, List.setIfInBounds_toArray, List.set_cons_zero, List.set_cons_succ]
      (refine wpAny_take (i := 10) (v := ?v10) (by rw [List.getElem?_toArray]; rfl) (by kernel_rfl) (by kernel_rfl) (by kernel_rfl) (by exact fun _ _ _ h => h) (Or.inl ⟨by rfl, ?y10⟩) ?r10)
      case y10 => (intro w'; go_simp; try with_reducible rfl)
      try simp only [Act.put, List.setIfInBounds_toArray, List.set_cons_zero, List.set_cons_succ]
      (refine wpAny_take (i := 11) (v := ?v11) (by rw [List.getElem?_toArray]; rfl) (by kernel_rfl) (by kernel_rfl) (by kernel_rfl) (by exact fun _ _ _ h => h) (Or.inl ⟨by rfl, ?y11⟩) ?r11)
      case y11 => (intro w'; go_simp; try with_reducible rfl)
      try simp only [Act.put, List.setIfInBounds_toArray, List.set_cons_zero, List.set_cons_succ]
      (refine wpAny_take (i := 12) (v := ?v12) (by rw [List.getElem?_toArray]; rfl) (by kernel_rfl) (by kernel_rfl) (by kernel_rfl) (by exact fun _ _ _ h => h) (Or.inl ⟨by rfl, ?y12⟩) ?r12)
      case y12 => (intro w'; go_simp; try with_reducible rfl)
      try simp only [Act.put, List.setIfInBounds_toArray, List.set_cons_zero, List.set_cons_succ]
      (refine wpAny_take (i := 13) (v := ?v13) (by rw [List.getElem?_toArray]; rfl) (by kernel_rfl) (by kernel_rfl) (by kernel_rfl) (by exact fun _ _ _ h => h) (Or.inl ⟨by rfl, ?y13⟩) ?r13)
      case y13 => (intro w'; go_simp; try with_reducible rfl)
      try simp only [Act.put, List.setIfInBounds_toArray, List.set_cons_zero, List.set_cons_succ]
      (refine wpAny_take (i := 14) (v := ?v14) (by rw [List.getElem?_toArray]; rfl) (by kernel_rfl) (by kernel_rfl) (by kernel_rfl) (by exact fun _ _ _ h => h) (Or.inl ⟨by rfl, ?y14⟩) ?r14)
      case y14 => (intro w'; go_simp; try with_reducible rfl)
      try simp only [Act.put, List.setIfInBounds_toArray, List.set_cons_zero, List.set_cons_succ]
      (refine wpAny_take (i := 16) (v := ?v16) (by rw [List.getElem?_toArray]; rfl) (by kernel_rfl) (by kernel_rfl) (by kernel_rfl) (by exact fun _ _ _ h => h) (Or.inl ⟨by rfl, ?y16⟩) ?r16)
      case y16 => (intro w'; go_simp; try with_reducible rfl)
      try simp only [Act.put, List.setIfInBounds_toArray, List.set_cons_zero, List.set_cons_succ]
      (refine wpAny_take (i := 17) (v := ?v17) (by rw [List.getElem?_toArray]; rfl) (by kernel_rfl) (by kernel_rfl) (by kernel_rfl) (by exact fun _ _ _ h => h) (Or.inl ⟨by rfl, ?y17⟩) ?r17)
      case y17 => (intro w'; go_simp; try with_reducible rfl)
      try simp only [Act.put, List.setIfInBounds_toArray, List.set_cons_zero, List.set_cons_succ]
      refine wpAny_ready (rs := [15]) (by kernel_rfl) (by simp) ?_
      refine AllReady.cons (by rw [List.getElem?_toArray]; rfl) (fun K hK => ?_) AllReady.nil
      go_simp
      refine (vowels_any _ _ hs).mono ?_
      rintro e w1 ⟨A, c, rfl, hA, hb1⟩
      obtain ⟨g, o, rfl, hg, hc⟩ := hA.at_ (by omega)
      have c1 := hc (s.size - 1) (by omega)
      clear hc hA
      refine hK _ _ ?_
      clear hK K
      try simp only [Act.put, List.setIfInBounds_toArray, List.set_cons_zero, List.set_cons_succ]
      (refine wpAny_take (i := 18) (v := ?v18) (by rw [List.getElem?_toArray]; rfl) (by kernel_rfl) (by kernel_rfl) (by kernel_rfl) (by exact fun _ _ _ h => h) (Or.inl ⟨by rfl, ?y18⟩) ?r18)
      case y18 => (intro w'; go_simp; try with_reducible rfl)
      try simp only [Act.put, List.setIfInBounds_toArray, List.set_cons_zero, List.set_cons_succ]
      refine wpAny_ready (rs := [19]) (by kernel_rfl) (by simp) ?_
      refine AllReady.cons (by rw [List.getElem?_toArray]; rfl) (fun K hK => ?_) AllReady.nil
      go_simp
      refine hK _ _ ?_
      clear hK K
      try simp only [Act.put, List.setIfInBounds_toArray, List.set_cons_zero, List.set_cons_succ]
      (refine wpAny_take (i := 20) (v := ?v20) (by rw [List.getElem?_toArray]; rfl) (by kernel_rfl) (by kernel_rfl) (by kernel_rfl) (by exact fun _ _ _ h => h) (Or.inl ⟨by rfl, ?y20⟩) ?r20)
      case y20 => (intro w'; go_simp; try with_reducible rfl)
      try simp only [Act.put, List.setIfInBounds_toArray, List.set_cons_zero, List.set_cons_succ]
      (refine wpAny_take (i := 21) (v := ?v21) (by rw [List.getElem?_toArray]; rfl) (by kernel_rfl) (by kernel_rfl) (by kernel_rfl) (by exact fun _ _ _ h => h) (Or.inl ⟨by rfl, ?y21⟩) ?r21)
      case y21 => (intro w'; go_simp; try with_reducible rfl)
      try simp only [Act.put, List.setIfInBounds_toArray, List.set_cons_zero, List.set_cons_succ]
      (refine wpAny_take (i := 22) (v := ?v22) (by rw [List.getElem?_toArray]; rfl) (by kernel_rfl) (by kernel_rfl) (by kernel_rfl) (by exact fun _ _ _ h => h) (Or.inl ⟨by rfl, ?y22⟩) ?r22)
      case y22 => (intro w'; go_simp; try with_reducible rfl)
      try simp only [Act.put, List.setIfInBounds_toArray, List.set_cons_zero, List.set_cons_succ]
      refine wpAny_done (by kernel_rfl) ?_ _
      go_wp2
      go_ret
      exact ⟨ret_bool HD.out.symm, (⟨rfl, rfl, rfl, Nat.le_refl _, fun _ _ => rfl⟩ : Below w.heap.size w w.drew).trans hb1⟩
    · have HD := Lib.hid (show dbl s = false by unfold dbl; simp [he])
      have he' : (bt s (s.size - 1) == bt s (s.size - 2)) = false := by simpa using he
      clear he
      go_enter Tryd.func61, Tryd.ntmps61
      go_wp2_with fail
      go_quiet (fail)
      go_wp2
      go_ret
      exact ⟨ret_bool HD.out.symm, ⟨rfl, rfl, rfl, Nat.le_refl _, fun _ _ => rfl⟩⟩
  · have HD := Lib.hid (show dbl s = false by unfold dbl; simp [h2])
    have d2 : decide ((2 : Int) ≤ (s.size : Int)) = false := by simp; omega
    go_enter Tryd.func61, Tryd.ntmps61
    go_wp2_with fail
    go_quiet (fail)
    go_wp2
    go_ret
    exact ⟨ret_bool HD.out.symm, ⟨rfl, rfl, rfl, Nat.le_refl _, fun _ _ => rfl⟩⟩
end Go.Proofs.YtmoahflgcojfcaaDoor.EndsDouble
