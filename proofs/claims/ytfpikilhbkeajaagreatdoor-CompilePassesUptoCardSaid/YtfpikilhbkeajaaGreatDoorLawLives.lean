/-
  The law's lives.
-/
import Derived.Test.YtfpikilhbkeajaaGreatDoorSmallPlain
import Derived.Test.YtfpikilhbkeajaaGreatDoorCPrg
import Derived.LaidEql
set_option linter.unusedVariables false
set_option linter.unusedSimpArgs false
namespace Go.Proofs.YtfpikilhbkeajaaGreatDoor.LawLives
set_option maxRecDepth 100000
open Go.RowKit Go.PlainAid Base Query QrySize EmitPlain EmitBase LeafMap AllLeaves TabPlain TextPlain GoodLoc GoodPl Avg BindBase Writer Args Encode CodePlain ProgTail ProgGood ProgBad SmallPlain

theorem info_comp : ∃ i, Tryz.prog.info? 222 = some i ∧ i.comparable = true := by
  have h : (Tryz.prog.info? 222).map (·.comparable) = some true := by kernel_rfl
  cases e : Tryz.prog.info? 222 with
  | none => rw [e] at h; cases h
  | some i => rw [e] at h; exact ⟨i, rfl, by simpa using h⟩
theorem info_str : ∃ i, Tryz.prog.info? 242 = some i := by
  have h : (Tryz.prog.info? 242).isSome = true := by kernel_rfl
  exact Option.isSome_iff_exists.1 h
def smC (k f : Int) (t : ByteArray) (n w : Int) (AO : Option Addr) (no co : Nat) (AK : Option Addr) (nk ck : Nat) : List Value := [.int .i64 k, .int .i64 f, .string t, .slice none 0 0, .slice none 0 0, .int .i64 n, .int .u64 w, .bool false, .bool false, .string ⟨#[]⟩, .bool false, .bool false, .string ⟨#[]⟩, .slice AO no co, .slice AK nk ck]
theorem hwf_small {k f n w : Int} {t : ByteArray} {oc : List Int} (hk : (Lit.int .i64 k).wf = true) (hf : (Lit.int .i64 f).wf = true) (hn : (Lit.int .i64 n).wf = true) (hw : (Lit.int .u64 w).wf = true) (ht : t.size ≤ 16) (ho : ∀ o ∈ oc, (Lit.int .i64 o).wf = true) (hl : oc.length ≤ 16) : Hwf (hdK k f t n w oc) :=
  ⟨hk, hf, hn, hw, fun o h => (by cases h), ho, (by show t.size ≤ maxLen; unfold maxLen; omega), fun t h => (by cases h), Nat.zero_le _, Nat.zero_le _, (by show oc.length ≤ maxLen; unfold maxLen; omega)⟩
theorem q_leaf (W : World) (B : Nat) (t : ByteArray) (w : Int) (hw : (Lit.int .u64 w).wf = true) (ht : t.size ≤ 16) : QVal W B (smC 4 0 t 0 w none 0 0 none 0 0) (qT t w) :=
  QVal.mk (hdK 4 0 t 0 w []) [] none none none none 0 0 0 0 (fun _ => []) (hwf_small (by decide) (by decide) (by decide) hw ht (by simp) (by decide)) (by decide) (Slc.nil _) (Slc.nil _) (Slc.nil _) (fun h => absurd rfl h) (fun i k h => by simp at h)

set_option maxHeartbeats 4000000 in
theorem lives_any (a a2 : Addr) (w : World) (T : Tab w) (hT : 24 < w.heap.size) (hn : w.cell? ⟨0, 0, none⟩ = some (errV a)) (hnl : 0 < w.heap.size) (hc : w.cell? ⟨16, 0, none⟩ = some (errV a2)) (hcl : 16 < w.heap.size) :
    Calls Tryz.prog 6 #[] w fun e w' => e = .returned (.bool true) ∧ Below w.heap.size w w' := by
  obtain ⟨CA, hCA⟩ : ∃ C, C = smC 4 0 tA 0 5 none 0 0 none 0 0 := ⟨_, rfl⟩
  obtain ⟨CB, hCB⟩ : ∃ C, C = smC 4 0 tB 0 6 none 0 0 none 0 0 := ⟨_, rfl⟩
  obtain ⟨KB, hKB⟩ : ∃ t, t = w.heap.size + 1 + 1 := ⟨_, rfl⟩
  obtain ⟨OB, hOB⟩ : ∃ t, t = w.heap.size + 1 + 1 + 1 := ⟨_, rfl⟩
  obtain ⟨QB, hQB⟩ : ∃ t, t = w.heap.size + 1 + 1 + 1 + 1 := ⟨_, rfl⟩
  obtain ⟨CQ, hCQ⟩ : ∃ C, C = smC 10 0 ⟨#[]⟩ 0 0 (some ⟨OB, 0, none⟩) 2 2 (some ⟨KB, 0, none⟩) 2 2 := ⟨_, rfl⟩
  obtain ⟨V1, hV1⟩ : ∃ V, V = w.alloc (.cells CA.toArray 29) := ⟨_, rfl⟩
  obtain ⟨V2, hV2⟩ : ∃ V, V = V1.alloc (.cells CB.toArray 29) := ⟨_, rfl⟩
  obtain ⟨V3, hV3⟩ : ∃ V, V = V2.alloc (.cells (CA ++ CB).toArray 29) := ⟨_, rfl⟩
  obtain ⟨V4, hV4⟩ : ∃ V, V = V3.alloc (.cells #[.int .i64 0, .int .i64 0] 3) := ⟨_, rfl⟩
  obtain ⟨V5, hV5⟩ : ∃ V, V = V4.alloc (.cells CQ.toArray 29) := ⟨_, rfl⟩
  obtain ⟨V6, hV6⟩ : ∃ V, V = V5.alloc (.cells #[.int .i64 6] 3) := ⟨_, rfl⟩
  have s1 : V1.heap.size = w.heap.size + 1 := by rw [hV1]; simp
  have s2 : V2.heap.size = w.heap.size + 1 + 1 := by rw [hV2]; simp [s1]
  have s3 : V3.heap.size = w.heap.size + 1 + 1 + 1 := by rw [hV3]; simp [s2]
  have s4 : V4.heap.size = w.heap.size + 1 + 1 + 1 + 1 := by rw [hV4]; simp [s3]
  have s5 : V5.heap.size = w.heap.size + 1 + 1 + 1 + 1 + 1 := by rw [hV5]; simp [s4]
  have s6 : V6.heap.size = w.heap.size + 1 + 1 + 1 + 1 + 1 + 1 := by rw [hV6]; simp [s5]
  have b5 : Below w.heap.size w V5 := by rw [hV5, hV4, hV3, hV2, hV1]; exact Base.bel
  have b6 : Below w.heap.size w V6 := by rw [hV6]; exact b5.alloc b5.size _
  have K3 : Blk V6 KB 29 (CA ++ CB).toArray := by
    have k : Blk V3 KB 29 (CA ++ CB).toArray := by rw [hV3, hKB, ← s2]; exact Blk.new V2 _ _
    rw [hV6, hV5, hV4]
    exact ((k.alloc _).alloc _).alloc _
  have K4 : Blk V6 OB 3 #[.int .i64 0, .int .i64 0] := by
    have k : Blk V4 OB 3 #[.int .i64 0, .int .i64 0] := by rw [hV4, hOB, ← s3]; exact Blk.new V3 _ _
    rw [hV6, hV5]
    exact (k.alloc _).alloc _
  have K5 : Blk V5 QB 29 CQ.toArray := by rw [hV5, hQB, ← s4]; exact Blk.new V4 _ _
  have K6 : Blk V6 V5.heap.size 3 #[.int .i64 6] := by rw [hV6]; exact Blk.new V5 _ _
  have hq : QVal V6 V6.heap.size CQ qL := by
    rw [hCQ]
    refine QVal.mk (hdK 10 0 ⟨#[]⟩ 0 0 [0, 0]) [qT tA 5, qT tB 6] none none (some ⟨OB, 0, none⟩) (some ⟨KB, 0, none⟩) 0 0 2 2 (fun i => if i = 0 then CA else CB) (hwf_small (by decide) (by decide) (by decide) (by decide) (by decide) (by simp; decide) (by decide)) (by decide) (Slc.nil _) (Slc.nil _) (fun _ => ⟨OB, 0, rfl, by omega, fun j u hu => ?_⟩) (fun _ => ⟨KB, 0, rfl, by omega, fun i hi j u hu => ?_⟩) (fun i k hk => ?_)
    · rw [Nat.zero_add, K4.cell j, List.getElem?_toArray]
      exact hu
    · rw [Nat.zero_add, K3.cell (i * 15 + j)]
      simp only [List.length_cons, List.length_nil] at hi
      rcases (by omega : i = 0 ∨ i = 1) with rfl | rfl
      · simp only [if_true] at hu
        rw [Nat.zero_mul, Nat.zero_add, List.getElem?_toArray, List.getElem?_append_left (List.getElem?_eq_some_iff.1 hu).1]
        exact hu
      · simp only [Nat.one_ne_zero, if_false] at hu
        have hl : CA.length = 15 := by rw [hCA]; rfl
        rw [Nat.one_mul, List.getElem?_toArray, List.getElem?_append_right (by omega), hl, show 15 + j - 15 = j by omega]
        exact hu
    · rcases i with _ | _ | i
      · simp at hk; subst hk; simp only [if_true]; rw [hCA]; exact q_leaf _ _ _ _ (by decide) (by decide)
      · simp at hk; subst hk; simp only [Nat.zero_add, Nat.one_ne_zero, if_false]; rw [hCB]; exact q_leaf _ _ _ _ (by decide) (by decide)
      · simp at hk
  have hsums : Slc V6 V6.heap.size (some ⟨V5.heap.size, 0, none⟩) (ints [6]) := fun _ => ⟨_, 0, rfl, by omega, fun j u hu => by rw [Nat.zero_add, K6.cell j, List.getElem?_toArray]; exact hu⟩
  have shortL : Short qL := by
    refine .mk _ _ (by decide) (by decide) fun k hk => ?_
    simp only [List.mem_cons, List.not_mem_nil, or_false] at hk
    rcases hk with rfl | rfl <;> exact .mk _ _ (by decide) (by decide) (fun k hk => by cases hk)
  have P1 := Lib.hid (by
    have := program_good (hdK 10 0 ⟨#[]⟩ 0 0 [0, 0]) [qT tA 5, qT tB 6] none none (some ⟨OB, 0, none⟩) (some ⟨KB, 0, none⟩) 0 0 2 2 true none 0 [] 2 (some ⟨V5.heap.size, 0, none⟩) 1 [6] a a2 V6
      ⟨by rw [hCQ] at hq; exact hq, Slc.nil _, (by simp), (by decide), hsums, (by decide), (by simp), shortL, (by decide), T.below b6 hT, Nat.lt_of_lt_of_le hT b6.size, (b6.cell (p := ⟨0, 0, none⟩) hnl).trans hn, Nat.lt_of_lt_of_le hnl b6.size, (b6.cell (p := ⟨16, 0, none⟩) hcl).trans hc, Nat.lt_of_lt_of_le hcl b6.size⟩ good_L
    exact (show Calls Tryz.prog 8 #[.agg #[.int .i64 10, .int .i64 0, .string ⟨#[]⟩, .slice none 0 0, .slice none 0 0, .int .i64 0, .int .u64 0, .bool false, .bool false, .string ⟨#[]⟩, .bool false, .bool false, .string ⟨#[]⟩, .slice (some ⟨OB, 0, none⟩) 2 2, .slice (some ⟨KB, 0, none⟩) 2 2, .bool true, .slice none 0 0], .agg #[.int .i64 2, .slice (some ⟨V5.heap.size, 0, none⟩) 1 1]] V6 _ from this))
  have P2 := Lib.hid (show ∀ W, Below w.heap.size w W → Calls Tryz.prog 8 #[.agg #[.int .i64 0, .int .i64 0, .string ⟨#[]⟩, .slice none 0 0, .slice none 0 0, .int .i64 0, .int .u64 0, .bool false, .bool false, .string ⟨#[]⟩, .bool false, .bool false, .string ⟨#[]⟩, .slice none 0 0, .slice none 0 0, .bool false, .slice none 0 0], .agg #[.int .i64 0, .slice none 0 0]] W fun e w' => e = .returned (.tuple #[.agg #[.slice none 0 0, .slice none 0 0, .slice none 0 0, .bool false, .slice none 0 0, .slice none 0 0], .iface 222 (.pointer (some a))]) ∧ Below W.heap.size W w' from fun W hb => by
    have := program_bad (hdK 0 0 ⟨#[]⟩ 0 0 []) [] none none none none 0 0 0 0 false none 0 [] 0 none 0 [] a a2 W
      ⟨QVal.mk (hdK 0 0 ⟨#[]⟩ 0 0 []) [] none none none none 0 0 0 0 (fun _ => []) (hwf_small (by decide) (by decide) (by decide) (by decide) (by decide) (by simp) (by decide)) (by decide) (Slc.nil _) (Slc.nil _) (Slc.nil _) (fun h => absurd rfl h) (fun i k h => by simp at h), Slc.nil _, (by simp), (by decide), Slc.nil _, (by decide), (by simp), .mk _ _ (by decide) (by decide) (fun k hk => by cases hk), (by decide), T.below hb hT, Nat.lt_of_lt_of_le hT hb.size, (hb.cell (p := ⟨0, 0, none⟩) hnl).trans hn, Nat.lt_of_lt_of_le hnl hb.size, (hb.cell (p := ⟨16, 0, none⟩) hcl).trans hc, Nat.lt_of_lt_of_le hcl hb.size⟩ good_0
    exact this)
  have EE : ∀ wx : World, (binOp .eql 42 (.iface 222 (.pointer (some a))) (.iface 222 (.pointer (some a)))).run Tryz.prog wx = .ok (.bool true) wx := fun wx => by
    obtain ⟨i, hi, hc⟩ := info_comp
    obtain ⟨j, hj⟩ := info_str
    exact run_eql_iface_ptr_same wx a Tryz.underlying42 Tryz.underlying222 hi hc hj
  have HCA := Lib.hid hCA
  have HCB := Lib.hid hCB
  have HCQ := Lib.hid hCQ
  have HB6 := Lib.hid b6
  have HV6 := Lib.hid hV6
  have HT := Lib.hid T
  have HN := Lib.hid hn
  have HC := Lib.hid hc
  rw [hCA] at hV1 hV3
  rw [hCB] at hV2 hV3
  rw [hCQ] at hV5 K5
  unfold smC at hV1 hV2 hV3 hV5 K5
  simp only [List.cons_append, List.nil_append] at hV3
  have HV1 := Lib.hid hV1
  have HV2 := Lib.hid hV2
  have HV3 := Lib.hid hV3
  have HV4 := Lib.hid hV4
  have HV5 := Lib.hid hV5
  have HKB := Lib.hid hKB
  have HOB := Lib.hid hOB
  have HQB := Lib.hid hQB
  have HK5 := Lib.hid K5
  have hs6 : V6.heap.size = V5.heap.size + 1 := by omega
  have HS6 := Lib.hid hs6
  obtain ⟨x0, x1, x2, x3, x4, x5, x6, x7, x8, x9, x10, x11, x12, x13, x14⟩ := qrow K5
  clear hCA hCB hCQ b6 b5 hV1 hV2 hV3 hV4 hV5 hV6 hKB hOB hQB s1 s2 s3 s4 s5 s6 K3 K4 K5 K6 hq hsums shortL T hn hc hs6
  go_enter Tryz.func6, Tryz.ntmps6
  go_upto_region 4 with fail
  rw [← HQB.out, ← HOB.out, ← HKB.out]
  unfold tA at HV1 HV3
  unfold tB at HV2 HV3
  rw [← HV1.out, ← HV2.out, ← HV3.out, ← HV4.out, ← HV5.out]
  go_upto_region 5 with (go_at_call 8; rw [← HV6.out]; (with_reducible refine P1.out.mono ?_); rintro e w7 ⟨AA, cA, AC, cC, AN, cN, AV, cV, AK, C, nc, rfl, hC1, hC2, hsA, hsC, hsV, hsK, hown, hrs, hb7⟩; obtain rfl := cur_L hC1 hC2; have eK : (enc (codeOf [(⟨0, tA⟩ : Lf), ⟨0, tB⟩] (.mk (hdK 10 0 ⟨#[]⟩ 0 0 [0, 0]) [qT tA 5, qT tB 6]))) = [4, 0, 5, 4, 1, 6, 7, 0] := (congrArg enc code_L).trans enc_L; have eA : [(6 : Int)].map (avgOf 2) = [3] := rfl; rw [eK] at hsK ⊢; rw [eA] at hsA ⊢; obtain ⟨NN, hNN⟩ : ∃ n, n = (nearsOf [(⟨0, tA⟩ : Lf), ⟨0, tB⟩] (.mk (hdK 10 0 ⟨#[]⟩ 0 0 [0, 0]) [qT tA 5, qT tB 6])).length := ⟨_, rfl⟩; rw [← hNN]; obtain ⟨DD, hDD⟩ : ∃ n, n = (driveL (numOf [(⟨0, tA⟩ : Lf), ⟨0, tB⟩]) []).length := ⟨_, rfl⟩; rw [← hDD]; have HSA := Lib.hid hsA; have HSK := Lib.hid hsK; have HB7 := Lib.hid hb7; clear hC1 hC2 hsA hsC hsV hsK hown hrs hb7 hNN hDD eK eA; dsimp only [List.length_cons, List.length_nil])
  clear x0 x1 x2 x3 x4 x5 x6 x7 x8 x9 x10 x11 x12 x13 x14
  obtain ⟨V8, hV8⟩ : ∃ V, V = w7.alloc (.cells #[.slice AA 1 cA, .slice AC 2 cC, .slice AN NN cN, .bool true, .slice AV DD cV, .slice AK 8 8] 40) := ⟨_, rfl⟩
  obtain ⟨PB, hPB⟩ : ∃ b, b = w7.heap.size := ⟨_, rfl⟩
  have b8 : Below w7.heap.size w7 V8 := by rw [hV8]; exact Base.bel
  have K8 : Blk V8 PB 40 #[.slice AA 1 cA, .slice AC 2 cC, .slice AN NN cN, .bool true, .slice AV DD cV, .slice AK 8 8] := by rw [hV8, hPB]; exact Blk.new _ _ _
  have bw8 : Below w.heap.size w V8 := HB6.out.trans ((HB7.out.mono HB6.out.size).trans (b8.mono (Nat.le_trans HB6.out.size HB7.out.size)))
  have P28 := Lib.hid (P2.out V8 bw8)
  have HK8 := Lib.hid K8
  have HB8 := Lib.hid b8
  have HBW8 := Lib.hid bw8
  rw [← hPB, ← hV8]
  clear hV8 K8 b8 bw8 P1 P2 hPB
  go_upto_region 6 with (go_at_call 8; (with_reducible refine P28.out.mono ?_); rintro e w9 ⟨rfl, hb9⟩; have HB9 := Lib.hid hb9; clear hb9)
  obtain ⟨V10, hV10⟩ : ∃ V, V = w9.alloc (.cells #[.slice none 0 0, .slice none 0 0, .slice none 0 0, .bool false, .slice none 0 0, .slice none 0 0] 40) := ⟨_, rfl⟩
  have b10 : Below V8.heap.size V8 V10 := by rw [hV10]; exact HB9.out.alloc HB9.out.size _
  have K10 := HK8.out.below b10 HK8.out.lt
  have p0 : V10.cell? ⟨PB, 0, none⟩ = some (.slice AA 1 cA) := K10.cell 0
  have p1 : V10.cell? ⟨PB, 1, none⟩ = some (.slice AC 2 cC) := K10.cell 1
  have p5 : V10.cell? ⟨PB, 5, none⟩ = some (.slice AK 8 8) := K10.cell 5
  have bw10 : Below w.heap.size w V10 := HBW8.out.trans (b10.mono HBW8.out.size)
  have b710 : Below w7.heap.size w7 V10 := bchain HB8.out b10
  have n0 : V10.cell? ⟨0, 0, none⟩ = some (.iface 222 (.pointer (some a))) := (bw10.cell (p := ⟨0, 0, none⟩) hnl).trans HN.out
  obtain ⟨g1, o1, rfl, hg1, hc1⟩ := HSA.out (by simp [ints])
  obtain ⟨g2, o2, rfl, hg2, hc2⟩ := HSK.out (by simp [byteCells])
  have z0 : V10.cell? ⟨g1, o1, none⟩ = some (.int .i64 3) := (b710.cell (p := ⟨g1, o1, none⟩) hg1).trans (by have := hc1 0 _ rfl; rwa [Nat.add_zero] at this)
  have CV : (convert 38 9 (.slice (some ⟨g2, o2, none⟩) 8 8)).run Tryz.prog V10 = .ok (.string ⟨#[4, 0, 5, 4, 1, 6, 7, 0]⟩) V10 :=
    run_convert_bytes_back V10 _ _ 5 ⟨g2, o2, none⟩ 8 [4, 0, 5, 4, 1, 6, 7, 0] (by kernel_rfl) (by kernel_rfl) (by kernel_rfl) (fun j hj => by
      rw [Addr.add_lit]
      exact (b710.cell (p := ⟨g2, o2 + j, none⟩) hg2).trans (hc2 j _ (by unfold byteCells; rw [List.getElem?_map, List.getElem?_eq_getElem hj]; rfl)))
  have HBW10 := Lib.hid bw10
  rw [← hV10]
  clear hV10 b10 K10 bw10 b710 hc1 hc2 P28
  go_wp2_with fail
  go_ret
  exact ⟨rfl, HBW10.out⟩
end Go.Proofs.YtfpikilhbkeajaaGreatDoor.LawLives
