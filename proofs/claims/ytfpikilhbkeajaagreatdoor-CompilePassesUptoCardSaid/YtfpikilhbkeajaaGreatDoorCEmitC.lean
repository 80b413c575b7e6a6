/-
  The walk of the emitter's some.
  Code laid behind other code; the list function's code from a region on.
  The walk of the emitter's list: its last part.
  The walk of the emitter's list: the must-nots.
  The walk of the emitter's list: the shoulds of which some must match.
  The walk of the emitter's list: the musts.
-/
import Derived.Test.YtfpikilhbkeajaaGreatDoorCEmitB
set_option linter.unusedVariables false
set_option linter.unusedSimpArgs false
namespace Go.Proofs.YtfpikilhbkeajaaGreatDoor.EmitSome
set_option maxRecDepth 100000
open Go.RowKit Go.PlainAid Base Query QrySize EmitPlain EmitBase EmitPut LeafMap EmitNear EmitRaw EmitMost

theorem kid_rawO {l : List Lay} {f : Lay} {n k : Nat} (h : l[k + 1]? = some f) {r : List (Bool × Ins) × List Nr} (hr : chn none none (l.take (k + 1)) n = r) : chn none none (l.take (k + 1 + 1)) n = (r.1 ++ (f (n + r.2.length)).1.map (fun i => (false, i)), r.2 ++ (f (n + r.2.length)).2) := by
  rw [chn_take h]
  simp [cat, further, nop, fin, hr]

set_option maxHeartbeats 2000000 in
theorem some_any (x : Lf → Int) (ks : List Qry) (IH : ∀ k ∈ ks, QC x k) (A4 : Option Addr) (c4 : Nat) (nd : Int) (E : Nat) (h : EH) (L : List Ins) (NS : List Nr) (nc : List Value) (nv cv : Value) (nm : Nat) (full : Bool) (w : World)
    (m : Em w E h L NS nc nv cv) (hx : IsNum w h.mb nm x) (hmb : h.mb < E) (hkl : KL w E A4 ks) (hks : ks.length ≤ 1099511627776) (hnd : 0 < nd) (hnu : nd ≤ 1099511627776)
    (hfit : Fits L NS (someF nd full (ks.map fun k => emit x k full) NS.length).1.length (someF nd full (ks.map fun k => emit x k full) NS.length).2.length) :
    Calls Tryz.prog 79 #[.pointer (some ⟨E, 0, none⟩), .slice A4 ks.length c4, .int .i64 nd, .bool full] w fun e w' => e = .returned (.tuple #[]) ∧
      EmE w w' E h (L ++ (someF nd full (ks.map fun k => emit x k full) NS.length).1) (NS ++ (someF nd full (ks.map fun k => emit x k full) NS.length).2) nc := by
  obtain ⟨sk, hsk⟩ : ∃ s, s = (if nd = 1 ∧ full = false then some (16 : Int) else none) := ⟨_, rfl⟩
  obtain ⟨op, hop⟩ : ∃ s, s = (if nd = 1 then some (7 : Int) else none) := ⟨_, rfl⟩
  obtain ⟨fs, hfs⟩ : ∃ fs, fs = ks.map fun k => emit x k full := ⟨_, rfl⟩
  rw [← hfs] at hfit ⊢
  have hfl : fs.length = ks.length := by rw [hfs]; simp
  unfold someF at hfit ⊢
  simp only [← hsk, ← hop] at hfit ⊢
  obtain ⟨ls, hls⟩ : ∃ l, l = (if 1 < nd then [(⟨14, (fs.length : Int), nd⟩ : Ins)] else []) := ⟨_, rfl⟩
  rw [← hls] at hfit ⊢
  have HLS := Lib.hid hls
  have hfit2 : Fits L NS ((chn sk op fs) NS.length).1.length ((chn sk op fs) NS.length).2.length := by
    unfold Fits at hfit ⊢
    simp only [shut, List.length_append, landR_length] at hfit
    omega
  have HFIT1 := Lib.hid hfit
  have HFL := Lib.hid hfl
  have HR0 := Lib.hid (Raw.start m)
  have HSK := Lib.hid hsk
  have HOP := Lib.hid hop
  have HFS := Lib.hid hfs
  have HKL := Lib.hid hkl
  have HFIT := Lib.hid hfit2
  have HIH := Lib.hid IH
  have HX := Lib.hid hx
  have hE := m.lt
  clear hls hsk hfs hkl hfit hfit2 IH hx hop hfl
  go_enter Tryz.func79, Tryz.ntmps79
  go_wp2_with fail
  go_loopw [13, 8] (fun i s wr => ∃ k : Nat, k ≤ ks.length ∧ i = .int .i64 k ∧ Raw w wr E h L NS nc (chn sk op (fs.take k) NS.length) s) (fun i _ _ => ks.length - (intOf i).toNat)
  case atStart => exact ⟨0, Nat.zero_le _, rfl, HR0.out⟩
  case round =>
    obtain ⟨k, hk, rfl, hR⟩ := hrel
    rcases Nat.lt_or_ge k ks.length with hlt | hge
    · obtain ⟨y, hy⟩ : ∃ y, ks[k]? = some y := ⟨_, List.getElem?_eq_getElem hlt⟩
      obtain ⟨g, o', rfl, B1, B2, B3, B4, d1, d2, d3, d4, hq, x0, x1, x2, x3, x4, x5, x6, x7, x8, x9, x10, x11, x12, x13, x14⟩ := kl_kid (HKL.out.kept hR.keeps (Nat.le_of_lt hE)) hy
      have i1 : (k : Int) < (ks.length : Int) := by omega
      have i3 : (k : Int) < 9223372036854775807 := by omega
      have hfk : fs[k]? = some (emit x y full) := by rw [HFS.out, List.getElem?_map, hy]; rfl
      have hIH := HIH.out y (List.mem_of_getElem? hy)
      unfold qcells at hq
      have HQ := Lib.hid hq
      have HFK := Lib.hid hfk
      have HRR := Lib.hid hR
      have HI := Lib.hid hIH
      clear hq hfk hR hIH hy
      go_upto_region 4 with fail
      obtain ⟨Q, hQ⟩ : ∃ Q, Q = qcells y.h y.kids.length B1 B2 B3 B4 d1 d2 d3 d4 := ⟨_, rfl⟩
      obtain ⟨W8, hW8⟩ : ∃ W, W = wr.alloc (.cells Q 29) := ⟨_, rfl⟩
      have T8 : Blk W8 wr.heap.size 29 Q := by rw [hW8]; exact Blk.new _ _ _
      have hb8 : Below wr.heap.size wr W8 := by rw [hW8]; exact Base.bel
      have hR8 := HRR.out.grow hb8
      have hq8 : QVal W8 E Q.toList y := by
        have hE2 := HRR.out.lt
        rw [hQ]; exact HQ.out.kept (hb8.mono (by omega)) (Nat.le_refl _)
      have HQ8 := Lib.hid hq8
      have HR8 := Lib.hid hR8
      unfold qcells at hQ
      rw [← hQ, ← hW8]
      rw [hQ] at T8
      have HQQ := Lib.hid hQ
      have H8 := Lib.hid hb8
      clear x0 x1 x2 x3 x4 x5 x6 x7 x8 x9 x10 x11 x12 x13 x14 hW8 hq8 hR8 hb8 hQ
      obtain ⟨A6, c6, rfl⟩ := HRR.out.slice
      obtain ⟨z0, z1, z2, z3, z4, z5, z6, z7, z8, z9, z10, z11, z12, z13, z14⟩ := qcs T8
      by_cases hk0 : k = 0
      · have HK0 := Lib.hid hk0
        have d0 : decide ((0 : Int) < (k : Int)) = false := decide_eq_false (by omega)
        have d0n : decide (0 < k) = false := decide_eq_false (by omega)
        clear hk0
        have HF8 : Hid (Fits (L ++ (chn sk op (fs.take k) NS.length).1.map Prod.snd) (NS ++ (chn sk op (fs.take k) NS.length).2) (emit x y full (NS.length + (chn sk op (fs.take k) NS.length).2.length)).1.length (emit x y full (NS.length + (chn sk op (fs.take k) NS.length).2.length)).2.length) := Lib.hid (by
          have hfit := HFIT.out
          have hkl := kid_len0 (sk := sk) (o := op) (n := NS.length) (f := emit x y full) (by have := HFK.out; rwa [HK0.out] at this)
          rw [HK0.out, chn_zero]
          unfold Fits at hfit ⊢
          simp only [List.map_nil, List.append_nil, List.length_nil, Nat.add_zero]
          omega)
        go_upto_region 7 with ((go_at_call 22; rw [← HQQ.out]; refine (raw_query HR8.out HI.out HX.out hmb (Nat.le_of_lt hE) HQ8.out HF8.out).mono ?_; rintro e w4 ⟨rfl, hk4, hR4⟩))
        clear z0 z1 z2 z3 z4 z5 z6 z7 z8 z9 z10 z11 z12 z13 z14
        go_wp2_with fail
        go_roundw
        case rel =>
          refine ⟨k + 1, by omega, by go_num, ?_⟩
          rw [HK0.out]
          rw [HK0.out, chn_zero] at hR4
          have := HFK.out
          rw [HK0.out] at this
          rw [kid_raw0 this]
          exact hR4
        case measure => simp [intOf]; omega
      · obtain ⟨k', hk'⟩ : ∃ k', k = k' + 1 := ⟨k - 1, by omega⟩
        have d0 : decide ((0 : Int) < (k : Int)) = true := decide_eq_true (by omega)
        have d0n : decide (0 < k) = true := decide_eq_true (by omega)
        have hlen := kid_len1 (sk := sk) (o := op) (n := NS.length) (by rw [← hk']; exact HFK.out)
        rw [← hk'] at hlen
        obtain ⟨r, hr⟩ : ∃ r, r = chn sk op (fs.take k) NS.length := ⟨_, rfl⟩
        rw [← hr] at hlen
        have HLN := Lib.hid hlen
        have HKK := Lib.hid hk'
        have HRE := Lib.hid hr
        rw [← hr] at HR8 ⊢
        clear hk0 hlen hk' hr HRR
        by_cases hn1 : nd = 1
        · subst hn1
          cases full
          · have hsk := HSK.out
            have hop := HOP.out
            simp only [and_self, if_true] at hsk hop
            subst hsk
            subst hop
            have hf1 : Hid ((L ++ r.1.map Prod.snd).length ≤ 1099511627776) := Lib.hid (by have h1 := HLN.out.1; have h2 := HFIT.out.1; simp at h1 ⊢; omega)
            have hf0 : (posns r.1 L.length).length ≤ 1099511627776 := by have h1 := posns_len r.1 L.length; have h2 := HLN.out.1; have h3 := HFIT.out.1; simp at h2; omega
            have hwE : w.heap.size ≤ W8.heap.size := HR8.out.keeps.size
            go_upto_region 6 with (first | (go_at_call 23; go_loud (refine (raw_skip 16 HR8.out hf1.out).mono ?_; rintro e w2 ⟨rfl, hk2, hM2⟩; have T2 := hk2.blk T8 qry_plain; have hw2 : w.heap.size ≤ w2.heap.size := hM2.keeps.size; have HM2 := Lib.hid hM2; have hq2 := HQ8.out.kept (hk2.below (by omega)) (Nat.le_refl _); have HQ2 := Lib.hid hq2; clear z0 z1 z2 z3 z4 z5 z6 z7 z8 z9 z10 z11 z12 z13 z14 hM2 hk2 hq2)) | (at_builtin; go_loud (refine wpList_append1k (base := w.heap.size) rfl _ _ rfl intEl HM2.out.own rfl rfl rfl rfl (by omega) (by unfold maxLen; omega) hw2 ?_; intro gg cap w3 ho3 hat3; have hR3 := HM2.out.list ho3 hat3; have T3 := T2.grown (hat_grown (Below.refl _ _) hat3) (fun e => own_ne HM2.out.own T2 (by decide) e.symm); have HR3 := Lib.hid hR3; have hq3 := HQ2.out.kept (grown_below (hat_grown (Below.refl _ _) hat3) (fun k e => by have := (HM2.out.own.lt k e).1; omega) (by omega)) (Nat.le_refl _); have HQ3 := Lib.hid hq3; clear ho3 hat3 hR3 hq3)))
            obtain ⟨z0, z1, z2, z3, z4, z5, z6, z7, z8, z9, z10, z11, z12, z13, z14⟩ := qcs T3
            have hf2 : Hid (Fits (L ++ (r.1 ++ [(true, (⟨16, 0, 0⟩ : Ins))]).map Prod.snd) (NS ++ r.2) (emit x y false (NS.length + r.2.length)).1.length (emit x y false (NS.length + r.2.length)).2.length) := Lib.hid (by
              have h1 := HLN.out; have h2 := HFIT.out; unfold Fits at h2 ⊢; simp at h1 ⊢; omega)
            have hf3 : Hid ((L ++ ((r.1 ++ [(true, (⟨16, 0, 0⟩ : Ins))]) ++ (emit x y false (NS.length + r.2.length)).1.map (fun i => (false, i))).map Prod.snd).length ≤ 1099511627776) := Lib.hid (by
              have h1 := HLN.out; have h2 := HFIT.out; unfold Fits at h2; simp at h1 ⊢; omega)
            go_upto_region 7 with ((go_at_call 22; rw [← HQQ.out]; refine (raw_query HR3.out HI.out HX.out hmb (Nat.le_of_lt hE) HQ3.out hf2.out).mono ?_; rintro e w4 ⟨rfl, hk4, hR4⟩; have HR4 := Lib.hid hR4; clear hR4 hk4))
            clear z0 z1 z2 z3 z4 z5 z6 z7 z8 z9 z10 z11 z12 z13 z14
            go_upto_region 9 with ((go_at_call 23; refine (raw_put 7 0 0 HR4.out hf3.out).mono ?_; rintro e w5 ⟨⟨v5, rfl⟩, hk5, hR5⟩; have HR5 := Lib.hid hR5; clear hR5 hk5))
            go_wp2_with fail
            go_roundw
            case rel =>
              refine ⟨k + 1, by omega, by go_num, ?_⟩
              have hfk := HFK.out
              rw [HKK.out] at hfk ⊢
              rw [kid_rawS hfk (r := r) (by rw [← HKK.out]; exact HRE.out.symm)]
              exact HR5.out
            case measure => simp [intOf]; omega
          · have hsk := HSK.out
            have hop := HOP.out
            simp only [Bool.true_eq_false, and_false, if_false, if_true] at hsk hop
            subst hsk
            subst hop
            have hf2 : Hid (Fits (L ++ r.1.map Prod.snd) (NS ++ r.2) (emit x y true (NS.length + r.2.length)).1.length (emit x y true (NS.length + r.2.length)).2.length) := Lib.hid (by
              have h1 := HLN.out; have h2 := HFIT.out; unfold Fits at h2 ⊢; simp at h1 ⊢; omega)
            have hf3 : Hid ((L ++ (r.1 ++ (emit x y true (NS.length + r.2.length)).1.map (fun i => (false, i))).map Prod.snd).length ≤ 1099511627776) := Lib.hid (by
              have h1 := HLN.out; have h2 := HFIT.out; unfold Fits at h2; simp at h1 ⊢; omega)
            go_upto_region 7 with ((go_at_call 22; rw [← HQQ.out]; refine (raw_query HR8.out HI.out HX.out hmb (Nat.le_of_lt hE) HQ8.out hf2.out).mono ?_; rintro e w4 ⟨rfl, hk4, hR4⟩; have HR4 := Lib.hid hR4; clear hR4 hk4))
            clear z0 z1 z2 z3 z4 z5 z6 z7 z8 z9 z10 z11 z12 z13 z14
            go_upto_region 9 with ((go_at_call 23; refine (raw_put 7 0 0 HR4.out hf3.out).mono ?_; rintro e w5 ⟨⟨v5, rfl⟩, hk5, hR5⟩; have HR5 := Lib.hid hR5; clear hR5 hk5))
            go_wp2_with fail
            go_roundw
            case rel =>
              refine ⟨k + 1, by omega, by go_num, ?_⟩
              have hfk := HFK.out
              rw [HKK.out] at hfk ⊢
              rw [kid_rawN hfk (r := r) (by rw [← HKK.out]; exact HRE.out.symm)]
              exact HR5.out
            case measure => simp [intOf]; omega
        · have hsk := HSK.out
          have hop := HOP.out
          have dn : (nd == 1) = false := beq_eq_false_iff_ne.2 hn1
          rw [if_neg (fun h => hn1 h.1)] at hsk
          rw [if_neg hn1] at hop
          subst hsk
          subst hop
          have HN1 := Lib.hid hn1
          clear hn1
          have hf2 : Hid (Fits (L ++ r.1.map Prod.snd) (NS ++ r.2) (emit x y full (NS.length + r.2.length)).1.length (emit x y full (NS.length + r.2.length)).2.length) := Lib.hid (by
            have h1 := HLN.out; have h2 := HFIT.out; unfold Fits at h2 ⊢; simp at h1 ⊢; omega)
          go_upto_region 7 with ((go_at_call 22; rw [← HQQ.out]; refine (raw_query HR8.out HI.out HX.out hmb (Nat.le_of_lt hE) HQ8.out hf2.out).mono ?_; rintro e w4 ⟨rfl, hk4, hR4⟩; have HR4 := Lib.hid hR4; clear hR4 hk4))
          clear z0 z1 z2 z3 z4 z5 z6 z7 z8 z9 z10 z11 z12 z13 z14
          go_wp2_with fail
          go_roundw
          case rel =>
            refine ⟨k + 1, by omega, by go_num, ?_⟩
            have hfk := HFK.out
            rw [HKK.out] at hfk ⊢
            rw [kid_rawO hfk (r := r) (by rw [← HKK.out]; exact HRE.out.symm)]
            exact HR4.out
          case measure => simp [intOf]; omega
    · obtain rfl : k = ks.length := by omega
      have hfl := HFL.out
      rw [← hfl, List.take_length] at hR
      obtain ⟨A6, c6, rfl⟩ := hR.slice
      have hf1 : Hid ((L ++ ((chn sk op fs) NS.length).1.map Prod.snd).length ≤ 1099511627776) := Lib.hid (by have h2 := HFIT.out.1; simp at h2 ⊢; omega)
      have HRZ := Lib.hid hR
      clear hR hfl
      by_cases hn1 : 1 < nd
      · have dn : decide ((1 : Int) < nd) = true := decide_eq_true hn1
        have wn : IntKind.u64.wrap nd = nd := IntWalk.u64_in _ (by omega)
        have wl : IntKind.u64.wrap (ks.length : Int) = (ks.length : Int) := IntWalk.u64_in _ (by omega)
        have hif : Hid (ls = [⟨14, (ks.length : Int), nd⟩]) := Lib.hid (by rw [HLS.out, if_pos hn1, HFL.out])
        have HN1 := Lib.hid hn1
        have hf2 : Hid ((L ++ landR ((chn sk op fs) NS.length).1).length ≤ 1099511627776) := Lib.hid (by have h2 := HFIT.out.1; simp [landR_length] at h2 ⊢; omega)
        clear hn1
        go_upto_region 12 with (go_at_call 76; refine (raw_land HRZ.out hf1.out).mono ?_; rintro e w4 ⟨rfl, hk4, nv4, cv4, nc4, hm4, hn4⟩; have HM4 := Lib.hid hm4; have HN4 := Lib.hid hn4; have HK4 := Lib.hid hk4; clear hm4 hn4 hk4)
        go_wp2_with (go_at_call 23; refine (put_any E h _ _ _ nv4 cv4 14 _ _ w4 HM4.out hf2.out).mono ?_; rintro e w5 ⟨rfl, hk5, nv5, cv5, nc5, hm5, hn5⟩)
        go_end0
        refine ⟨rfl, HK4.out.trans hk5, nv5, cv5, nc4 ++ nc5, ?_, HN4.out.app (hn5.mono HK4.out.size)⟩
        rw [hif.out]
        simpa [shut, List.append_assoc] using hm5
      · have dn : decide ((1 : Int) < nd) = false := decide_eq_false hn1
        have hif : Hid (ls = []) := Lib.hid (by rw [HLS.out, if_neg hn1])
        clear hn1
        go_wp2_with (go_at_call 76; refine (raw_land HRZ.out hf1.out).mono ?_; rintro e w4 ⟨rfl, hk4⟩)
        go_end0
        rw [hif.out, List.append_nil]
        exact ⟨rfl, hk4⟩
end Go.Proofs.YtfpikilhbkeajaaGreatDoor.EmitSome

namespace Go.Proofs.YtfpikilhbkeajaaGreatDoor.EmitExt
set_option maxRecDepth 100000
open Go.RowKit Go.PlainAid Base Query QrySize EmitPlain EmitBase EmitPut LeafMap EmitNear EmitRaw EmitMost EmitSplit EmitMiss

def ext (n : Nat) (r : List (Bool × Ins) × List Nr) (f : Lay?) : List (Bool × Ins) × List Nr := (r.1 ++ (f (n + r.2.length)).1, r.2 ++ (f (n + r.2.length)).2)
section
variable {n : Nat} {r : List (Bool × Ins) × List Nr} {f : Lay} {F G : Lay?}
theorem ext_cat (n : Nat) (r : List (Bool × Ins) × List Nr) (F G : Lay?) : ext n (ext n r F) G = ext n r ((EmitPlain.cat F G)) := by
  simp [ext, cat, List.append_assoc, Nat.add_assoc]
theorem ext_nop (n : Nat) (r : List (Bool × Ins) × List Nr) : ext n r nop = r := by simp [ext, nop]
theorem ext_start (n : Nat) (F : Lay?) : ext n ([], []) F = F n := by simp [ext]
theorem ext_fin (n : Nat) (r : List (Bool × Ins) × List Nr) (f : Lay) : ext n r (fin f) = (r.1 ++ (f (n + r.2.length)).1.map (fun i => (false, i)), r.2 ++ (f (n + r.2.length)).2) := rfl
theorem ext_skp (n : Nat) (r : List (Bool × Ins) × List Nr) (o : Int) : ext n r (skp o) = (r.1 ++ [(true, ⟨o, 0, 0⟩)], r.2) := by simp [ext, skp]
theorem ext_one (n : Nat) (r : List (Bool × Ins) × List Nr) (o a b : Int) : ext n r (one o a b) = (r.1 ++ [(false, ⟨o, a, b⟩)], r.2) := by simp [ext, one]
theorem ext_further (sk o : Option Int) : further sk o f = (EmitPlain.cat (match sk with | some s => skp s | none => nop) (EmitPlain.cat (fin f) (match o with | some p => one p 0 0 | none => nop))) := rfl
theorem ext_len (n : Nat) (r : List (Bool × Ins) × List Nr) (F : Lay?) : (ext n r F).1.length = r.1.length + (F (n + r.2.length)).1.length ∧ (ext n r F).2.length = r.2.length + (F (n + r.2.length)).2.length := by simp [ext]
theorem ext_le (n : Nat) (r : List (Bool × Ins) × List Nr) (F G : Lay?) : (ext n r F).1.length ≤ (ext n r ((EmitPlain.cat F G))).1.length ∧ (ext n r F).2.length ≤ (ext n r ((EmitPlain.cat F G))).2.length := by
  rw [← ext_cat]
  have := ext_len n (ext n r F) G
  omega
theorem ext_round {sk o : Option Int} {l : List Lay} {k : Nat} (hf : l[k]? = some f) : ext n r (furthers sk o (l.take (k + 1))) = ext n (ext n r (furthers sk o (l.take k))) (further sk o f) := by
  rw [furthers_take hf, ext_cat]
theorem ext_round_le {sk o : Option Int} {l : List Lay} (k : Nat) : (ext n r (furthers sk o (l.take k))).1.length ≤ (ext n r (furthers sk o l)).1.length ∧ (ext n r (furthers sk o (l.take k))).2.length ≤ (ext n r (furthers sk o l)).2.length := by
  have e : furthers sk o l = (EmitPlain.cat (furthers sk o (l.take k)) (furthers sk o (l.drop k))) := by rw [← furthers_append, List.take_append_drop]
  rw [e]
  exact ext_le _ _ _ _
theorem ext_fN (p : Int) : ext n r (further none (some p) f) = ((r.1 ++ (f (n + r.2.length)).1.map (fun i => (false, i))) ++ [(false, ⟨p, 0, 0⟩)], r.2 ++ (f (n + r.2.length)).2) := by
  simp [ext, further, cat, nop, fin, one]
theorem ext_fS (s p : Int) : ext n r (further (some s) (some p) f) = (((r.1 ++ [(true, ⟨s, 0, 0⟩)]) ++ (f (n + r.2.length)).1.map (fun i => (false, i))) ++ [(false, ⟨p, 0, 0⟩)], r.2 ++ (f (n + r.2.length)).2) := by
  simp [ext, further, cat, skp, fin, one]
end

/-! The function's code, statement by statement. -/
def headR : Code → Option Nat
  | .region r _ _ => some r
  | .seq a _ => headR a
  | _ => none
def fromR (k : Nat) : Code → Option Code
  | .seq a c => if headR a = some k then some (.seq a c) else fromR k c
  | c => if headR c = some k then some c else none
def fst' : Code → Code
  | .seq a _ => a
  | c => c
noncomputable def tailL (k : Nat) : Code := ((Tryz.f51.body).bind (fromR k)).getD .skip
noncomputable def partL (k : Nat) : Code := fst' (tailL k)
theorem cast_code {P : Program} {c c' : Code} {Q : Exit → Act → World → Prop} {a : Act} {w : World} (e : c = c') (h : Code.wp P c Q a w) : Code.wp P c' Q a w := e ▸ h
def IsL (w : World) (E : Nat) (h : EH) (L : List Ins) (NS : List Nr) (nc : List Value) (R : List (Bool × Ins) × List Nr) (e : Ending) (w' : World) : Prop := e = .returned (.tuple #[]) ∧ EmE w w' E h (L ++ landR R.1) (NS ++ R.2) nc
def missV (SB EB : Nat) : Value := .func (.func 78) #[] #[.pointer (some ⟨SB, 0, none⟩), .pointer (some ⟨EB, 0, none⟩)]

theorem raw_some {w wr : World} {E nm : Nat} {h : EH} {L : List Ins} {NS : List Nr} {nc : List Value} {r : List (Bool × Ins) × List Nr} {sv : Value} {x : Lf → Int} {S : List Qry} {AS : Option Addr} {cS : Nat} {nd : Int} {b : Bool} (m : Raw w wr E h L NS nc r sv) (IH : ∀ k ∈ S, QC x k) (hx : IsNum w h.mb nm x) (hmb : h.mb < E) (hE : E ≤ w.heap.size) (hS : KL wr E AS S) (hl : S.length ≤ 1099511627776) (hnd : 0 < nd) (hnu : nd ≤ 1099511627776)
    (hf : Fits L NS (ext NS.length r (fin (EmitPlain.someF nd b (S.map fun k => emit x k b)))).1.length (ext NS.length r (fin (EmitPlain.someF nd b (S.map fun k => emit x k b)))).2.length) :
    Calls Tryz.prog 79 #[.pointer (some ⟨E, 0, none⟩), .slice AS S.length cS, .int .i64 nd, .bool b] wr fun e w' => e = .returned (.tuple #[]) ∧ Keeps E wr w' ∧ Raw w w' E h L NS nc (ext NS.length r (fin (EmitPlain.someF nd b (S.map fun k => emit x k b)))) sv := by
  obtain ⟨nv, cv, nc', hm, hn, ha⟩ := m.em
  have key := EmitSome.some_any x S IH AS cS nd E h (L ++ r.1.map Prod.snd) (NS ++ r.2) (nc ++ nc') nv cv nm b wr hm (hx.below (m.keeps.below hE) hmb) hmb hS hl hnd hnu (by
    have h1 := ext_len NS.length r (fin (EmitPlain.someF nd b (S.map fun k => emit x k b)))
    unfold Fits at hf ⊢
    rw [h1.1, h1.2] at hf
    simp only [fin, List.length_map] at hf
    simp only [List.length_append, List.length_map]
    omega)
  rw [List.length_append] at key
  exact key.mono fun e w' ⟨h1, h2⟩ => ⟨h1, h2.1, raw_code (nv := nv) (cv := cv) m hn ha h2⟩
end Go.Proofs.YtfpikilhbkeajaaGreatDoor.EmitExt

namespace Go.Proofs.YtfpikilhbkeajaaGreatDoor.EmitOpt
set_option maxRecDepth 100000
open Go.RowKit Go.PlainAid Base Query QrySize EmitPlain EmitBase EmitPut LeafMap EmitNear EmitRaw EmitMost EmitSplit EmitMiss EmitExt 

theorem blk_keepL {w w' : World} {g : Nat} {cs : Array Value} (h : KeepL w w') (hb : Blk w g 29 cs) : Blk w' g 29 cs := (h.block g cs _ _ hb (.inl rfl)).trans hb
set_option maxHeartbeats 8000000 in
theorem optN {u0 u1 u4 u5 u6 u8 u12 u13 u14 u15 u16 u17 u18 u19 u20 u21 u22 u23 u24 u25 u26 u27 u28 u29 u30 u31 u32 u33 u34 u35 u36 u37 u38 u39 u40 u41 u42 u43 u44 u45 u46 u47 u48 u49 u50 u51 u52 u53 u54 u55 u56 u57 u58 u59 u60 u61 u62 u63 u64 u65 u66 u67 u68 u69 u70 u71 u72 u73 u74 u75 u76 u77 u78 u79 u80 u81 u82 u83 u84 u85 u86 u87 u88 u89 u90 u91 u92 u93 u94 u95 u96 u97 u98 u99 u100 u101 u102 u103 u104 u105 u106 u107 u108 u109 u110 u111 u112 u113 u114 u115 u116 u117 u118 : Value} {K : Act → World → Prop} {Q : Exit → Act → World → Prop} {w wo : World} {x : Lf → Int} {E SB EB nm : Nat} {h : EH} {L : List Ins} {NS : List Nr} {nc : List Value} {r : List (Bool × Ins) × List Nr} {sv : Value} {full : Bool} {nd : Int} {S : List Qry} {AS : Option Addr} {cS : Nat} (m : RawB w wo E SB EB h L NS nc r sv) (hE : E < w.heap.size) (hx : IsNum w h.mb nm x) (hmb : h.mb < E) (hS : KLQ wo E AS S) (IS : ∀ k ∈ S, QC x k) (nS : S.length ≤ 1048576)
    (hno : ¬ (nd = 0 ∧ S ≠ [] ∧ full = true)) (hfit : Fits L NS r.1.length r.2.length)
    (hK : ∀ (u0 u1 u4 u5 u6 u8 u12 u13 u14 u15 u16 u17 u18 u19 u20 u21 u22 u23 u24 u25 u26 u27 u28 u29 u30 u31 u32 u33 u34 u35 u36 u37 u38 u39 u40 u41 u42 u43 u44 u45 u46 u47 u48 u49 u50 u51 u52 u53 u54 u55 u56 u57 u58 u59 u60 u61 u62 u63 u64 u65 u66 u67 u68 u69 u70 u71 u72 u73 u74 u75 u76 u77 u78 u79 u80 u81 u82 u83 u84 u85 u86 u87 u88 u89 u90 u91 u92 u93 u94 u95 u96 u97 u98 u99 u100 u101 u102 u103 u104 u105 u106 u107 u108 u109 u110 u111 u112 u113 u114 u115 u116 u117 u118 : Value) (wz : World) (sz : Value), RawB w wz E SB EB h L NS nc r sz → KeepL wo wz → Below E wo wz → K ⟨#[u0, u1, .bool full, .pointer (some ⟨EB, 0, none⟩), u4, u5, u6, .slice AS S.length cS, u8, .int .i64 nd, .pointer (some ⟨SB, 0, none⟩), .func (.func 78) #[] #[.pointer (some ⟨SB, 0, none⟩), .pointer (some ⟨EB, 0, none⟩)], u12, u13, u14, u15, u16, u17, u18, u19, u20, u21, u22, u23, u24, u25, u26, u27, u28, u29, u30, u31, u32, u33, u34, u35, u36, u37, u38, u39, u40, u41, u42, u43, u44, u45, u46, u47, u48, u49, u50, u51, u52, u53, u54, u55, u56, u57, u58, u59, u60, u61, u62, u63, u64, u65, u66, u67, u68, u69, u70, u71, u72, u73, u74, u75, u76, u77, u78, u79, u80, u81, u82, u83, u84, u85, u86, u87, u88, u89, u90, u91, u92, u93, u94, u95, u96, u97, u98, u99, u100, u101, u102, u103, u104, u105, u106, u107, u108, u109, u110, u111, u112, u113, u114, u115, u116, u117, u118], []⟩ wz) :
    Code.wp Tryz.prog (partL 31) (Exit.then K Q) ⟨#[u0, u1, .bool full, .pointer (some ⟨EB, 0, none⟩), u4, u5, u6, .slice AS S.length cS, u8, .int .i64 nd, .pointer (some ⟨SB, 0, none⟩), .func (.func 78) #[] #[.pointer (some ⟨SB, 0, none⟩), .pointer (some ⟨EB, 0, none⟩)], u12, u13, u14, u15, u16, u17, u18, u19, u20, u21, u22, u23, u24, u25, u26, u27, u28, u29, u30, u31, u32, u33, u34, u35, u36, u37, u38, u39, u40, u41, u42, u43, u44, u45, u46, u47, u48, u49, u50, u51, u52, u53, u54, u55, u56, u57, u58, u59, u60, u61, u62, u63, u64, u65, u66, u67, u68, u69, u70, u71, u72, u73, u74, u75, u76, u77, u78, u79, u80, u81, u82, u83, u84, u85, u86, u87, u88, u89, u90, u91, u92, u93, u94, u95, u96, u97, u98, u99, u100, u101, u102, u103, u104, u105, u106, u107, u108, u109, u110, u111, u112, u113, u114, u115, u116, u117, u118], []⟩ wo := by
  unfold partL tailL
  conv => arg 2; whnf
  have e9 : wo.cell? ⟨EB, 0, none⟩ = some (.pointer (some ⟨E, 0, none⟩)) := m.eb.cell 0
  obtain ⟨bn, hbn⟩ : ∃ b : Bool, b = (nd == 0) := ⟨_, rfl⟩
  obtain ⟨bs, hbs⟩ : ∃ b : Bool, b = decide (0 < S.length) := ⟨_, rfl⟩
  have hbs2 : decide ((0 : Int) < (S.length : Int)) = bs := by rw [hbs]; exact decide_eq_decide.2 (by omega)
  have hall : (bn && bs && full) = false := by
    rw [hbn, hbs]
    cases hn : (nd == 0)
    · rfl
    · cases hl : decide (0 < S.length)
      · rfl
      · cases full
        · rfl
        · exact absurd ⟨beq_iff_eq.1 hn, (fun e => by rw [e] at hl; simp at hl), rfl⟩ hno
  have HM := Lib.hid m
  have HKK := Lib.hid hK
  clear hno m hfit hS IS hx hK
  cases bn
  · have hbn2 : (nd == 0) = false := hbn.symm
    clear hbn hall hbs hbs2
    go_wp2_with fail
    exact HKK.out _ _ _ _ _ _ _ _ _ _ _ _ _ _ _ _ _ _ _ _ _ _ _ _ _ _ _ _ _ _ _ _ _ _ _ _ _ _ _ _ _ _ _ _ _ _ _ _ _ _ _ _ _ _ _ _ _ _ _ _ _ _ _ _ _ _ _ _ _ _ _ _ _ _ _ _ _ _ _ _ _ _ _ _ _ _ _ _ _ _ _ _ _ _ _ _ _ _ _ _ _ _ _ _ _ _ _ _ _ _ _ _ _ _ _ HM.out (KeepL.refl _) (Below.refl _ _)
  · have hbn2 : (nd == 0) = true := hbn.symm
    cases bs
    · have hbs3 : decide (0 < S.length) = false := hbs.symm
      clear hbn hall hbs
      go_wp2_with fail
      exact HKK.out _ _ _ _ _ _ _ _ _ _ _ _ _ _ _ _ _ _ _ _ _ _ _ _ _ _ _ _ _ _ _ _ _ _ _ _ _ _ _ _ _ _ _ _ _ _ _ _ _ _ _ _ _ _ _ _ _ _ _ _ _ _ _ _ _ _ _ _ _ _ _ _ _ _ _ _ _ _ _ _ _ _ _ _ _ _ _ _ _ _ _ _ _ _ _ _ _ _ _ _ _ _ _ _ _ _ _ _ _ _ _ _ _ _ _ HM.out (KeepL.refl _) (Below.refl _ _)
    · have hbs3 : decide (0 < S.length) = true := hbs.symm
      have hful : full = false := by simpa using hall
      subst hful
      clear hbn hall hbs
      go_wp2_with fail
      exact HKK.out _ _ _ _ _ _ _ _ _ _ _ _ _ _ _ _ _ _ _ _ _ _ _ _ _ _ _ _ _ _ _ _ _ _ _ _ _ _ _ _ _ _ _ _ _ _ _ _ _ _ _ _ _ _ _ _ _ _ _ _ _ _ _ _ _ _ _ _ _ _ _ _ _ _ _ _ _ _ _ _ _ _ _ _ _ _ _ _ _ _ _ _ _ _ _ _ _ _ _ _ _ _ _ _ _ _ _ _ _ _ _ _ _ _ _ HM.out (KeepL.refl _) (Below.refl _ _)
set_option maxHeartbeats 8000000 in
theorem optY {u0 u1 u4 u5 u6 u8 u12 u13 u14 u15 u16 u17 u18 u19 u20 u21 u22 u23 u24 u25 u26 u27 u28 u29 u30 u31 u32 u33 u34 u35 u36 u37 u38 u39 u40 u41 u42 u43 u44 u45 u46 u47 u48 u49 u50 u51 u52 u53 u54 u55 u56 u57 u58 u59 u60 u61 u62 u63 u64 u65 u66 u67 u68 u69 u70 u71 u72 u73 u74 u75 u76 u77 u78 u79 u80 u81 u82 u83 u84 u85 u86 u87 u88 u89 u90 u91 u92 u93 u94 u95 u96 u97 u98 u99 u100 u101 u102 u103 u104 u105 u106 u107 u108 u109 u110 u111 u112 u113 u114 u115 u116 u117 u118 : Value} {K : Act → World → Prop} {Q : Exit → Act → World → Prop} {w wo : World} {x : Lf → Int} {E SB EB nm : Nat} {h : EH} {L : List Ins} {NS : List Nr} {nc : List Value} {r : List (Bool × Ins) × List Nr} {sv : Value} {full : Bool} {nd : Int} {S : List Qry} {AS : Option Addr} {cS : Nat} (m : RawB w wo E SB EB h L NS nc r sv) (hE : E < w.heap.size) (hx : IsNum w h.mb nm x) (hmb : h.mb < E) (hS : KLQ wo E AS S) (IS : ∀ k ∈ S, QC x k) (nS : S.length ≤ 1048576)
    (hnd : nd = 0) (hne : S ≠ []) (hfu : full = true) (hfit : Fits L NS (ext NS.length r ((EmitPlain.cat (skp 15) (furthers none (some 9) (S.map fun k => emit x k true))))).1.length (ext NS.length r ((EmitPlain.cat (skp 15) (furthers none (some 9) (S.map fun k => emit x k true))))).2.length)
    (hK : ∀ (u0 u1 u4 u5 u6 u8 u12 u13 u14 u15 u16 u17 u18 u19 u20 u21 u22 u23 u24 u25 u26 u27 u28 u29 u30 u31 u32 u33 u34 u35 u36 u37 u38 u39 u40 u41 u42 u43 u44 u45 u46 u47 u48 u49 u50 u51 u52 u53 u54 u55 u56 u57 u58 u59 u60 u61 u62 u63 u64 u65 u66 u67 u68 u69 u70 u71 u72 u73 u74 u75 u76 u77 u78 u79 u80 u81 u82 u83 u84 u85 u86 u87 u88 u89 u90 u91 u92 u93 u94 u95 u96 u97 u98 u99 u100 u101 u102 u103 u104 u105 u106 u107 u108 u109 u110 u111 u112 u113 u114 u115 u116 u117 u118 : Value) (wz : World) (sz : Value), RawB w wz E SB EB h L NS nc (ext NS.length r ((EmitPlain.cat (skp 15) (furthers none (some 9) (S.map fun k => emit x k true))))) sz → KeepL wo wz → Below E wo wz → K ⟨#[u0, u1, .bool full, .pointer (some ⟨EB, 0, none⟩), u4, u5, u6, .slice AS S.length cS, u8, .int .i64 nd, .pointer (some ⟨SB, 0, none⟩), .func (.func 78) #[] #[.pointer (some ⟨SB, 0, none⟩), .pointer (some ⟨EB, 0, none⟩)], u12, u13, u14, u15, u16, u17, u18, u19, u20, u21, u22, u23, u24, u25, u26, u27, u28, u29, u30, u31, u32, u33, u34, u35, u36, u37, u38, u39, u40, u41, u42, u43, u44, u45, u46, u47, u48, u49, u50, u51, u52, u53, u54, u55, u56, u57, u58, u59, u60, u61, u62, u63, u64, u65, u66, u67, u68, u69, u70, u71, u72, u73, u74, u75, u76, u77, u78, u79, u80, u81, u82, u83, u84, u85, u86, u87, u88, u89, u90, u91, u92, u93, u94, u95, u96, u97, u98, u99, u100, u101, u102, u103, u104, u105, u106, u107, u108, u109, u110, u111, u112, u113, u114, u115, u116, u117, u118], []⟩ wz) :
    Code.wp Tryz.prog (partL 31) (Exit.then K Q) ⟨#[u0, u1, .bool full, .pointer (some ⟨EB, 0, none⟩), u4, u5, u6, .slice AS S.length cS, u8, .int .i64 nd, .pointer (some ⟨SB, 0, none⟩), .func (.func 78) #[] #[.pointer (some ⟨SB, 0, none⟩), .pointer (some ⟨EB, 0, none⟩)], u12, u13, u14, u15, u16, u17, u18, u19, u20, u21, u22, u23, u24, u25, u26, u27, u28, u29, u30, u31, u32, u33, u34, u35, u36, u37, u38, u39, u40, u41, u42, u43, u44, u45, u46, u47, u48, u49, u50, u51, u52, u53, u54, u55, u56, u57, u58, u59, u60, u61, u62, u63, u64, u65, u66, u67, u68, u69, u70, u71, u72, u73, u74, u75, u76, u77, u78, u79, u80, u81, u82, u83, u84, u85, u86, u87, u88, u89, u90, u91, u92, u93, u94, u95, u96, u97, u98, u99, u100, u101, u102, u103, u104, u105, u106, u107, u108, u109, u110, u111, u112, u113, u114, u115, u116, u117, u118], []⟩ wo := by
  unfold partL tailL
  conv => arg 2; whnf
  have e9 : wo.cell? ⟨EB, 0, none⟩ = some (.pointer (some ⟨E, 0, none⟩)) := m.eb.cell 0
  subst hnd
  subst hfu
  have hbs3 : decide (0 < S.length) = true := decide_eq_true (List.length_pos_iff.2 hne)
  have hbs2 : decide ((0 : Int) < (S.length : Int)) = true := decide_eq_true (by have := List.length_pos_iff.2 hne; omega)
  obtain ⟨r0, hr0⟩ : ∃ r0, r0 = (r.1 ++ [(true, (⟨15, 0, 0⟩ : Ins))], r.2) := ⟨_, rfl⟩
  have hexp : ext NS.length r ((EmitPlain.cat (skp 15) (furthers none (some 9) (S.map fun k => emit x k true)))) = ext NS.length r0 (furthers none (some 9) (S.map fun k => emit x k true)) := by rw [← ext_cat, ext_skp, hr0]
  rw [hexp] at hfit hK
  have hb0 : L.length + r.1.length ≤ 1099511627776 := by
    have h1 := ext_len NS.length r0 (furthers none (some 9) (S.map fun k => emit x k true))
    unfold Fits at hfit
    rw [h1.1, hr0] at hfit
    simp only [List.length_append] at hfit
    omega
  have HM := Lib.hid m
  have HFIT := Lib.hid hfit
  have HLS0 := Lib.hid hS
  have HIS := Lib.hid IS
  have HX := Lib.hid hx
  have HR0 := Lib.hid hr0
  have HKK := Lib.hid hK
  clear hne m hfit hS IS hx hexp hr0 hK
  go_upto_region 33 with ((go_at_call 78; refine (miss_any _ _ _ _ _ _ _ _ _ _ _ HM.out hE hb0).mono ?_; rintro e wl ⟨rfl, sv2, hB2, hkm, hbm⟩; have HM1 := Lib.hid hB2; have HLS := Lib.hid (klq_keep HLS0.out hkm hbm); have HK0 := Lib.hid hkm; have HB0 := Lib.hid hbm; clear hB2 hkm hbm e9))
  have HM0 : Hid (RawB w wl E SB EB h L NS nc r0 sv2) := Lib.hid (by rw [HR0.out]; exact HM1.out)
  go_wp2_with fail
  go_loopw [105] (fun i wr => ∃ (k : Nat) (sz : Value), k ≤ S.length ∧ i = .int .i64 k ∧ RawB w wr E SB EB h L NS nc (ext NS.length r0 (furthers none (some 9) ((S.map fun k => emit x k true).take k))) sz ∧ KeepL wl wr ∧ Below E wl wr) (fun i _ => S.length - (intOf i).toNat)
  case atStart => exact ⟨0, _, Nat.zero_le _, rfl, by rw [List.take_zero, furthers, ext_nop]; exact HM0.out, KeepL.refl _, Below.refl _ _⟩
  case round =>
    obtain ⟨k, sz, hk, rfl, hR, hkl, hbl⟩ := hrel
    rcases Nat.lt_or_ge k S.length with hlt | hge
    · obtain ⟨y, hy⟩ : ∃ y, S[k]? = some y := ⟨_, List.getElem?_eq_getElem hlt⟩
      obtain ⟨g, o, rfl, B1, B2, B3, B4, d1, d2, d3, d4, hq, x0, x1, x2, x3, x4, x5, x6, x7, x8, x9, x10, x11, x12, x13, x14⟩ := kl_kid (klq_keep HLS.out hkl hbl).kl hy
      have i1 : (k : Int) < (S.length : Int) := by omega
      have i3 : (k : Int) < 9223372036854775807 := by omega
      have hfk : (S.map fun k => emit x k true)[k]? = some (emit x y true) := by rw [List.getElem?_map, hy]; rfl
      have hIH := HIS.out y (List.mem_of_getElem? hy)
      unfold qcells at hq
      obtain ⟨rk, hrk⟩ : ∃ rk, rk = ext NS.length r0 (furthers none (some 9) ((S.map fun k => emit x k true).take k)) := ⟨_, rfl⟩
      rw [← hrk] at hR
      have hnext := ext_round (n := NS.length) (r := r0) (sk := none) (o := (some 9)) hfk
      rw [← hrk, ext_fN] at hnext
      have hle := ext_round_le (n := NS.length) (r := r0) (sk := none) (o := (some 9)) (l := (S.map fun k => emit x k true)) (k + 1)
      rw [hnext] at hle
      simp only [List.length_append, List.length_map, List.length_singleton] at hle
      have hfit0 := HFIT.out
      unfold Fits at hfit0
      have hb1 : L.length + rk.1.length ≤ 1099511627776 := by omega
      have hf2 : Hid (Fits (L ++ rk.1.map Prod.snd) (NS ++ rk.2) (emit x y true (NS.length + rk.2.length)).1.length (emit x y true (NS.length + rk.2.length)).2.length) := Lib.hid (by unfold Fits; simp only [List.length_append, List.length_map, List.length_singleton]; omega)
      have hf3 : Hid ((L ++ (rk.1 ++ (emit x y true (NS.length + rk.2.length)).1.map (fun i => (false, i))).map Prod.snd).length ≤ 1099511627776) := Lib.hid (by simp only [List.length_append, List.length_map, List.length_singleton]; omega)
      have HQ := Lib.hid hq
      have HI := Lib.hid hIH
      have HR := Lib.hid hR
      have HNX := Lib.hid hnext
      have HKL := Lib.hid hkl
      have HBL := Lib.hid hbl
      have e0 : wr.cell? ⟨EB, 0, none⟩ = some (.pointer (some ⟨E, 0, none⟩)) := hR.eb.cell 0
      clear hq hIH hR hnext hle hfit0 hkl hbl hfk hy hrk
      go_upto_region 36 with fail
      obtain ⟨Q, hQ⟩ : ∃ Q, Q = qcells y.h y.kids.length B1 B2 B3 B4 d1 d2 d3 d4 := ⟨_, rfl⟩
      obtain ⟨W8, hW8⟩ : ∃ W, W = wr.alloc (.cells Q 29) := ⟨_, rfl⟩
      have T8 : Blk W8 wr.heap.size 29 Q := by rw [hW8]; exact Blk.new _ _ _
      have hb8 : Below wr.heap.size wr W8 := by rw [hW8]; exact Base.bel
      have hR8 := HR.out.grow hb8
      have hE2 := HR.out.raw.lt
      have hq8 : QVal W8 E Q.toList y := by rw [hQ]; exact HQ.out.kept (hb8.mono (Nat.le_of_lt hE2)) (Nat.le_refl _)
      have hk8 := HKL.out.trans (KeepL.of_below hb8)
      have hl8 := HBL.out.trans (hb8.mono (Nat.le_of_lt hE2))
      unfold qcells at hQ
      rw [← hQ, ← hW8]
      have HQQ := Lib.hid hQ
      have HQ8 := Lib.hid hq8
      have HR8 := Lib.hid hR8
      have HK8 := Lib.hid hk8
      have HL8 := Lib.hid hl8
      have e8 : W8.cell? ⟨EB, 0, none⟩ = some (.pointer (some ⟨E, 0, none⟩)) := hR8.eb.cell 0
      clear x0 x1 x2 x3 x4 x5 x6 x7 x8 x9 x10 x11 x12 x13 x14 hW8 hq8 hR8 hb8 hQ hk8 hl8 e0
      rw [HQQ.out] at T8
      obtain ⟨z0, z1, z2, z3, z4, z5, z6, z7, z8, z9, z10, z11, z12, z13, z14⟩ := qcs T8
      go_upto_region 37 with ((go_at_call 22; rw [← HQQ.out]; refine (raw_query HR8.out.raw HI.out HX.out hmb (Nat.le_of_lt hE) HQ8.out hf2.out).mono ?_; rintro e w4 ⟨rfl, hk4, hR4⟩; have hB4 := HR8.out.next hk4 hR4; have HR4 := Lib.hid hB4; have HK4 := Lib.hid (HK8.out.trans (KeepL.of_keeps hk4)); have HL4 := Lib.hid (HL8.out.trans (hk4.below (Nat.le_of_lt HR8.out.raw.lt))); have e4 : w4.cell? ⟨EB, 0, none⟩ = some (.pointer (some ⟨E, 0, none⟩)) := hB4.eb.cell 0; clear hR4 hk4 hB4))
      clear z0 z1 z2 z3 z4 z5 z6 z7 z8 z9 z10 z11 z12 z13 z14
      go_upto_region 38 with ((go_at_call 23; refine (raw_put 9 0 0 HR4.out.raw hf3.out).mono ?_; rintro e w5 ⟨⟨v5, rfl⟩, hk5, hR5⟩; have HR5 := Lib.hid (HR4.out.next hk5 hR5); have HK5 := Lib.hid (HK4.out.trans (KeepL.of_keeps hk5)); have HL5 := Lib.hid (HL4.out.trans (hk5.below (Nat.le_of_lt HR4.out.raw.lt))); clear hR5 hk5))
      go_wp2_with fail
      go_roundw
      case rel => exact ⟨k + 1, _, by omega, by go_num, by rw [HNX.out]; exact HR5.out, HK5.out, HL5.out⟩
      case measure => simp [intOf]; omega
    · obtain rfl : k = S.length := by omega
      have hfl : (S.map fun k => emit x k true).length = S.length := by simp
      rw [← hfl, List.take_length] at hR
      clear hfl
      have HR7 := Lib.hid hR
      have HK7 := Lib.hid (HK0.out.trans hkl)
      have HB7 := Lib.hid (HB0.out.trans hbl)
      clear hR hkl hbl
      go_wp2_with fail
      exact HKK.out _ _ _ _ _ _ _ _ _ _ _ _ _ _ _ _ _ _ _ _ _ _ _ _ _ _ _ _ _ _ _ _ _ _ _ _ _ _ _ _ _ _ _ _ _ _ _ _ _ _ _ _ _ _ _ _ _ _ _ _ _ _ _ _ _ _ _ _ _ _ _ _ _ _ _ _ _ _ _ _ _ _ _ _ _ _ _ _ _ _ _ _ _ _ _ _ _ _ _ _ _ _ _ _ _ _ _ _ _ _ _ _ _ _ _ HR7.out HK7.out HB7.out
end Go.Proofs.YtfpikilhbkeajaaGreatDoor.EmitOpt

namespace Go.Proofs.YtfpikilhbkeajaaGreatDoor.EmitNots
set_option maxRecDepth 100000
open Go.RowKit Go.PlainAid Base Query QrySize EmitPlain EmitBase EmitPut LeafMap EmitNear EmitRaw EmitMost EmitSplit EmitMiss EmitExt EmitOpt

set_option maxHeartbeats 8000000 in
theorem nots {u0 u1 u4 u5 u6 u12 u13 u14 u15 u16 u17 u18 u19 u20 u21 u22 u23 u24 u25 u26 u27 u28 u29 u30 u31 u32 u33 u34 u35 u36 u37 u38 u39 u40 u41 u42 u43 u44 u45 u46 u47 u48 u49 u50 u51 u52 u53 u54 u55 u56 u57 u58 u59 u60 u61 u62 u63 u64 u65 u66 u67 u68 u69 u70 u71 u72 u73 u74 u75 u76 u77 u78 u79 u80 u81 u82 u83 u84 u85 u86 u87 u88 u89 u90 u91 u92 u93 u94 u95 u96 u97 u98 u99 u100 u101 u102 u103 u104 u105 u106 u107 u108 u109 u110 u111 u112 u113 u114 u115 u116 u117 u118 v7 v9 : Value} {K : Act → World → Prop} {Q : Exit → Act → World → Prop} {w wo : World} {x : Lf → Int} {E SB EB nm : Nat} {h : EH} {L : List Ins} {NS : List Nr} {nc : List Value} {r : List (Bool × Ins) × List Nr} {sv : Value} {full : Bool} {nd : Int} {X : List Qry} {AX : Option Addr} {cX : Nat} (m : RawB w wo E SB EB h L NS nc r sv) (hE : E < w.heap.size) (hx : IsNum w h.mb nm x) (hmb : h.mb < E) (hX : KLQ wo E AX X) (IX : ∀ k ∈ X, QC x k) (nX : X.length ≤ 1048576) (hfit : Fits L NS (ext NS.length r (furthers (some 15) (some 10) (X.map fun k => emit x k false))).1.length (ext NS.length r (furthers (some 15) (some 10) (X.map fun k => emit x k false))).2.length)
    (hK : ∀ (u0 u1 u4 u5 u6 u12 u13 u14 u15 u16 u17 u18 u19 u20 u21 u22 u23 u24 u25 u26 u27 u28 u29 u30 u31 u32 u33 u34 u35 u36 u37 u38 u39 u40 u41 u42 u43 u44 u45 u46 u47 u48 u49 u50 u51 u52 u53 u54 u55 u56 u57 u58 u59 u60 u61 u62 u63 u64 u65 u66 u67 u68 u69 u70 u71 u72 u73 u74 u75 u76 u77 u78 u79 u80 u81 u82 u83 u84 u85 u86 u87 u88 u89 u90 u91 u92 u93 u94 u95 u96 u97 u98 u99 u100 u101 u102 u103 u104 u105 u106 u107 u108 u109 u110 u111 u112 u113 u114 u115 u116 u117 u118 : Value) (wz : World) (sz : Value), RawB w wz E SB EB h L NS nc (ext NS.length r (furthers (some 15) (some 10) (X.map fun k => emit x k false))) sz → KeepL wo wz → Below E wo wz → K ⟨#[u0, u1, .bool full, .pointer (some ⟨EB, 0, none⟩), u4, u5, u6, v7, .slice AX X.length cX, v9, .pointer (some ⟨SB, 0, none⟩), .func (.func 78) #[] #[.pointer (some ⟨SB, 0, none⟩), .pointer (some ⟨EB, 0, none⟩)], u12, u13, u14, u15, u16, u17, u18, u19, u20, u21, u22, u23, u24, u25, u26, u27, u28, u29, u30, u31, u32, u33, u34, u35, u36, u37, u38, u39, u40, u41, u42, u43, u44, u45, u46, u47, u48, u49, u50, u51, u52, u53, u54, u55, u56, u57, u58, u59, u60, u61, u62, u63, u64, u65, u66, u67, u68, u69, u70, u71, u72, u73, u74, u75, u76, u77, u78, u79, u80, u81, u82, u83, u84, u85, u86, u87, u88, u89, u90, u91, u92, u93, u94, u95, u96, u97, u98, u99, u100, u101, u102, u103, u104, u105, u106, u107, u108, u109, u110, u111, u112, u113, u114, u115, u116, u117, u118], []⟩ wz) :
    Code.wp Tryz.prog (partL 24) (Exit.then K Q) ⟨#[u0, u1, .bool full, .pointer (some ⟨EB, 0, none⟩), u4, u5, u6, v7, .slice AX X.length cX, v9, .pointer (some ⟨SB, 0, none⟩), .func (.func 78) #[] #[.pointer (some ⟨SB, 0, none⟩), .pointer (some ⟨EB, 0, none⟩)], u12, u13, u14, u15, u16, u17, u18, u19, u20, u21, u22, u23, u24, u25, u26, u27, u28, u29, u30, u31, u32, u33, u34, u35, u36, u37, u38, u39, u40, u41, u42, u43, u44, u45, u46, u47, u48, u49, u50, u51, u52, u53, u54, u55, u56, u57, u58, u59, u60, u61, u62, u63, u64, u65, u66, u67, u68, u69, u70, u71, u72, u73, u74, u75, u76, u77, u78, u79, u80, u81, u82, u83, u84, u85, u86, u87, u88, u89, u90, u91, u92, u93, u94, u95, u96, u97, u98, u99, u100, u101, u102, u103, u104, u105, u106, u107, u108, u109, u110, u111, u112, u113, u114, u115, u116, u117, u118], []⟩ wo := by
  unfold partL tailL
  conv => arg 2; whnf
  obtain ⟨r0, hr0⟩ : ∃ r0, r0 = r := ⟨_, rfl⟩
  obtain ⟨wl, hwl⟩ : ∃ wl, wl = wo := ⟨_, rfl⟩
  subst hr0
  subst hwl
  have HM0 := Lib.hid m
  have HFIT := Lib.hid hfit
  have HLX := Lib.hid hX
  have HIX := Lib.hid IX
  have HX := Lib.hid hx
  have HKK := Lib.hid hK
  clear m hfit hX IX hx hK
  go_wp2_with fail
  go_loopw [79] (fun i wr => ∃ (k : Nat) (sz : Value), k ≤ X.length ∧ i = .int .i64 k ∧ RawB w wr E SB EB h L NS nc (ext NS.length r0 (furthers (some 15) (some 10) ((X.map fun k => emit x k false).take k))) sz ∧ KeepL wl wr ∧ Below E wl wr) (fun i _ => X.length - (intOf i).toNat)
  case atStart => exact ⟨0, _, Nat.zero_le _, rfl, by rw [List.take_zero, furthers, ext_nop]; exact HM0.out, KeepL.refl _, Below.refl _ _⟩
  case round =>
    obtain ⟨k, sz, hk, rfl, hR, hkl, hbl⟩ := hrel
    rcases Nat.lt_or_ge k X.length with hlt | hge
    · obtain ⟨y, hy⟩ : ∃ y, X[k]? = some y := ⟨_, List.getElem?_eq_getElem hlt⟩
      obtain ⟨g, o, rfl, B1, B2, B3, B4, d1, d2, d3, d4, hq, x0, x1, x2, x3, x4, x5, x6, x7, x8, x9, x10, x11, x12, x13, x14⟩ := kl_kid (klq_keep HLX.out hkl hbl).kl hy
      have i1 : (k : Int) < (X.length : Int) := by omega
      have i3 : (k : Int) < 9223372036854775807 := by omega
      have hfk : (X.map fun k => emit x k false)[k]? = some (emit x y false) := by rw [List.getElem?_map, hy]; rfl
      have hIH := HIX.out y (List.mem_of_getElem? hy)
      unfold qcells at hq
      obtain ⟨rk, hrk⟩ : ∃ rk, rk = ext NS.length r0 (furthers (some 15) (some 10) ((X.map fun k => emit x k false).take k)) := ⟨_, rfl⟩
      rw [← hrk] at hR
      have hnext := ext_round (n := NS.length) (r := r0) (sk := (some 15)) (o := (some 10)) hfk
      rw [← hrk, ext_fS] at hnext
      have hle := ext_round_le (n := NS.length) (r := r0) (sk := (some 15)) (o := (some 10)) (l := (X.map fun k => emit x k false)) (k + 1)
      rw [hnext] at hle
      simp only [List.length_append, List.length_map, List.length_singleton] at hle
      have hfit0 := HFIT.out
      unfold Fits at hfit0
      have hb1 : L.length + rk.1.length ≤ 1099511627776 := by omega
      have hf2 : Hid (Fits (L ++ (rk.1 ++ [(true, (⟨15, 0, 0⟩ : Ins))]).map Prod.snd) (NS ++ rk.2) (emit x y false (NS.length + rk.2.length)).1.length (emit x y false (NS.length + rk.2.length)).2.length) := Lib.hid (by unfold Fits; simp only [List.length_append, List.length_map, List.length_singleton]; omega)
      have hf3 : Hid ((L ++ ((rk.1 ++ [(true, (⟨15, 0, 0⟩ : Ins))]) ++ (emit x y false (NS.length + rk.2.length)).1.map (fun i => (false, i))).map Prod.snd).length ≤ 1099511627776) := Lib.hid (by simp only [List.length_append, List.length_map, List.length_singleton]; omega)
      have HQ := Lib.hid hq
      have HI := Lib.hid hIH
      have HR := Lib.hid hR
      have HNX := Lib.hid hnext
      have HKL := Lib.hid hkl
      have HBL := Lib.hid hbl
      have e0 : wr.cell? ⟨EB, 0, none⟩ = some (.pointer (some ⟨E, 0, none⟩)) := hR.eb.cell 0
      clear hq hIH hR hnext hle hfit0 hkl hbl hfk hy hrk
      go_upto_region 27 with fail
      obtain ⟨Q, hQ⟩ : ∃ Q, Q = qcells y.h y.kids.length B1 B2 B3 B4 d1 d2 d3 d4 := ⟨_, rfl⟩
      obtain ⟨W8, hW8⟩ : ∃ W, W = wr.alloc (.cells Q 29) := ⟨_, rfl⟩
      have T8 : Blk W8 wr.heap.size 29 Q := by rw [hW8]; exact Blk.new _ _ _
      have hb8 : Below wr.heap.size wr W8 := by rw [hW8]; exact Base.bel
      have hR8 := HR.out.grow hb8
      have hE2 := HR.out.raw.lt
      have hq8 : QVal W8 E Q.toList y := by rw [hQ]; exact HQ.out.kept (hb8.mono (Nat.le_of_lt hE2)) (Nat.le_refl _)
      have hk8 := HKL.out.trans (KeepL.of_below hb8)
      have hl8 := HBL.out.trans (hb8.mono (Nat.le_of_lt hE2))
      unfold qcells at hQ
      rw [← hQ, ← hW8]
      have HQQ := Lib.hid hQ
      have HQ8 := Lib.hid hq8
      have HR8 := Lib.hid hR8
      have HK8 := Lib.hid hk8
      have HL8 := Lib.hid hl8
      have e8 : W8.cell? ⟨EB, 0, none⟩ = some (.pointer (some ⟨E, 0, none⟩)) := hR8.eb.cell 0
      clear x0 x1 x2 x3 x4 x5 x6 x7 x8 x9 x10 x11 x12 x13 x14 hW8 hq8 hR8 hb8 hQ hk8 hl8 e0
      go_upto_region 28 with ((go_at_call 78; refine (miss_any _ _ _ _ _ _ _ _ _ _ _ HR8.out hE hb1).mono ?_; rintro e w2 ⟨rfl, sv2, hB2, hkm, hbm⟩; have T2 := blk_keepL hkm T8; have hq2 := HQ8.out.kept hbm (Nat.le_refl _); have HR2 := Lib.hid hB2; have HK2 := Lib.hid (HK8.out.trans hkm); have HL2 := Lib.hid (HL8.out.trans hbm); have HQ2 := Lib.hid hq2; have e2 : w2.cell? ⟨EB, 0, none⟩ = some (.pointer (some ⟨E, 0, none⟩)) := hB2.eb.cell 0; clear hB2 hkm hbm hq2 e8))
      rw [HQQ.out] at T2
      obtain ⟨z0, z1, z2, z3, z4, z5, z6, z7, z8, z9, z10, z11, z12, z13, z14⟩ := qcs T2
      go_upto_region 29 with ((go_at_call 22; rw [← HQQ.out]; refine (raw_query HR2.out.raw HI.out HX.out hmb (Nat.le_of_lt hE) HQ2.out hf2.out).mono ?_; rintro e w4 ⟨rfl, hk4, hR4⟩; have hB4 := HR2.out.next hk4 hR4; have HR4 := Lib.hid hB4; have HK4 := Lib.hid (HK2.out.trans (KeepL.of_keeps hk4)); have HL4 := Lib.hid (HL2.out.trans (hk4.below (Nat.le_of_lt HR2.out.raw.lt))); have e4 : w4.cell? ⟨EB, 0, none⟩ = some (.pointer (some ⟨E, 0, none⟩)) := hB4.eb.cell 0; clear hR4 hk4 hB4))
      clear z0 z1 z2 z3 z4 z5 z6 z7 z8 z9 z10 z11 z12 z13 z14
      go_upto_region 30 with ((go_at_call 23; refine (raw_put 10 0 0 HR4.out.raw hf3.out).mono ?_; rintro e w5 ⟨⟨v5, rfl⟩, hk5, hR5⟩; have HR5 := Lib.hid (HR4.out.next hk5 hR5); have HK5 := Lib.hid (HK4.out.trans (KeepL.of_keeps hk5)); have HL5 := Lib.hid (HL4.out.trans (hk5.below (Nat.le_of_lt HR4.out.raw.lt))); clear hR5 hk5))
      go_wp2_with fail
      go_roundw
      case rel => exact ⟨k + 1, _, by omega, by go_num, by rw [HNX.out]; exact HR5.out, HK5.out, HL5.out⟩
      case measure => simp [intOf]; omega
    · obtain rfl : k = X.length := by omega
      have hfl : (X.map fun k => emit x k false).length = X.length := by simp
      rw [← hfl, List.take_length] at hR
      clear hfl
      have HR7 := Lib.hid hR
      have HK7 := Lib.hid hkl
      have HB7 := Lib.hid hbl
      clear hR hkl hbl
      go_wp2_with fail
      exact HKK.out _ _ _ _ _ _ _ _ _ _ _ _ _ _ _ _ _ _ _ _ _ _ _ _ _ _ _ _ _ _ _ _ _ _ _ _ _ _ _ _ _ _ _ _ _ _ _ _ _ _ _ _ _ _ _ _ _ _ _ _ _ _ _ _ _ _ _ _ _ _ _ _ _ _ _ _ _ _ _ _ _ _ _ _ _ _ _ _ _ _ _ _ _ _ _ _ _ _ _ _ _ _ _ _ _ _ _ _ _ _ _ _ _ _ HR7.out HK7.out HB7.out
end Go.Proofs.YtfpikilhbkeajaaGreatDoor.EmitNots

namespace Go.Proofs.YtfpikilhbkeajaaGreatDoor.EmitNeed
set_option maxRecDepth 100000
open Go.RowKit Go.PlainAid Base Query QrySize EmitPlain EmitBase EmitPut LeafMap EmitNear EmitRaw EmitMost EmitSplit EmitMiss EmitExt EmitOpt EmitNots

set_option maxHeartbeats 8000000 in
theorem need0 {u0 u1 u4 u5 u12 u13 u14 u15 u16 u17 u18 u19 u20 u21 u22 u23 u24 u25 u26 u27 u28 u29 u30 u31 u32 u33 u34 u35 u36 u37 u38 u39 u40 u41 u42 u43 u44 u45 u46 u47 u48 u49 u50 u51 u52 u53 u54 u55 u56 u57 u58 u59 u60 u61 u62 u63 u64 u65 u66 u67 u68 u69 u70 u71 u72 u73 u74 u75 u76 u77 u78 u79 u80 u81 u82 u83 u84 u85 u86 u87 u88 u89 u90 u91 u92 u93 u94 u95 u96 u97 u98 u99 u100 u101 u102 u103 u104 u105 u106 u107 u108 u109 u110 u111 u112 u113 u114 u115 u116 u117 u118 v8 : Value} {K : Act → World → Prop} {Q : Exit → Act → World → Prop} {w wo : World} {x : Lf → Int} {E SB EB nm : Nat} {h : EH} {L : List Ins} {NS : List Nr} {nc : List Value} {r : List (Bool × Ins) × List Nr} {sv : Value} {full : Bool} {nd : Int} {S : List Qry} {AS : Option Addr} {cS : Nat} {M : List Qry} {AM : Option Addr} {cM : Nat} (m : RawB w wo E SB EB h L NS nc r sv) (hE : E < w.heap.size) (hx : IsNum w h.mb nm x) (hmb : h.mb < E) (hS : KLQ wo E AS S) (IS : ∀ k ∈ S, QC x k) (nS : S.length ≤ 1048576) (hnd : nd = 0) (hfit : Fits L NS r.1.length r.2.length)
    (hK : ∀ (u0 u1 u4 u5 u12 u13 u14 u15 u16 u17 u18 u19 u20 u21 u22 u23 u24 u25 u26 u27 u28 u29 u30 u31 u32 u33 u34 u35 u36 u37 u38 u39 u40 u41 u42 u43 u44 u45 u46 u47 u48 u49 u50 u51 u52 u53 u54 u55 u56 u57 u58 u59 u60 u61 u62 u63 u64 u65 u66 u67 u68 u69 u70 u71 u72 u73 u74 u75 u76 u77 u78 u79 u80 u81 u82 u83 u84 u85 u86 u87 u88 u89 u90 u91 u92 u93 u94 u95 u96 u97 u98 u99 u100 u101 u102 u103 u104 u105 u106 u107 u108 u109 u110 u111 u112 u113 u114 u115 u116 u117 u118 : Value) (wz : World) (sz : Value), RawB w wz E SB EB h L NS nc r sz → KeepL wo wz → Below E wo wz → K ⟨#[u0, u1, .bool full, .pointer (some ⟨EB, 0, none⟩), u4, u5, .slice AM M.length cM, .slice AS S.length cS, v8, .int .i64 nd, .pointer (some ⟨SB, 0, none⟩), .func (.func 78) #[] #[.pointer (some ⟨SB, 0, none⟩), .pointer (some ⟨EB, 0, none⟩)], u12, u13, u14, u15, u16, u17, u18, u19, u20, u21, u22, u23, u24, u25, u26, u27, u28, u29, u30, u31, u32, u33, u34, u35, u36, u37, u38, u39, u40, u41, u42, u43, u44, u45, u46, u47, u48, u49, u50, u51, u52, u53, u54, u55, u56, u57, u58, u59, u60, u61, u62, u63, u64, u65, u66, u67, u68, u69, u70, u71, u72, u73, u74, u75, u76, u77, u78, u79, u80, u81, u82, u83, u84, u85, u86, u87, u88, u89, u90, u91, u92, u93, u94, u95, u96, u97, u98, u99, u100, u101, u102, u103, u104, u105, u106, u107, u108, u109, u110, u111, u112, u113, u114, u115, u116, u117, u118], []⟩ wz) :
    Code.wp Tryz.prog (partL 18) (Exit.then K Q) ⟨#[u0, u1, .bool full, .pointer (some ⟨EB, 0, none⟩), u4, u5, .slice AM M.length cM, .slice AS S.length cS, v8, .int .i64 nd, .pointer (some ⟨SB, 0, none⟩), .func (.func 78) #[] #[.pointer (some ⟨SB, 0, none⟩), .pointer (some ⟨EB, 0, none⟩)], u12, u13, u14, u15, u16, u17, u18, u19, u20, u21, u22, u23, u24, u25, u26, u27, u28, u29, u30, u31, u32, u33, u34, u35, u36, u37, u38, u39, u40, u41, u42, u43, u44, u45, u46, u47, u48, u49, u50, u51, u52, u53, u54, u55, u56, u57, u58, u59, u60, u61, u62, u63, u64, u65, u66, u67, u68, u69, u70, u71, u72, u73, u74, u75, u76, u77, u78, u79, u80, u81, u82, u83, u84, u85, u86, u87, u88, u89, u90, u91, u92, u93, u94, u95, u96, u97, u98, u99, u100, u101, u102, u103, u104, u105, u106, u107, u108, u109, u110, u111, u112, u113, u114, u115, u116, u117, u118], []⟩ wo := by
  unfold partL tailL
  conv => arg 2; whnf
  have e9 : wo.cell? ⟨EB, 0, none⟩ = some (.pointer (some ⟨E, 0, none⟩)) := m.eb.cell 0
  have HM := Lib.hid m
  have HFIT := Lib.hid hfit
  have HLS := Lib.hid hS
  have HIS := Lib.hid IS
  have HX := Lib.hid hx
  have HKK := Lib.hid hK
  clear m hfit hS IS hx hK
  subst hnd
  go_wp2_with fail
  exact HKK.out _ _ _ _ _ _ _ _ _ _ _ _ _ _ _ _ _ _ _ _ _ _ _ _ _ _ _ _ _ _ _ _ _ _ _ _ _ _ _ _ _ _ _ _ _ _ _ _ _ _ _ _ _ _ _ _ _ _ _ _ _ _ _ _ _ _ _ _ _ _ _ _ _ _ _ _ _ _ _ _ _ _ _ _ _ _ _ _ _ _ _ _ _ _ _ _ _ _ _ _ _ _ _ _ _ _ _ _ _ _ _ _ _ HM.out (KeepL.refl _) (Below.refl _ _)
set_option maxHeartbeats 8000000 in
theorem needE {u0 u1 u4 u5 u12 u13 u14 u15 u16 u17 u18 u19 u20 u21 u22 u23 u24 u25 u26 u27 u28 u29 u30 u31 u32 u33 u34 u35 u36 u37 u38 u39 u40 u41 u42 u43 u44 u45 u46 u47 u48 u49 u50 u51 u52 u53 u54 u55 u56 u57 u58 u59 u60 u61 u62 u63 u64 u65 u66 u67 u68 u69 u70 u71 u72 u73 u74 u75 u76 u77 u78 u79 u80 u81 u82 u83 u84 u85 u86 u87 u88 u89 u90 u91 u92 u93 u94 u95 u96 u97 u98 u99 u100 u101 u102 u103 u104 u105 u106 u107 u108 u109 u110 u111 u112 u113 u114 u115 u116 u117 u118 v8 : Value} {K : Act → World → Prop} {Q : Exit → Act → World → Prop} {w wo : World} {x : Lf → Int} {E SB EB nm : Nat} {h : EH} {L : List Ins} {NS : List Nr} {nc : List Value} {r : List (Bool × Ins) × List Nr} {sv : Value} {full : Bool} {nd : Int} {S : List Qry} {AS : Option Addr} {cS : Nat} {M : List Qry} {AM : Option Addr} {cM : Nat} (m : RawB w wo E SB EB h L NS nc r sv) (hE : E < w.heap.size) (hx : IsNum w h.mb nm x) (hmb : h.mb < E) (hS : KLQ wo E AS S) (IS : ∀ k ∈ S, QC x k) (nS : S.length ≤ 1048576) (hnd : 0 < nd) (hnu : nd ≤ 1099511627776) (hM0 : M = []) (hfit : Fits L NS (ext NS.length r (fin (EmitPlain.someF nd full (S.map fun k => emit x k full)))).1.length (ext NS.length r (fin (EmitPlain.someF nd full (S.map fun k => emit x k full)))).2.length)
    (hK : ∀ (u0 u1 u4 u5 u12 u13 u14 u15 u16 u17 u18 u19 u20 u21 u22 u23 u24 u25 u26 u27 u28 u29 u30 u31 u32 u33 u34 u35 u36 u37 u38 u39 u40 u41 u42 u43 u44 u45 u46 u47 u48 u49 u50 u51 u52 u53 u54 u55 u56 u57 u58 u59 u60 u61 u62 u63 u64 u65 u66 u67 u68 u69 u70 u71 u72 u73 u74 u75 u76 u77 u78 u79 u80 u81 u82 u83 u84 u85 u86 u87 u88 u89 u90 u91 u92 u93 u94 u95 u96 u97 u98 u99 u100 u101 u102 u103 u104 u105 u106 u107 u108 u109 u110 u111 u112 u113 u114 u115 u116 u117 u118 : Value) (wz : World) (sz : Value), RawB w wz E SB EB h L NS nc (ext NS.length r (fin (EmitPlain.someF nd full (S.map fun k => emit x k full)))) sz → KeepL wo wz → Below E wo wz → K ⟨#[u0, u1, .bool full, .pointer (some ⟨EB, 0, none⟩), u4, u5, .slice AM M.length cM, .slice AS S.length cS, v8, .int .i64 nd, .pointer (some ⟨SB, 0, none⟩), .func (.func 78) #[] #[.pointer (some ⟨SB, 0, none⟩), .pointer (some ⟨EB, 0, none⟩)], u12, u13, u14, u15, u16, u17, u18, u19, u20, u21, u22, u23, u24, u25, u26, u27, u28, u29, u30, u31, u32, u33, u34, u35, u36, u37, u38, u39, u40, u41, u42, u43, u44, u45, u46, u47, u48, u49, u50, u51, u52, u53, u54, u55, u56, u57, u58, u59, u60, u61, u62, u63, u64, u65, u66, u67, u68, u69, u70, u71, u72, u73, u74, u75, u76, u77, u78, u79, u80, u81, u82, u83, u84, u85, u86, u87, u88, u89, u90, u91, u92, u93, u94, u95, u96, u97, u98, u99, u100, u101, u102, u103, u104, u105, u106, u107, u108, u109, u110, u111, u112, u113, u114, u115, u116, u117, u118], []⟩ wz) :
    Code.wp Tryz.prog (partL 18) (Exit.then K Q) ⟨#[u0, u1, .bool full, .pointer (some ⟨EB, 0, none⟩), u4, u5, .slice AM M.length cM, .slice AS S.length cS, v8, .int .i64 nd, .pointer (some ⟨SB, 0, none⟩), .func (.func 78) #[] #[.pointer (some ⟨SB, 0, none⟩), .pointer (some ⟨EB, 0, none⟩)], u12, u13, u14, u15, u16, u17, u18, u19, u20, u21, u22, u23, u24, u25, u26, u27, u28, u29, u30, u31, u32, u33, u34, u35, u36, u37, u38, u39, u40, u41, u42, u43, u44, u45, u46, u47, u48, u49, u50, u51, u52, u53, u54, u55, u56, u57, u58, u59, u60, u61, u62, u63, u64, u65, u66, u67, u68, u69, u70, u71, u72, u73, u74, u75, u76, u77, u78, u79, u80, u81, u82, u83, u84, u85, u86, u87, u88, u89, u90, u91, u92, u93, u94, u95, u96, u97, u98, u99, u100, u101, u102, u103, u104, u105, u106, u107, u108, u109, u110, u111, u112, u113, u114, u115, u116, u117, u118], []⟩ wo := by
  unfold partL tailL
  conv => arg 2; whnf
  have e9 : wo.cell? ⟨EB, 0, none⟩ = some (.pointer (some ⟨E, 0, none⟩)) := m.eb.cell 0
  have HM := Lib.hid m
  have HFIT := Lib.hid hfit
  have HLS := Lib.hid hS
  have HIS := Lib.hid IS
  have HX := Lib.hid hx
  have HKK := Lib.hid hK
  clear m hfit hS IS hx hK
  subst hM0
  have d1 : decide ((0 : Int) < nd) = true := decide_eq_true hnd
  go_upto_region 22 with ((go_at_call 79; refine (raw_some HM.out.raw HIS.out HX.out hmb (Nat.le_of_lt hE) (HLS.out).kl (by omega) hnd hnu HFIT.out).mono ?_; rintro e w4 ⟨rfl, hk4, hR4⟩; have hB4 := HM.out.next hk4 hR4; have HR4 := Lib.hid hB4; have HK4 := Lib.hid ((KeepL.of_keeps hk4)); have HL4 := Lib.hid ((hk4.below (Nat.le_of_lt HM.out.raw.lt))); have e4 : w4.cell? ⟨EB, 0, none⟩ = some (.pointer (some ⟨E, 0, none⟩)) := hB4.eb.cell 0; clear hR4 hk4 hB4 e9))
  go_wp2_with fail
  exact HKK.out _ _ _ _ _ _ _ _ _ _ _ _ _ _ _ _ _ _ _ _ _ _ _ _ _ _ _ _ _ _ _ _ _ _ _ _ _ _ _ _ _ _ _ _ _ _ _ _ _ _ _ _ _ _ _ _ _ _ _ _ _ _ _ _ _ _ _ _ _ _ _ _ _ _ _ _ _ _ _ _ _ _ _ _ _ _ _ _ _ _ _ _ _ _ _ _ _ _ _ _ _ _ _ _ _ _ _ _ _ _ _ _ _ HR4.out HK4.out HL4.out
set_option maxHeartbeats 8000000 in
theorem needM {u0 u1 u4 u5 u12 u13 u14 u15 u16 u17 u18 u19 u20 u21 u22 u23 u24 u25 u26 u27 u28 u29 u30 u31 u32 u33 u34 u35 u36 u37 u38 u39 u40 u41 u42 u43 u44 u45 u46 u47 u48 u49 u50 u51 u52 u53 u54 u55 u56 u57 u58 u59 u60 u61 u62 u63 u64 u65 u66 u67 u68 u69 u70 u71 u72 u73 u74 u75 u76 u77 u78 u79 u80 u81 u82 u83 u84 u85 u86 u87 u88 u89 u90 u91 u92 u93 u94 u95 u96 u97 u98 u99 u100 u101 u102 u103 u104 u105 u106 u107 u108 u109 u110 u111 u112 u113 u114 u115 u116 u117 u118 v8 : Value} {K : Act → World → Prop} {Q : Exit → Act → World → Prop} {w wo : World} {x : Lf → Int} {E SB EB nm : Nat} {h : EH} {L : List Ins} {NS : List Nr} {nc : List Value} {r : List (Bool × Ins) × List Nr} {sv : Value} {full : Bool} {nd : Int} {S : List Qry} {AS : Option Addr} {cS : Nat} {M : List Qry} {AM : Option Addr} {cM : Nat} (m : RawB w wo E SB EB h L NS nc r sv) (hE : E < w.heap.size) (hx : IsNum w h.mb nm x) (hmb : h.mb < E) (hS : KLQ wo E AS S) (IS : ∀ k ∈ S, QC x k) (nS : S.length ≤ 1048576) (hnd : 0 < nd) (hnu : nd ≤ 1099511627776) (hM0 : M ≠ []) (hfit : Fits L NS (ext NS.length r ((EmitPlain.cat (skp 15) (EmitPlain.cat (fin (EmitPlain.someF nd full (S.map fun k => emit x k full))) (one 6 0 0))))).1.length (ext NS.length r ((EmitPlain.cat (skp 15) (EmitPlain.cat (fin (EmitPlain.someF nd full (S.map fun k => emit x k full))) (one 6 0 0))))).2.length)
    (hK : ∀ (u0 u1 u4 u5 u12 u13 u14 u15 u16 u17 u18 u19 u20 u21 u22 u23 u24 u25 u26 u27 u28 u29 u30 u31 u32 u33 u34 u35 u36 u37 u38 u39 u40 u41 u42 u43 u44 u45 u46 u47 u48 u49 u50 u51 u52 u53 u54 u55 u56 u57 u58 u59 u60 u61 u62 u63 u64 u65 u66 u67 u68 u69 u70 u71 u72 u73 u74 u75 u76 u77 u78 u79 u80 u81 u82 u83 u84 u85 u86 u87 u88 u89 u90 u91 u92 u93 u94 u95 u96 u97 u98 u99 u100 u101 u102 u103 u104 u105 u106 u107 u108 u109 u110 u111 u112 u113 u114 u115 u116 u117 u118 : Value) (wz : World) (sz : Value), RawB w wz E SB EB h L NS nc (ext NS.length r ((EmitPlain.cat (skp 15) (EmitPlain.cat (fin (EmitPlain.someF nd full (S.map fun k => emit x k full))) (one 6 0 0))))) sz → KeepL wo wz → Below E wo wz → K ⟨#[u0, u1, .bool full, .pointer (some ⟨EB, 0, none⟩), u4, u5, .slice AM M.length cM, .slice AS S.length cS, v8, .int .i64 nd, .pointer (some ⟨SB, 0, none⟩), .func (.func 78) #[] #[.pointer (some ⟨SB, 0, none⟩), .pointer (some ⟨EB, 0, none⟩)], u12, u13, u14, u15, u16, u17, u18, u19, u20, u21, u22, u23, u24, u25, u26, u27, u28, u29, u30, u31, u32, u33, u34, u35, u36, u37, u38, u39, u40, u41, u42, u43, u44, u45, u46, u47, u48, u49, u50, u51, u52, u53, u54, u55, u56, u57, u58, u59, u60, u61, u62, u63, u64, u65, u66, u67, u68, u69, u70, u71, u72, u73, u74, u75, u76, u77, u78, u79, u80, u81, u82, u83, u84, u85, u86, u87, u88, u89, u90, u91, u92, u93, u94, u95, u96, u97, u98, u99, u100, u101, u102, u103, u104, u105, u106, u107, u108, u109, u110, u111, u112, u113, u114, u115, u116, u117, u118], []⟩ wz) :
    Code.wp Tryz.prog (partL 18) (Exit.then K Q) ⟨#[u0, u1, .bool full, .pointer (some ⟨EB, 0, none⟩), u4, u5, .slice AM M.length cM, .slice AS S.length cS, v8, .int .i64 nd, .pointer (some ⟨SB, 0, none⟩), .func (.func 78) #[] #[.pointer (some ⟨SB, 0, none⟩), .pointer (some ⟨EB, 0, none⟩)], u12, u13, u14, u15, u16, u17, u18, u19, u20, u21, u22, u23, u24, u25, u26, u27, u28, u29, u30, u31, u32, u33, u34, u35, u36, u37, u38, u39, u40, u41, u42, u43, u44, u45, u46, u47, u48, u49, u50, u51, u52, u53, u54, u55, u56, u57, u58, u59, u60, u61, u62, u63, u64, u65, u66, u67, u68, u69, u70, u71, u72, u73, u74, u75, u76, u77, u78, u79, u80, u81, u82, u83, u84, u85, u86, u87, u88, u89, u90, u91, u92, u93, u94, u95, u96, u97, u98, u99, u100, u101, u102, u103, u104, u105, u106, u107, u108, u109, u110, u111, u112, u113, u114, u115, u116, u117, u118], []⟩ wo := by
  unfold partL tailL
  conv => arg 2; whnf
  have e9 : wo.cell? ⟨EB, 0, none⟩ = some (.pointer (some ⟨E, 0, none⟩)) := m.eb.cell 0
  have HM := Lib.hid m
  have HFIT := Lib.hid hfit
  have HLS := Lib.hid hS
  have HIS := Lib.hid IS
  have HX := Lib.hid hx
  have HKK := Lib.hid hK
  clear m hfit hS IS hx hK
  have d1 : decide ((0 : Int) < nd) = true := decide_eq_true hnd
  have hM1 : 0 < M.length := List.length_pos_iff.2 hM0
  have d2 : decide ((0 : Int) < (M.length : Int)) = true := decide_eq_true (by omega)
  have d2n : decide (0 < M.length) = true := decide_eq_true hM1
  obtain ⟨r1, hr1⟩ : ∃ r1, r1 = (r.1 ++ [(true, (⟨15, 0, 0⟩ : Ins))], r.2) := ⟨_, rfl⟩
  have hexp : ext NS.length r ((EmitPlain.cat (skp 15) (EmitPlain.cat (fin (EmitPlain.someF nd full (S.map fun k => emit x k full))) (one 6 0 0)))) = ((ext NS.length r1 (fin (EmitPlain.someF nd full (S.map fun k => emit x k full)))).1 ++ [(false, ⟨6, 0, 0⟩)], (ext NS.length r1 (fin (EmitPlain.someF nd full (S.map fun k => emit x k full)))).2) := by
    rw [← ext_cat, ext_skp, ← hr1, ← ext_cat, ext_one]
  have HEXP := Lib.hid hexp
  have hfit1 : Fits L NS (ext NS.length r1 (fin (EmitPlain.someF nd full (S.map fun k => emit x k full)))).1.length (ext NS.length r1 (fin (EmitPlain.someF nd full (S.map fun k => emit x k full)))).2.length ∧ L.length + r.1.length ≤ 1099511627776 ∧ L.length + (ext NS.length r1 (fin (EmitPlain.someF nd full (S.map fun k => emit x k full)))).1.length ≤ 1099511627776 := by
    have h1 := HFIT.out
    rw [hexp] at h1
    have h2 := ext_len NS.length r1 (fin (EmitPlain.someF nd full (S.map fun k => emit x k full)))
    unfold Fits at h1 ⊢
    simp only [List.length_append, List.length_singleton] at h1
    rw [h2.1] at h1 ⊢
    have h3 : r1.1.length = r.1.length + 1 := by rw [hr1]; simp
    omega
  have HF1 := Lib.hid hfit1.1
  have HR1 := Lib.hid hr1
  have hf3 : Hid ((L ++ (ext NS.length r1 (fin (EmitPlain.someF nd full (S.map fun k => emit x k full)))).1.map Prod.snd).length ≤ 1099511627776) := Lib.hid (by simp only [List.length_append, List.length_map]; exact hfit1.2.2)
  have hb0 := hfit1.2.1
  clear hM0 hexp hfit1 hr1
  go_upto_region 21 with ((go_at_call 78; refine (miss_any _ _ _ _ _ _ _ _ _ _ _ HM.out hE hb0).mono ?_; rintro e w2 ⟨rfl, sv2, hB2, hkm, hbm⟩; have HR2 := Lib.hid hB2; have HK2 := Lib.hid hkm; have HL2 := Lib.hid hbm; have HS2 := Lib.hid (klq_keep HLS.out hkm hbm); have e2 : w2.cell? ⟨EB, 0, none⟩ = some (.pointer (some ⟨E, 0, none⟩)) := hB2.eb.cell 0; clear hB2 hkm hbm e9))
  have HR3 : Hid (RawB w w2 E SB EB h L NS nc r1 sv2) := Lib.hid (by rw [HR1.out]; exact HR2.out)
  go_upto_region 22 with ((go_at_call 79; refine (raw_some HR3.out.raw HIS.out HX.out hmb (Nat.le_of_lt hE) (HS2.out).kl (by omega) hnd hnu HF1.out).mono ?_; rintro e w4 ⟨rfl, hk4, hR4⟩; have hB4 := HR3.out.next hk4 hR4; have HR4 := Lib.hid hB4; have HK4 := Lib.hid (HK2.out.trans (KeepL.of_keeps hk4)); have HL4 := Lib.hid (HL2.out.trans (hk4.below (Nat.le_of_lt HR3.out.raw.lt))); have e4 : w4.cell? ⟨EB, 0, none⟩ = some (.pointer (some ⟨E, 0, none⟩)) := hB4.eb.cell 0; clear hR4 hk4 hB4 e2))
  go_wp2_with (go_at_call 23; refine (raw_put 6 0 0 HR4.out.raw hf3.out).mono ?_; rintro e w5 ⟨⟨v5, rfl⟩, hk5, hR5⟩; have HR5 := Lib.hid (HR4.out.next hk5 hR5); have HK5 := Lib.hid (HK4.out.trans (KeepL.of_keeps hk5)); have HL5 := Lib.hid (HL4.out.trans (hk5.below (Nat.le_of_lt HR4.out.raw.lt))); clear hR5 hk5)
  exact HKK.out _ _ _ _ _ _ _ _ _ _ _ _ _ _ _ _ _ _ _ _ _ _ _ _ _ _ _ _ _ _ _ _ _ _ _ _ _ _ _ _ _ _ _ _ _ _ _ _ _ _ _ _ _ _ _ _ _ _ _ _ _ _ _ _ _ _ _ _ _ _ _ _ _ _ _ _ _ _ _ _ _ _ _ _ _ _ _ _ _ _ _ _ _ _ _ _ _ _ _ _ _ _ _ _ _ _ _ _ _ _ _ _ _ (by rw [HEXP.out]; exact HR5.out) HK5.out HL5.out
end Go.Proofs.YtfpikilhbkeajaaGreatDoor.EmitNeed

namespace Go.Proofs.YtfpikilhbkeajaaGreatDoor.EmitMusts
set_option maxRecDepth 100000
open Go.RowKit Go.PlainAid Base Query QrySize EmitPlain EmitBase EmitPut LeafMap EmitNear EmitRaw EmitMost EmitSplit EmitMiss EmitExt EmitOpt

set_option maxHeartbeats 8000000 in
theorem musts {u0 u1 u4 u5 u12 u13 u14 u15 u16 u17 u18 u19 u20 u21 u22 u23 u24 u25 u26 u27 u28 u29 u30 u31 u32 u33 u34 u35 u36 u37 u38 u39 u40 u41 u42 u43 u44 u45 u46 u47 u48 u49 u50 u51 u52 u53 u54 u55 u56 u57 u58 u59 u60 u61 u62 u63 u64 u65 u66 u67 u68 u69 u70 u71 u72 u73 u74 u75 u76 u77 u78 u79 u80 u81 u82 u83 u84 u85 u86 u87 u88 u89 u90 u91 u92 u93 u94 u95 u96 u97 u98 u99 u100 u101 u102 u103 u104 u105 u106 u107 u108 u109 u110 u111 u112 u113 u114 u115 u116 u117 u118 v7 v8 v9 : Value} {K : Act → World → Prop} {Q : Exit → Act → World → Prop} {w wo : World} {x : Lf → Int} {E SB EB nm : Nat} {h : EH} {L : List Ins} {NS : List Nr} {nc : List Value} {sv : Value} {full : Bool} {nd : Int} {M : List Qry} {AM : Option Addr} {cM : Nat} (m : RawB w wo E SB EB h L NS nc ([], []) sv) (hE : E < w.heap.size) (hx : IsNum w h.mb nm x) (hmb : h.mb < E) (hM : KLQ wo E AM M) (IM : ∀ k ∈ M, QC x k) (nM : M.length ≤ 1048576) (hfit : Fits L NS (chn (some 15) (some 6) (M.map fun k => emit x k full) NS.length).1.length (chn (some 15) (some 6) (M.map fun k => emit x k full) NS.length).2.length)
    (hK : ∀ (u0 u1 u4 u5 u12 u13 u14 u15 u16 u17 u18 u19 u20 u21 u22 u23 u24 u25 u26 u27 u28 u29 u30 u31 u32 u33 u34 u35 u36 u37 u38 u39 u40 u41 u42 u43 u44 u45 u46 u47 u48 u49 u50 u51 u52 u53 u54 u55 u56 u57 u58 u59 u60 u61 u62 u63 u64 u65 u66 u67 u68 u69 u70 u71 u72 u73 u74 u75 u76 u77 u78 u79 u80 u81 u82 u83 u84 u85 u86 u87 u88 u89 u90 u91 u92 u93 u94 u95 u96 u97 u98 u99 u100 u101 u102 u103 u104 u105 u106 u107 u108 u109 u110 u111 u112 u113 u114 u115 u116 u117 u118 : Value) (wz : World) (sz : Value), RawB w wz E SB EB h L NS nc (chn (some 15) (some 6) (M.map fun k => emit x k full) NS.length) sz → KeepL wo wz → Below E wo wz → K ⟨#[u0, u1, .bool full, .pointer (some ⟨EB, 0, none⟩), u4, u5, .slice AM M.length cM, v7, v8, v9, .pointer (some ⟨SB, 0, none⟩), .func (.func 78) #[] #[.pointer (some ⟨SB, 0, none⟩), .pointer (some ⟨EB, 0, none⟩)], u12, u13, u14, u15, u16, u17, u18, u19, u20, u21, u22, u23, u24, u25, u26, u27, u28, u29, u30, u31, u32, u33, u34, u35, u36, u37, u38, u39, u40, u41, u42, u43, u44, u45, u46, u47, u48, u49, u50, u51, u52, u53, u54, u55, u56, u57, u58, u59, u60, u61, u62, u63, u64, u65, u66, u67, u68, u69, u70, u71, u72, u73, u74, u75, u76, u77, u78, u79, u80, u81, u82, u83, u84, u85, u86, u87, u88, u89, u90, u91, u92, u93, u94, u95, u96, u97, u98, u99, u100, u101, u102, u103, u104, u105, u106, u107, u108, u109, u110, u111, u112, u113, u114, u115, u116, u117, u118], []⟩ wz) :
    Code.wp Tryz.prog (partL 9) (Exit.then K Q) ⟨#[u0, u1, .bool full, .pointer (some ⟨EB, 0, none⟩), u4, u5, .slice AM M.length cM, v7, v8, v9, .pointer (some ⟨SB, 0, none⟩), .func (.func 78) #[] #[.pointer (some ⟨SB, 0, none⟩), .pointer (some ⟨EB, 0, none⟩)], u12, u13, u14, u15, u16, u17, u18, u19, u20, u21, u22, u23, u24, u25, u26, u27, u28, u29, u30, u31, u32, u33, u34, u35, u36, u37, u38, u39, u40, u41, u42, u43, u44, u45, u46, u47, u48, u49, u50, u51, u52, u53, u54, u55, u56, u57, u58, u59, u60, u61, u62, u63, u64, u65, u66, u67, u68, u69, u70, u71, u72, u73, u74, u75, u76, u77, u78, u79, u80, u81, u82, u83, u84, u85, u86, u87, u88, u89, u90, u91, u92, u93, u94, u95, u96, u97, u98, u99, u100, u101, u102, u103, u104, u105, u106, u107, u108, u109, u110, u111, u112, u113, u114, u115, u116, u117, u118], []⟩ wo := by
  unfold partL tailL
  conv => arg 2; whnf
  have HM0 := Lib.hid m
  have HFIT := Lib.hid hfit
  have HLM := Lib.hid hM
  have HIM := Lib.hid IM
  have HX := Lib.hid hx
  have HKK := Lib.hid hK
  clear m hfit hM IM hx hK
  go_wp2_with fail
  go_loopw [42] (fun i wr => ∃ (k : Nat) (sz : Value), k ≤ M.length ∧ i = .int .i64 k ∧ RawB w wr E SB EB h L NS nc (chn (some 15) (some 6) ((M.map fun k => emit x k full).take k) NS.length) sz ∧ KeepL wo wr ∧ Below E wo wr) (fun i _ => M.length - (intOf i).toNat)
  case atStart => exact ⟨0, _, Nat.zero_le _, rfl, HM0.out, KeepL.refl _, Below.refl _ _⟩
  case round =>
    obtain ⟨k, sz, hk, rfl, hR, hkl, hbl⟩ := hrel
    rcases Nat.lt_or_ge k M.length with hlt | hge
    · obtain ⟨y, hy⟩ : ∃ y, M[k]? = some y := ⟨_, List.getElem?_eq_getElem hlt⟩
      obtain ⟨g, o, rfl, B1, B2, B3, B4, d1, d2, d3, d4, hq, x0, x1, x2, x3, x4, x5, x6, x7, x8, x9, x10, x11, x12, x13, x14⟩ := kl_kid (klq_keep HLM.out hkl hbl).kl hy
      have i1 : (k : Int) < (M.length : Int) := by omega
      have i3 : (k : Int) < 9223372036854775807 := by omega
      have hfk : (M.map fun k => emit x k full)[k]? = some (emit x y full) := by rw [List.getElem?_map, hy]; rfl
      have hIH := HIM.out y (List.mem_of_getElem? hy)
      unfold qcells at hq
      have HQ := Lib.hid hq
      have HFK := Lib.hid hfk
      have HI := Lib.hid hIH
      have HR := Lib.hid hR
      have HKL := Lib.hid hkl
      have HBL := Lib.hid hbl
      have e0 : wr.cell? ⟨EB, 0, none⟩ = some (.pointer (some ⟨E, 0, none⟩)) := hR.eb.cell 0
      clear hq hfk hIH hR hkl hbl hy
      go_upto_region 12 with fail
      obtain ⟨Q, hQ⟩ : ∃ Q, Q = qcells y.h y.kids.length B1 B2 B3 B4 d1 d2 d3 d4 := ⟨_, rfl⟩
      obtain ⟨W8, hW8⟩ : ∃ W, W = wr.alloc (.cells Q 29) := ⟨_, rfl⟩
      have T8 : Blk W8 wr.heap.size 29 Q := by rw [hW8]; exact Blk.new _ _ _
      have hb8 : Below wr.heap.size wr W8 := by rw [hW8]; exact Base.bel
      have hR8 := HR.out.grow hb8
      have hE2 := HR.out.raw.lt
      have hq8 : QVal W8 E Q.toList y := by rw [hQ]; exact HQ.out.kept (hb8.mono (Nat.le_of_lt hE2)) (Nat.le_refl _)
      have hk8 := HKL.out.trans (KeepL.of_below hb8)
      have hl8 := HBL.out.trans (hb8.mono (Nat.le_of_lt hE2))
      unfold qcells at hQ
      rw [← hQ, ← hW8]
      have HQQ := Lib.hid hQ
      have HQ8 := Lib.hid hq8
      have HR8 := Lib.hid hR8
      have HK8 := Lib.hid hk8
      have HL8 := Lib.hid hl8
      have e8 : W8.cell? ⟨EB, 0, none⟩ = some (.pointer (some ⟨E, 0, none⟩)) := hR8.eb.cell 0
      clear x0 x1 x2 x3 x4 x5 x6 x7 x8 x9 x10 x11 x12 x13 x14 hW8 hq8 hR8 hb8 hQ hk8 hl8 e0
      by_cases hk0 : k = 0
      · have HK0 := Lib.hid hk0
        have q0 : decide ((0 : Int) < (k : Int)) = false := decide_eq_false (by omega)
        have q0n : decide (0 < k) = false := decide_eq_false (by omega)
        clear hk0
        have HF8 : Hid (Fits (L ++ (chn (some 15) (some 6) ((M.map fun k => emit x k full).take k) NS.length).1.map Prod.snd) (NS ++ (chn (some 15) (some 6) ((M.map fun k => emit x k full).take k) NS.length).2) (emit x y full (NS.length + (chn (some 15) (some 6) ((M.map fun k => emit x k full).take k) NS.length).2.length)).1.length (emit x y full (NS.length + (chn (some 15) (some 6) ((M.map fun k => emit x k full).take k) NS.length).2.length)).2.length) := Lib.hid (by
          have hfit := HFIT.out
          have hkl := kid_len0 (sk := some 15) (o := some 6) (n := NS.length) (f := emit x y full) (by have := HFK.out; rwa [HK0.out] at this)
          rw [HK0.out, chn_zero]
          unfold Fits at hfit ⊢
          simp only [List.map_nil, List.append_nil, List.length_nil, Nat.add_zero]
          omega)
        have T9 := T8
        rw [HQQ.out] at T9
        obtain ⟨z0, z1, z2, z3, z4, z5, z6, z7, z8, z9, z10, z11, z12, z13, z14⟩ := qcs T9
        clear T9
        go_upto_region 15 with ((go_at_call 22; rw [← HQQ.out]; refine (raw_query HR8.out.raw HI.out HX.out hmb (Nat.le_of_lt hE) HQ8.out HF8.out).mono ?_; rintro e w4 ⟨rfl, hk4, hR4⟩; have HR4 := Lib.hid (HR8.out.next hk4 hR4); have HK4 := Lib.hid (HK8.out.trans (KeepL.of_keeps hk4)); have HL4 := Lib.hid (HL8.out.trans (hk4.below (Nat.le_of_lt HR8.out.raw.lt))); clear hR4 hk4))
        clear z0 z1 z2 z3 z4 z5 z6 z7 z8 z9 z10 z11 z12 z13 z14
        go_wp2_with fail
        go_roundw
        case rel =>
          refine ⟨k + 1, sz, by omega, by go_num, ?_, HK4.out, HL4.out⟩
          have hR4 := HR4.out
          have := HFK.out
          rw [HK0.out] at this ⊢
          rw [HK0.out, chn_zero] at hR4
          rw [kid_raw0 this]
          exact hR4
        case measure => simp [intOf]; omega
      · obtain ⟨k', hk'⟩ : ∃ k', k = k' + 1 := ⟨k - 1, by omega⟩
        have q0 : decide ((0 : Int) < (k : Int)) = true := decide_eq_true (by omega)
        have q0n : decide (0 < k) = true := decide_eq_true (by omega)
        have hlen := kid_len1 (sk := some 15) (o := some 6) (n := NS.length) (by rw [← hk']; exact HFK.out)
        rw [← hk'] at hlen
        obtain ⟨rk, hrk⟩ : ∃ r, r = chn (some 15) (some 6) ((M.map fun k => emit x k full).take k) NS.length := ⟨_, rfl⟩
        rw [← hrk] at hlen
        simp only [Option.isSome_some, if_true] at hlen
        have hfit0 := HFIT.out
        unfold Fits at hfit0
        have hb1 : L.length + rk.1.length ≤ 1099511627776 := by omega
        have hf2 : Hid (Fits (L ++ (rk.1 ++ [(true, (⟨15, 0, 0⟩ : Ins))]).map Prod.snd) (NS ++ rk.2) (emit x y full (NS.length + rk.2.length)).1.length (emit x y full (NS.length + rk.2.length)).2.length) := Lib.hid (by unfold Fits; simp only [List.length_append, List.length_map, List.length_singleton]; omega)
        have hf3 : Hid ((L ++ ((rk.1 ++ [(true, (⟨15, 0, 0⟩ : Ins))]) ++ (emit x y full (NS.length + rk.2.length)).1.map (fun i => (false, i))).map Prod.snd).length ≤ 1099511627776) := Lib.hid (by simp only [List.length_append, List.length_map, List.length_singleton]; omega)
        have HKK' := Lib.hid hk'
        have HRE := Lib.hid hrk
        rw [← hrk] at HR8
        clear hk0 hlen hk' hrk HR hfit0
        go_upto_region 14 with ((go_at_call 78; refine (miss_any _ _ _ _ _ _ _ _ _ _ _ HR8.out hE hb1).mono ?_; rintro e w2 ⟨rfl, sv2, hB2, hkm, hbm⟩; have T2 := blk_keepL hkm T8; have hq2 := HQ8.out.kept hbm (Nat.le_refl _); have HR2 := Lib.hid hB2; have HK2 := Lib.hid (HK8.out.trans hkm); have HL2 := Lib.hid (HL8.out.trans hbm); have HQ2 := Lib.hid hq2; have e2 : w2.cell? ⟨EB, 0, none⟩ = some (.pointer (some ⟨E, 0, none⟩)) := hB2.eb.cell 0; clear hB2 hkm hbm hq2 e8))
        rw [HQQ.out] at T2
        obtain ⟨z0, z1, z2, z3, z4, z5, z6, z7, z8, z9, z10, z11, z12, z13, z14⟩ := qcs T2
        go_upto_region 15 with ((go_at_call 22; rw [← HQQ.out]; refine (raw_query HR2.out.raw HI.out HX.out hmb (Nat.le_of_lt hE) HQ2.out hf2.out).mono ?_; rintro e w4 ⟨rfl, hk4, hR4⟩; have hB4 := HR2.out.next hk4 hR4; have HR4 := Lib.hid hB4; have HK4 := Lib.hid (HK2.out.trans (KeepL.of_keeps hk4)); have HL4 := Lib.hid (HL2.out.trans (hk4.below (Nat.le_of_lt HR2.out.raw.lt))); have e4 : w4.cell? ⟨EB, 0, none⟩ = some (.pointer (some ⟨E, 0, none⟩)) := hB4.eb.cell 0; clear hR4 hk4 hB4))
        clear z0 z1 z2 z3 z4 z5 z6 z7 z8 z9 z10 z11 z12 z13 z14
        go_upto_region 17 with ((go_at_call 23; refine (raw_put 6 0 0 HR4.out.raw hf3.out).mono ?_; rintro e w5 ⟨⟨v5, rfl⟩, hk5, hR5⟩; have HR5 := Lib.hid (HR4.out.next hk5 hR5); have HK5 := Lib.hid (HK4.out.trans (KeepL.of_keeps hk5)); have HL5 := Lib.hid (HL4.out.trans (hk5.below (Nat.le_of_lt HR4.out.raw.lt))); clear hR5 hk5))
        go_wp2_with fail
        go_roundw
        case rel =>
          refine ⟨k + 1, sv2, by omega, by go_num, ?_, HK5.out, HL5.out⟩
          have hfk := HFK.out
          rw [HKK'.out] at hfk ⊢
          rw [kid_rawS hfk (r := rk) (by rw [← HKK'.out]; exact HRE.out.symm)]
          exact HR5.out
        case measure => simp [intOf]; omega
    · obtain rfl : k = M.length := by omega
      have hfl : (M.map fun k => emit x k full).length = M.length := by simp
      rw [← hfl, List.take_length] at hR
      have HR7 := Lib.hid hR
      have HK7 := Lib.hid hkl
      have HB7 := Lib.hid hbl
      clear hR hkl hbl hfl
      go_wp2_with fail
      exact HKK.out _ _ _ _ _ _ _ _ _ _ _ _ _ _ _ _ _ _ _ _ _ _ _ _ _ _ _ _ _ _ _ _ _ _ _ _ _ _ _ _ _ _ _ _ _ _ _ _ _ _ _ _ _ _ _ _ _ _ _ _ _ _ _ _ _ _ _ _ _ _ _ _ _ _ _ _ _ _ _ _ _ _ _ _ _ _ _ _ _ _ _ _ _ _ _ _ _ _ _ _ _ _ _ _ _ _ _ _ _ _ _ _ _ HR7.out HK7.out HB7.out
end Go.Proofs.YtfpikilhbkeajaaGreatDoor.EmitMusts
