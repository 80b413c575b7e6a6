/-
  The walk of concordlaw16.keeps: a kid that is left out, put into a node with kids, changes nothing.
-/
import Derived.Test.YtkcfgcdlnojaeaaGreatDoorKeepsRest
import Derived.Test.YtkcfgcdlnojaeaaGreatDoorPutBase
import Derived.Test.YtkcfgcdlnojaeaaGreatDoorVanPlain
import Derived.Test.YtkcfgcdlnojaeaaGreatDoorDRel
set_option linter.unusedVariables false
set_option linter.unusedSimpArgs false
namespace Go.Proofs.YtkcfgcdlnojaeaaGreatDoor.KeepsWalk
set_option maxRecDepth 100000
open Go.RowKit Go.PlainAid Base Query BindBase NodeTerm NodeTree NodePlain TextPlain NodeWalk Binder WordPlain WordsWalk StopsWalk WordsOne OpenField FieldPlain SchemaCheck WordsAny WordsMany LeafBase TreePlain BindTop MemOf KeepsRest PutBase VanPlain Small Rel Relb RelC

theorem row_opr {P : Program} {o : Oper} {a : Act} {w w0 : World} {K : Act → World → Prop} {Q : Exit → Act → World → Prop} (s x : Operand) (t : TypeId)
    (ho : o.op = .call { callee := .builtin .append, args := #[s, x], argTypes := #[t, t] })
    {base : Nat} {e : TypeId} {i : TypeInfo} {z : Value} {size : Nat} (bytes : Nat) (ht : P.underlying t = some (.slice e)) (hi : P.info? e = some i) (hz : i.zero = some z)
    (hsize : i.size = size) (hby : i.bytes = bytes) (hzs : z.cells.size = size) (hsz : 0 < size)
    {v : Value} {n : Nat} {xs : List Value} (hr : Row e size base n xs v w) (hs : a.eval s = v)
    (ad : Addr) (m c : Nat) (news : List Value) (hx : a.eval x = .slice (some ad) m c) (hl : news.length = m * size) (hnews : ∀ j u, news[j]? = some u → w.cell? (ad.add j) = some u) (h1 : ∀ u ∈ news, u.oneCell' = true)
    (h63 : n + m ≤ maxLen) (hbytes : (n + m) * bytes ≤ 140737488355328) (hb : Below base w0 w) (hbase : base ≤ w.heap.size) (hne : n = 1 → 0 < m)
    (h : ∀ v' w', Below base w0 w' → Twelve size w w' → Row e size base (n + m) (xs ++ news) v' w' → K (a.put o.dst v') w') : Oper.wp P o a w K Q := by
  have := row_step (P := P) (ops := #[]) (o := { o with guard := none }) (a := a) (w := w) (w0 := w0) (K := K) (Q := Q) (E := True) rfl s x t ho bytes ht hi hz hsize hby hzs hsz hr hs ad m c news hx hl hnews h1 h63 hbytes hb hbase hne h
  rw [if_pos (by simp [Region.wanted])] at this
  exact this
set_option maxHeartbeats 8000000 in
theorem keeps_in {fs : List Fld} {fgo : Option Addr} {c B B0 : Nat} {a1 a2 : Addr} {w : World} (k n : Int) (fn T : ByteArray) (lo hi : Bnd) (occ : List Int) (ks : List Nod) (A1 A2 : Option Addr) (c1 c2 : Nat) (kc : Nat → List Value) (x : Nod) (xq xn : Int) (xf xT : ByteArray) (xR : NRest) (at_ oc : Int)
    (m : Mem fs fgo B0 a1 a2 w) (hnm : ∀ f ∈ fs, f.nm.size ≤ 9223372036854775807) (hlen : fs.length ≤ 9223372036854775807) (hg : schemaB fs = true)
    (hwf : Nwf ⟨k, fn, T, n, lo, hi, occ⟩) (s1 : Slc w B A1 (ints occ)) (h2 : ks ≠ [] → ∃ g o, A2 = some ⟨g, o, none⟩ ∧ g < B ∧ ∀ i, i < ks.length → ∀ j u, (kc i)[j]? = some u → w.cell? ⟨g, o + i * 12 + j, none⟩ = some u) (h3 : ∀ i q, ks[i]? = some q → NVal w B (kc i) q)
    (hc1 : occ.length ≤ c1) (hc2 : ks.length ≤ c2) (hx : NVal w B [.int .i64 xq, .string xf, .string xT, .int .i64 xn, .bool xR.lo.op, .bool xR.lo.inn, .string xR.lo.text, .bool xR.hi.op, .bool xR.hi.inn, .string xR.hi.text, .slice xR.A1 xR.n1 xR.c1, .slice xR.A2 xR.n2 xR.c2] x) (hB : B ≤ w.heap.size) (h9 : 9 ≤ k) (h12 : k ≤ 12) (gn : nodB (.mk ⟨k, fn, T, n, lo, hi, occ⟩ ks) = true) (gx : nodB x = true) (vx : (bindT fs x).2 = false) (hbk : (Nod.mk ⟨k, fn, T, n, lo, hi, occ⟩ ks).bulk + x.bulk + 1 ≤ 2097152) :
    Calls Tryz.prog 36 #[.agg #[.slice fgo fs.length c], .agg #[.int .i64 k, .string fn, .string T, .int .i64 n, .bool lo.op, .bool lo.inn, .string lo.text, .bool hi.op, .bool hi.inn, .string hi.text, .slice A1 occ.length c1, .slice A2 ks.length c2], .agg #[.int .i64 xq, .string xf, .string xT, .int .i64 xn, .bool xR.lo.op, .bool xR.lo.inn, .string xR.lo.text, .bool xR.hi.op, .bool xR.hi.inn, .string xR.hi.text, .slice xR.A1 xR.n1 xR.c1, .slice xR.A2 xR.n2 xR.c2], .int .i64 at_, .int .i64 oc] w fun e w' => e = .returned (.bool true) ∧ Below w.heap.size w w' := by
  have hne := good_kids h9 h12 gn
  obtain ⟨g2, o2, rfl, hg2, hcc⟩ := h2 hne
  have hpos : 0 < ks.length := List.length_pos_iff.2 hne
  have hkl : ks.length ≤ 2097152 := by have h := nbulks_len ks; simp only [Nod.bulk] at hbk; omega
  have hn : NVal w B [.int .i64 k, .string fn, .string T, .int .i64 n, .bool lo.op, .bool lo.inn, .string lo.text, .bool hi.op, .bool hi.inn, .string hi.text, .slice A1 occ.length c1, .slice (some ⟨g2, o2, none⟩) ks.length c2] (.mk ⟨k, fn, T, n, lo, hi, occ⟩ ks) := NVal.mk _ ks A1 _ c1 c2 kc hwf (by unfold maxLen; omega) s1 h2 h3
  have hol := fun h => good_occ gn h
  simp only at hol
  obtain ⟨W3, hW3⟩ : ∃ W, W = ((w.alloc (.cells #[.slice fgo fs.length c] 36)).alloc (.cells #[.int .i64 k, .string fn, .string T, .int .i64 n, .bool lo.op, .bool lo.inn, .string lo.text, .bool hi.op, .bool hi.inn, .string hi.text, .slice A1 occ.length c1, .slice (some ⟨g2, o2, none⟩) ks.length c2] 39)).alloc (.cells #[.int .i64 xq, .string xf, .string xT, .int .i64 xn, .bool xR.lo.op, .bool xR.lo.inn, .string xR.lo.text, .bool xR.hi.op, .bool xR.hi.inn, .string xR.hi.text, .slice xR.A1 xR.n1 xR.c1, .slice xR.A2 xR.n2 xR.c2] 39) := ⟨_, rfl⟩
  have KS : Blk W3 w.heap.size 36 #[.slice fgo fs.length c] := by rw [hW3]; exact ((Blk.new w _ _).alloc _).alloc _
  have KN : Blk W3 (w.heap.size + 1) 39 #[.int .i64 k, .string fn, .string T, .int .i64 n, .bool lo.op, .bool lo.inn, .string lo.text, .bool hi.op, .bool hi.inn, .string hi.text, .slice A1 occ.length c1, .slice (some ⟨g2, o2, none⟩) ks.length c2] := by
    rw [hW3]
    have := (Blk.new (w.alloc (.cells #[.slice fgo fs.length c] 36)) 39 #[.int .i64 k, .string fn, .string T, .int .i64 n, .bool lo.op, .bool lo.inn, .string lo.text, .bool hi.op, .bool hi.inn, .string hi.text, .slice A1 occ.length c1, .slice (some ⟨g2, o2, none⟩) ks.length c2]).alloc (.cells #[.int .i64 xq, .string xf, .string xT, .int .i64 xn, .bool xR.lo.op, .bool xR.lo.inn, .string xR.lo.text, .bool xR.hi.op, .bool xR.hi.inn, .string xR.hi.text, .slice xR.A1 xR.n1 xR.c1, .slice xR.A2 xR.n2 xR.c2] 39)
    rwa [World.size_alloc] at this
  have KX : Blk W3 (w.heap.size + 2) 39 #[.int .i64 xq, .string xf, .string xT, .int .i64 xn, .bool xR.lo.op, .bool xR.lo.inn, .string xR.lo.text, .bool xR.hi.op, .bool xR.hi.inn, .string xR.hi.text, .slice xR.A1 xR.n1 xR.c1, .slice xR.A2 xR.n2 xR.c2] := by
    rw [hW3]
    have := Blk.new ((w.alloc (.cells #[.slice fgo fs.length c] 36)).alloc (.cells #[.int .i64 k, .string fn, .string T, .int .i64 n, .bool lo.op, .bool lo.inn, .string lo.text, .bool hi.op, .bool hi.inn, .string hi.text, .slice A1 occ.length c1, .slice (some ⟨g2, o2, none⟩) ks.length c2] 39)) 39 #[.int .i64 xq, .string xf, .string xT, .int .i64 xn, .bool xR.lo.op, .bool xR.lo.inn, .string xR.lo.text, .bool xR.hi.op, .bool xR.hi.inn, .string xR.hi.text, .slice xR.A1 xR.n1 xR.c1, .slice xR.A2 xR.n2 xR.c2]
    rwa [World.size_alloc, World.size_alloc] at this
  have hbW : Below w.heap.size w W3 := by rw [hW3]; exact Base.bel
  have hsz : w.heap.size + 3 = W3.heap.size := by rw [hW3]; simp
  have k0 : W3.cell? ⟨w.heap.size + 1, 0, none⟩ = some (.int .i64 k) := KN.cell 0
  have k11 : W3.cell? ⟨w.heap.size + 1, 11, none⟩ = some (.slice (some ⟨g2, o2, none⟩) ks.length c2) := KN.cell 11
  have d1 : decide (k < 9) = false := decide_eq_false (by omega)
  have d2 : decide (12 < k) = false := decide_eq_false (by omega)
  have HW := Lib.hid hW3
  have HZ := Lib.hid hsz
  have HKL := Lib.hid (fun i (hi : i < ks.length) => (h3 i _ (List.getElem?_eq_getElem hi)).len)
  have HK1 := Lib.hid (fun i (hi : i < ks.length) => nval_one (h3 i _ (List.getElem?_eq_getElem hi)))
  have HX1 := Lib.hid (nval_one hx)
  have HM := Lib.hid m
  have HH3 := Lib.hid h3
  have HNV := Lib.hid hn
  have HXV := Lib.hid hx
  have HS1 := Lib.hid s1
  have HCC := Lib.hid hcc
  have HOL := Lib.hid hol
  have HWF := Lib.hid hwf
  have HGN := Lib.hid gn
  have HGX := Lib.hid gx
  have HVX := Lib.hid vx
  have HBK := Lib.hid hbk
  have HGG := Lib.hid hg
  have HKN := Lib.hid KN
  have HKS := Lib.hid KS
  clear hW3 hsz h3 hx m hn s1 hcc hol h2 hwf gn gx vx hbk hg
  go_enter Tryz.func36, Tryz.ntmps36
  go_upto_region 3 with fail
  rw [← HW.out]
  obtain ⟨b1, hb1⟩ : ∃ b, b = decide (at_ < 0) := ⟨_, rfl⟩
  obtain ⟨b2, hb2⟩ : ∃ b, b = decide ((ks.length : Int) < at_) := ⟨_, rfl⟩
  have e1 : decide (at_ < 0) = b1 := hb1.symm
  have e2 : decide ((ks.length : Int) < at_) = b2 := hb2.symm
  have HB1 := Lib.hid hb1
  have HB2 := Lib.hid hb2
  clear hb1 hb2
  go_cut [32] (fun v wx => v = .bool (b1 || b2) ∧ wx = W3)
  case first =>
    cases b1 <;> (go_wp2_with fail; go_meet; exact ⟨rfl, rfl⟩)
  case rest =>
    obtain ⟨rfl, rfl⟩ := hcut
    obtain ⟨W3, rfl⟩ : ∃ W, W = wc := ⟨_, rfl⟩
    go_upto_if 32 with fail
    go_cut [3] (fun v wx => (∃ a : Nat, a ≤ ks.length ∧ v = .int .i64 a) ∧ wx = W3)
    case first =>
      obtain ⟨bb, hbb⟩ : ∃ b, b = (b1 || b2) := ⟨_, rfl⟩
      rw [← hbb]
      have HBB := Lib.hid hbb
      clear hbb e1 e2
      cases bb
      · go_wp2_with fail
        go_meet
        refine ⟨⟨at_.toNat, ?_, ?_⟩, rfl⟩
        · have h := HBB.out
          rw [HB1.out, HB2.out] at h
          simp at h
          omega
        · have h := HBB.out
          rw [HB1.out, HB2.out] at h
          simp at h
          rw [Int.toNat_of_nonneg h.1]
      · go_wp2_with fail
        go_meet
        exact ⟨⟨ks.length, Nat.le_refl _, rfl⟩, rfl⟩
    case rest =>
      obtain ⟨⟨a, ha, rfl⟩, rfl⟩ := hcut
      obtain ⟨W3, rfl⟩ : ∃ W, W = wc := ⟨_, rfl⟩
      clear e1 e2 HB1 HB2 b1 b2
      go_upto_region 5 with fail
      obtain ⟨b1, hb1⟩ : ∃ b, b = decide (oc < 0) := ⟨_, rfl⟩
      obtain ⟨b2, hb2⟩ : ∃ b, b = decide ((2 : Int) < oc) := ⟨_, rfl⟩
      have e1 : decide (oc < 0) = b1 := hb1.symm
      have e2 : decide ((2 : Int) < oc) = b2 := hb2.symm
      have HB1 := Lib.hid hb1
      have HB2 := Lib.hid hb2
      clear hb1 hb2
      go_cut [41] (fun v wx => v = .bool (b1 || b2) ∧ wx = W3)
      case first =>
        cases b1 <;> (go_wp2_with fail; go_meet; exact ⟨rfl, rfl⟩)
      case rest =>
        obtain ⟨rfl, rfl⟩ := hcut
        obtain ⟨W3, rfl⟩ : ∃ W, W = wc := ⟨_, rfl⟩
        go_upto_if 41 with fail
        go_cut [4] (fun v wx => (∃ o : Int, occB o = true ∧ v = .int .i64 o) ∧ wx = W3)
        case first =>
          obtain ⟨bb, hbb⟩ : ∃ b, b = (b1 || b2) := ⟨_, rfl⟩
          rw [← hbb]
          have HBB := Lib.hid hbb
          clear hbb e1 e2
          cases bb
          · go_wp2_with fail
            go_meet
            refine ⟨⟨oc, ?_, rfl⟩, rfl⟩
            have h := HBB.out
            rw [HB1.out, HB2.out] at h
            simp at h
            unfold occB
            simp
            omega
          · go_wp2_with fail
            go_meet
            exact ⟨⟨1, by decide, rfl⟩, rfl⟩
        case rest =>
          obtain ⟨⟨o, ho, rfl⟩, rfl⟩ := hcut
          obtain ⟨W3, rfl⟩ : ∃ W, W = wc := ⟨_, rfl⟩
          clear e1 e2 HB1 HB2 b1 b2
          have HO := Lib.hid ho
          clear ho
          obtain ⟨z0, z1, z2, z3, z4, z5, z6, z7, z8, z9, z10, z11⟩ := nrow KN
          go_upto_region 8 with fail
          obtain ⟨W7, hW7⟩ : ∃ W, W = W3.alloc (.cells #[.int .i64 k, .string fn, .string T, .int .i64 n, .bool lo.op, .bool lo.inn, .string lo.text, .bool hi.op, .bool hi.inn, .string hi.text, .slice A1 occ.length c1, .slice (some ⟨g2, o2, none⟩) ks.length c2] 39) := ⟨_, rfl⟩
          rw [← hW7]
          have KM : Blk W7 W3.heap.size 39 #[.int .i64 k, .string fn, .string T, .int .i64 n, .bool lo.op, .bool lo.inn, .string lo.text, .bool hi.op, .bool hi.inn, .string hi.text, .slice A1 occ.length c1, .slice (some ⟨g2, o2, none⟩) ks.length c2] := by rw [hW7]; exact Blk.new W3 _ _
          have hb37 : Below W3.heap.size W3 W7 := by rw [hW7]; exact balloc (Below.refl _ _) _
          have KN7 := KN.below hb37 KN.lt
          have KX7 := KX.below hb37 KX.lt
          have h37 : W3.heap.size + 1 = W7.heap.size := by rw [hW7]; simp
          have H37 := Lib.hid h37
          have hbw7 : Below w.heap.size w W7 := bchain hbW hb37
          have i0 : (0 : Int) ≤ (a : Int) := by omega
          have i1 : (a : Int) ≤ (c2 : Int) := by omega
          have i2 : (a : Int) ≤ (ks.length : Int) := by omega
          have n1 : a ≤ c2 := by omega
          have HN1 := Lib.hid (fun wx (hx : Below W7.heap.size W7 wx) => show ∀ j u, (fl kc 0 a)[j]? = some u → wx.cell? ((⟨g2, o2, none⟩ : Addr).add j) = some u by have h := fl_news (kc := kc) (sz := 12) (n := a) (p := 0) (g := g2) (o := o2) (w := wx) (by decide) (fun i _ hi => HKL.out i (by omega)) (fun i _ hi j u hu => ((bchain hbw7 hx).cell (p := ⟨g2, o2 + i * 12 + j, none⟩) (by show g2 < w.heap.size; omega)).trans (HCC.out i (by omega) j u hu)); rwa [Nat.zero_mul, Nat.add_zero] at h)
          obtain ⟨ad, had, hn3⟩ : ∃ ad : Addr, (if c2 = a then (some ⟨g2, o2, none⟩ : Option Addr) else some ⟨g2, o2 + a * 12, none⟩) = some ad ∧ ∀ wx, Below W7.heap.size W7 wx → ∀ j u, (fl kc a (ks.length - a))[j]? = some u → wx.cell? (ad.add j) = some u := by
            by_cases hca : c2 = a
            · refine ⟨_, if_pos hca, fun wx _ j u hu => ?_⟩
              rw [show ks.length - a = 0 by omega] at hu
              cases hu
            · exact ⟨_, if_neg hca, fun wx hx => fl_news (kc := kc) (sz := 12) (n := (ks.length - a)) (p := a) (g := g2) (o := o2) (w := wx) (by decide) (fun i _ hi => HKL.out i (by omega)) (fun i _ hi j u hu => ((bchain hbw7 hx).cell (p := ⟨g2, o2 + i * 12 + j, none⟩) (by show g2 < w.heap.size; omega)).trans (HCC.out i (by omega) j u hu))⟩
          have HN3 := Lib.hid hn3
          clear hn3
          clear z0 z1 z2 z3 z4 z5 z6 z7 z8 z9 z10 z11 hW7 h37 k0 k11 d1 d2 KN KX
          refine RelC.wp_region_relc 15 (fun wx => Below W7.heap.size W7 wx) (fun wa wb => Below wa.heap.size wa wb) (fun wa wb => Twelve 12 wa wb) [0, 5, 8, 13] (fun t v wx => PutG 39 12 W7.heap.size a ks.length (fl kc 0 a) [.int .i64 xq, .string xf, .string xT, .int .i64 xn, .bool xR.lo.op, .bool xR.lo.inn, .string xR.lo.text, .bool xR.hi.op, .bool xR.hi.inn, .string xR.hi.text, .slice xR.A1 xR.n1 xR.c1, .slice xR.A2 xR.n2 xR.c2] (fl kc a (ks.length - a)) t v wx) undef (by kernel_rfl) (by kernel_rfl) (by kernel_rfl) (by simp) (by kernel_rfl) (bdrew (Below.refl _ _)) trivial (fun _ _ _ _ hle h => PutG.below hle h) ?_
          simp only [List.take_succ_cons, List.take_zero, List.drop_succ_cons, List.drop_zero]
          apply RelC.relc_chain 0 1 [] rfl (by kernel_rfl) (by kernel_rfl) (by rfl)
          case hs =>
            intro vv wx hx hf hg
            clear hf
            try simp only [Relb.putD, Act.put, Base.s1, Base.s2, Base.s3]
            intro KK hK
            go_simp
            exact hK _ _ (balloc hx _) (twelve_alloc _ _) ⟨wx.heap.size, 0, rfl, own_none hx.size, fun _ => rfl⟩
          apply RelC.relc_one 2 [] rfl (by kernel_rfl) (by kernel_rfl) (by rfl)
          case hs =>
            intro vv wx hx hf
            clear hf
            try simp only [Relb.putD, Act.put, Base.s1, Base.s2, Base.s3]
            intro KK hK
            go_simp
            exact hK _ _ hx (Below.refl _ _) rfl
          apply RelC.relc_one 3 [(1, 44)] rfl (by kernel_rfl) (by kernel_rfl) (by rfl)
          case hs =>
            intro vv wx hx hf
            have e44 : vv 1 = _ := hf 1 (by simp)
            clear hf
            have nk := (show wx.cell? ⟨w.heap.size + 1, 11, none⟩ = some (.slice (some ⟨g2, o2, none⟩) ks.length c2) from (KN7.below hx KN7.lt).cell 11)
            try simp only [Relb.putD, e44, Act.put, Base.s1, Base.s2, Base.s3]
            intro KK hK
            go_simp
            exact hK _ _ hx (Below.refl _ _) rfl
          apply RelC.relc_one 4 [] rfl (by kernel_rfl) (by kernel_rfl) (by rfl)
          case hs =>
            intro vv wx hx hf
            clear hf
            try simp only [Relb.putD, Act.put, Base.s1, Base.s2, Base.s3]
            intro KK hK
            go_simp
            exact hK _ _ hx (Below.refl _ _) rfl
          apply RelC.relc_one 5 [(2, 45), (3, 46)] rfl (by kernel_rfl) (by kernel_rfl) (by rfl)
          case hs =>
            intro vv wx hx hf
            have e45 : vv 2 = _ := hf 2 (by simp)
            have e46 : vv 3 = _ := hf 3 (by simp)
            clear hf
            try simp only [Relb.putD, e45, e46, Act.put, Base.s1, Base.s2, Base.s3]
            intro KK hK
            go_simp
            exact hK _ _ hx (Below.refl _ _) rfl
          apply RelC.relc_chain 1 6 [(0, 43), (4, 47)] rfl (by kernel_rfl) (by kernel_rfl) (by rfl)
          case hs =>
            intro vv wx hx hf hg
            have e47 : vv 4 = _ := hf 4 (by simp)
            clear hf
            try simp only [Relb.putD, e47, Act.put, Base.s1, Base.s2, Base.s3]
            intro KK hK
            obtain ⟨i1, ⟨ii, i2, i3, i4, i5⟩, i6, i7⟩ := nodEl
            rw [if_pos (by rfl)]
            refine row_opr (w0 := W7) _ _ 37 (by rfl) 144 i1 i2 i3 i4 i5 i6 i7 (show Row _ _ _ 0 [] (vv 0) wx from hg) (by rfl) ⟨g2, o2, none⟩ a _ (fl kc 0 a) (by rfl) (fl_len a 0 (fun i _ hi => HKL.out i (by omega))) (HN1.out wx hx) (fl_one a 0 (fun i _ hi => HK1.out i (by omega))) (by unfold maxLen; omega) (by omega) hx hx.size (by omega) ?_
            intro v2 w2 r1 r2 r3
            rw [Nat.zero_add, List.nil_append] at r3
            exact hK _ _ r1 r2 r3
          apply RelC.relc_one 7 [] rfl (by kernel_rfl) (by kernel_rfl) (by rfl)
          case hs =>
            intro vv wx hx hf
            clear hf
            have x0 := (show wx.cell? ⟨w.heap.size + 2, 0, none⟩ = some (.int .i64 xq) from (KX7.below hx KX7.lt).cell 0)
            have x1 := (show wx.cell? ⟨w.heap.size + 2, 1, none⟩ = some (.string xf) from (KX7.below hx KX7.lt).cell 1)
            have x2 := (show wx.cell? ⟨w.heap.size + 2, 2, none⟩ = some (.string xT) from (KX7.below hx KX7.lt).cell 2)
            have x3 := (show wx.cell? ⟨w.heap.size + 2, 3, none⟩ = some (.int .i64 xn) from (KX7.below hx KX7.lt).cell 3)
            have x4 := (show wx.cell? ⟨w.heap.size + 2, 4, none⟩ = some (.bool xR.lo.op) from (KX7.below hx KX7.lt).cell 4)
            have x5 := (show wx.cell? ⟨w.heap.size + 2, 5, none⟩ = some (.bool xR.lo.inn) from (KX7.below hx KX7.lt).cell 5)
            have x6 := (show wx.cell? ⟨w.heap.size + 2, 6, none⟩ = some (.string xR.lo.text) from (KX7.below hx KX7.lt).cell 6)
            have x7 := (show wx.cell? ⟨w.heap.size + 2, 7, none⟩ = some (.bool xR.hi.op) from (KX7.below hx KX7.lt).cell 7)
            have x8 := (show wx.cell? ⟨w.heap.size + 2, 8, none⟩ = some (.bool xR.hi.inn) from (KX7.below hx KX7.lt).cell 8)
            have x9 := (show wx.cell? ⟨w.heap.size + 2, 9, none⟩ = some (.string xR.hi.text) from (KX7.below hx KX7.lt).cell 9)
            have x10 := (show wx.cell? ⟨w.heap.size + 2, 10, none⟩ = some (.slice xR.A1 xR.n1 xR.c1) from (KX7.below hx KX7.lt).cell 10)
            have x11 := (show wx.cell? ⟨w.heap.size + 2, 11, none⟩ = some (.slice xR.A2 xR.n2 xR.c2) from (KX7.below hx KX7.lt).cell 11)
            try simp only [Relb.putD, Act.put, Base.s1, Base.s2, Base.s3]
            intro KK hK
            go_simp
            exact hK _ _ hx (Below.refl _ _) rfl
          apply RelC.relc_kind 8 [(6, 49)] (fun x wx => OneRow 39 [.int .i64 xq, .string xf, .string xT, .int .i64 xn, .bool xR.lo.op, .bool xR.lo.inn, .string xR.lo.text, .bool xR.hi.op, .bool xR.hi.inn, .string xR.hi.text, .slice xR.A1 xR.n1 xR.c1, .slice xR.A2 xR.n2 xR.c2] x wx) rfl (by kernel_rfl) (by kernel_rfl) (by rfl) (fun _ _ _ hle h => OneRow.stays (by rfl) hle h)
          case hs =>
            intro vv wx hx hf
            have e49 : vv 6 = _ := hf 6 (by simp)
            clear hf
            try simp only [Relb.putD, e49, Act.put, Base.s1, Base.s2, Base.s3]
            intro KK hK
            go_simp
            exact hK _ _ (balloc hx _) (balloc (Below.refl _ _) _) ⟨wx.heap.size, rfl, Blk.new _ _ _⟩
          apply RelC.relc_chain 2 9 [(5, 48), (7, 50)] rfl (by kernel_rfl) (by kernel_rfl) (by rfl)
          case hs =>
            intro vv wx hx hf hg
            obtain ⟨g50, e50, B50⟩ := hf 7 (by simp)
            replace e50 : vv 7 = _ := e50
            clear hf
            try simp only [Relb.putD, e50, Act.put, Base.s1, Base.s2, Base.s3]
            intro KK hK
            obtain ⟨i1, ⟨ii, i2, i3, i4, i5⟩, i6, i7⟩ := nodEl
            rw [if_pos (by rfl)]
            refine row_opr (w0 := W7) _ _ 37 (by rfl) 144 i1 i2 i3 i4 i5 i6 i7 (show Row _ _ _ a ((fl kc 0 a)) (vv 5) wx from hg) (by rfl) ⟨g50, 0, none⟩ 1 1 [.int .i64 xq, .string xf, .string xT, .int .i64 xn, .bool xR.lo.op, .bool xR.lo.inn, .string xR.lo.text, .bool xR.hi.op, .bool xR.hi.inn, .string xR.hi.text, .slice xR.A1 xR.n1 xR.c1, .slice xR.A2 xR.n2 xR.c2] (by rfl) (by rfl) (OneRow.news B50) (HX1.out) (by unfold maxLen; omega) (by omega) hx hx.size (by omega) ?_
            intro v2 w2 r1 r2 r3
            exact hK _ _ r1 r2 r3
          apply RelC.relc_one 10 [] rfl (by kernel_rfl) (by kernel_rfl) (by rfl)
          case hs =>
            intro vv wx hx hf
            clear hf
            try simp only [Relb.putD, Act.put, Base.s1, Base.s2, Base.s3]
            intro KK hK
            go_simp
            exact hK _ _ hx (Below.refl _ _) rfl
          apply RelC.relc_one 11 [(9, 52)] rfl (by kernel_rfl) (by kernel_rfl) (by rfl)
          case hs =>
            intro vv wx hx hf
            have e52 : vv 9 = _ := hf 9 (by simp)
            clear hf
            have nk := (show wx.cell? ⟨w.heap.size + 1, 11, none⟩ = some (.slice (some ⟨g2, o2, none⟩) ks.length c2) from (KN7.below hx KN7.lt).cell 11)
            try simp only [Relb.putD, e52, Act.put, Base.s1, Base.s2, Base.s3]
            intro KK hK
            go_simp
            exact hK _ _ hx (Below.refl _ _) rfl
          apply RelC.relc_one 12 [] rfl (by kernel_rfl) (by kernel_rfl) (by rfl)
          case hs =>
            intro vv wx hx hf
            clear hf
            try simp only [Relb.putD, Act.put, Base.s1, Base.s2, Base.s3]
            intro KK hK
            go_simp
            exact hK _ _ hx (Below.refl _ _) rfl
          apply RelC.relc_one 13 [(10, 53), (11, 54)] rfl (by kernel_rfl) (by kernel_rfl) (by rfl)
          case hs =>
            intro vv wx hx hf
            have e53 : vv 10 = _ := hf 10 (by simp)
            have e54 : vv 11 = _ := hf 11 (by simp)
            clear hf
            try simp only [Relb.putD, e53, e54, Act.put, Base.s1, Base.s2, Base.s3]
            intro KK hK
            go_simp
            exact hK _ _ hx (Below.refl _ _) rfl
          apply RelC.relc_chain 3 14 [(8, 51), (12, 55)] rfl (by kernel_rfl) (by kernel_rfl) (by rfl)
          case hs =>
            intro vv wx hx hf hg
            have e55 : vv 12 = _ := hf 12 (by simp)
            clear hf
            try simp only [Relb.putD, e55, Act.put, Base.s1, Base.s2, Base.s3]
            intro KK hK
            obtain ⟨i1, ⟨ii, i2, i3, i4, i5⟩, i6, i7⟩ := nodEl
            rw [if_pos (by rfl)]
            refine row_opr (w0 := W7) _ _ 37 (by rfl) 144 i1 i2 i3 i4 i5 i6 i7 (show Row _ _ _ (a + 1) ((fl kc 0 a) ++ [.int .i64 xq, .string xf, .string xT, .int .i64 xn, .bool xR.lo.op, .bool xR.lo.inn, .string xR.lo.text, .bool xR.hi.op, .bool xR.hi.inn, .string xR.hi.text, .slice xR.A1 xR.n1 xR.c1, .slice xR.A2 xR.n2 xR.c2]) (vv 8) wx from hg) (by rfl) ad (ks.length - a) _ (fl kc a (ks.length - a)) (by rfl) (fl_len (ks.length - a) a (fun i _ hi => HKL.out i (by omega))) (HN3.out wx hx) (fl_one (ks.length - a) a (fun i _ hi => HK1.out i (by omega))) (by unfold maxLen; omega) (by omega) hx hx.size (by omega) ?_
            intro v2 w2 r1 r2 r3
            rw [show a + 1 + (ks.length - a) = ks.length + 1 by omega] at r3
            exact hK _ _ r1 r2 r3
          apply RelC.relc_one 15 [] rfl (by kernel_rfl) (by kernel_rfl) (by rfl)
          case hs =>
            intro vv wx hx hf
            clear hf
            try simp only [Relb.putD, Act.put, Base.s1, Base.s2, Base.s3]
            intro KK hK
            go_simp
            exact hK _ _ hx (Below.refl _ _) rfl
          refine RelC.relc_end [(0, 43), (1, 44), (2, 45), (3, 46), (4, 47), (5, 48), (6, 49), (7, 50), (8, 51), (9, 52), (10, 53), (11, 54), (12, 55), (13, 56), (14, 57)] (by kernel_rfl) (by kernel_rfl) ?_
          intro vv wx hx hf hg
          have e44 : vv 1 = _ := hf 1 (by decide)
          have e45 : vv 2 = _ := hf 2 (by decide)
          have e46 : vv 3 = _ := hf 3 (by decide)
          have e47 : vv 4 = _ := hf 4 (by decide)
          have e49 : vv 6 = _ := hf 6 (by decide)
          obtain ⟨g50, e50, B50⟩ := hf 7 (by decide)
          replace e50 : vv 7 = _ := e50
          have e52 : vv 9 = _ := hf 9 (by decide)
          have e53 : vv 10 = _ := hf 10 (by decide)
          have e54 : vv 11 = _ := hf 11 (by decide)
          have e55 : vv 12 = _ := hf 12 (by decide)
          have e57 : vv 14 = _ := hf 14 (by decide)
          clear hf
          simp only [Relb.putD, e44, e45, e46, e47, e49, e50, e52, e53, e54, e55, e57, Act.put, Base.s1, Base.s2, Base.s3]
          obtain ⟨gk, capk, e56, own, _⟩ := (show Row 39 12 W7.heap.size (ks.length + 1) ((fl kc 0 a) ++ [.int .i64 xq, .string xf, .string xT, .int .i64 xn, .bool xR.lo.op, .bool xR.lo.inn, .string xR.lo.text, .bool xR.hi.op, .bool xR.hi.inn, .string xR.hi.text, .slice xR.A1 xR.n1 xR.c1, .slice xR.A2 xR.n2 xR.c2] ++ (fl kc a (ks.length - a))) (vv 13) wx from hg)
          replace e56 : vv 13 = _ := e56
          simp only [e56]
          have KMx := KM.below hx KM.lt
          obtain ⟨_, _, eo, hgk1, hgk2⟩ := own.form (by omega)
          cases eo
          have hcells0 := put_cells (by decide) ha HKL.out (by rfl) own
          obtain ⟨z0, z1, z2, z3, z4, z5, z6, z7, z8, z9, z10, z11⟩ := nrow KMx
          obtain ⟨y0, y1, y2, y3, y4, y5, y6, y7, y8, y9, y10, y11⟩ := nfz KMx
          clear hg e44 e45 e46 e47 e49 e50 e52 e53 e54 e55 e56 e57 had own
          go_upto_region 9 with fail
          obtain ⟨W8, hW8⟩ : ∃ W, W = wx.setCell ⟨W3.heap.size, 11, none⟩ (.slice (some ⟨gk, 0, none⟩) (ks.length + 1) capk) := ⟨_, rfl⟩
          rw [← hW8]
          have KM8 : Blk W8 W3.heap.size 39 #[.int .i64 k, .string fn, .string T, .int .i64 n, .bool lo.op, .bool lo.inn, .string lo.text, .bool hi.op, .bool hi.inn, .string hi.text, .slice A1 occ.length c1, .slice (some ⟨gk, 0, none⟩) (ks.length + 1) capk] := by
            have h := KMx.set_ 11 (.slice (some ⟨gk, 0, none⟩) (ks.length + 1) capk)
            rw [← hW8] at h
            simpa using h
          have hgne : gk ≠ W3.heap.size := by have := H37.out; omega
          have hcells : ∀ i, i < ks.length + 1 → ∀ j u, (putC kc [.int .i64 xq, .string xf, .string xT, .int .i64 xn, .bool xR.lo.op, .bool xR.lo.inn, .string xR.lo.text, .bool xR.hi.op, .bool xR.hi.inn, .string xR.hi.text, .slice xR.A1 xR.n1 xR.c1, .slice xR.A2 xR.n2 xR.c2] a i)[j]? = some u → W8.cell? ⟨gk, 0 + i * 12 + j, none⟩ = some u := fun i hi j u hu => by
            rw [hW8]
            exact (World.cell?_of_block (Below.heap_setCell wx ⟨W3.heap.size, 11, none⟩ _ gk hgne)).trans (hcells0 i hi j u hu)
          have hb8 : Below W3.heap.size W3 W8 := by rw [hW8]; exact (bchain hb37 hx).setCell (p := ⟨W3.heap.size, 11, none⟩) (Nat.le_refl _) _
          have hgk8 : gk < W8.heap.size := by rw [hW8]; simpa using hgk2
          have hlt1 : w.heap.size + 1 < W3.heap.size := by have := HZ.out; omega
          have hlt0 : w.heap.size < W3.heap.size := by omega
          have KN8 : Blk W8 (w.heap.size + 1) 39 #[.int .i64 k, .string fn, .string T, .int .i64 n, .bool lo.op, .bool lo.inn, .string lo.text, .bool hi.op, .bool hi.inn, .string hi.text, .slice A1 occ.length c1, .slice (some ⟨g2, o2, none⟩) ks.length c2] := HKN.out.below hb8 hlt1
          have k0 : W8.cell? ⟨w.heap.size + 1, 0, none⟩ = some (.int .i64 k) := KN8.cell 0
          clear z0 z1 z2 z3 z4 z5 z6 z7 z8 z9 z10 z11 y0 y1 y2 y3 y4 y5 y6 y7 y8 y9 y10 y11 hcells0 KMx hW8 hx KN7 KX7 KM hgk1 hgk2
          obtain ⟨b9, hb9⟩ : ∃ b, b = (k == 9) := ⟨_, rfl⟩
          have e9 : (k == 9) = b9 := hb9.symm
          have HB9 := Lib.hid hb9
          have HCL := Lib.hid hcells
          clear hb9 hcells
          go_upto_if 60 with fail
          go_cut [] (fun wx => Below W3.heap.size W3 wx ∧ ∃ (A6 : Option Addr) (c6 : Nat), Blk wx W3.heap.size 39 #[.int .i64 k, .string fn, .string T, .int .i64 n, .bool lo.op, .bool lo.inn, .string lo.text, .bool hi.op, .bool hi.inn, .string hi.text, .slice A6 (putOcc ⟨k, fn, T, n, lo, hi, occ⟩ a o).length c6, .slice (some ⟨gk, 0, none⟩) (ks.length + 1) capk] ∧ Slc wx wx.heap.size A6 (ints (putOcc ⟨k, fn, T, n, lo, hi, occ⟩ a o)) ∧ (∀ i, i < ks.length + 1 → ∀ j u, (putC kc [.int .i64 xq, .string xf, .string xT, .int .i64 xn, .bool xR.lo.op, .bool xR.lo.inn, .string xR.lo.text, .bool xR.hi.op, .bool xR.hi.inn, .string xR.hi.text, .slice xR.A1 xR.n1 xR.c1, .slice xR.A2 xR.n2 xR.c2] a i)[j]? = some u → wx.cell? ⟨gk, 0 + i * 12 + j, none⟩ = some u) ∧ gk < wx.heap.size)
          case first =>
            cases b9
            · go_wp2_with fail
              go_meet
              have h9n : k ≠ 9 := fun h => by have := HB9.out; rw [h] at this; cases this
              have hpo : putOcc ⟨k, fn, T, n, lo, hi, occ⟩ a o = occ := if_neg h9n
              exact ⟨hb8, A1, c1, by rw [hpo]; exact KM8, by rw [hpo]; exact (HS1.out.below (bchain hbW hb8) hB).mono (Nat.le_trans hB (bchain hbW hb8).size), HCL.out, hgk8⟩
            · have h9y : k = 9 := by have := HB9.out; exact (beq_iff_eq.1 this.symm)
              have hol : occ.length = ks.length := HOL.out h9y
              obtain ⟨g1, o1, rfl, hg1, hcc1⟩ := HS1.out (fun h => by have := congrArg List.length h; simp [ints] at this; rw [this] at hol; simp at hol; omega)
              have HC1 := Lib.hid hcc1
              have hpo : putOcc ⟨k, fn, T, n, lo, hi, occ⟩ a o = occ.take a ++ o :: occ.drop a := if_pos h9y
              have HPO := Lib.hid hpo
              clear hcc1 hpo
              have hbw8 : Below w.heap.size w W8 := bchain hbW hb8
              have i0 : (0 : Int) ≤ (a : Int) := by omega
              have i1 : (a : Int) ≤ (c1 : Int) := by omega
              have i2 : (a : Int) ≤ (occ.length : Int) := by omega
              have n1 : a ≤ c1 := by omega
              have HO1 := Lib.hid (fun wx (hx : Below W8.heap.size W8 wx) => show ∀ j u, (ints (occ.take a))[j]? = some u → wx.cell? ((⟨g1, o1, none⟩ : Addr).add j) = some u from fun j u hu => by
                rw [PutBase.add_of]
                exact ((bchain hbw8 hx).cell (p := ⟨g1, o1 + j, none⟩) (show g1 < w.heap.size by omega)).trans (HC1.out j u (ints_take hu)))
              obtain ⟨ad, had, hn3⟩ : ∃ ad : Addr, (if c1 = a then (some ⟨g1, o1, none⟩ : Option Addr) else some ⟨g1, o1 + a, none⟩) = some ad ∧ ∀ wx, Below W8.heap.size W8 wx → ∀ j u, (ints (occ.drop a))[j]? = some u → wx.cell? (ad.add j) = some u := by
                by_cases hca : c1 = a
                · refine ⟨_, if_pos hca, fun wx _ j u hu => ?_⟩
                  rw [List.drop_eq_nil_of_le (by omega)] at hu
                  cases hu
                · refine ⟨_, if_neg hca, fun wx hx j u hu => ?_⟩
                  rw [PutBase.add_of, Nat.add_assoc]
                  exact ((bchain hbw8 hx).cell (p := ⟨g1, o1 + (a + j), none⟩) (show g1 < w.heap.size by omega)).trans (HC1.out (a + j) u (ints_drop hu))
              have HO3 := Lib.hid hn3
              clear hn3
              have HOLL := Lib.hid hol
              have H9Y := Lib.hid h9y
              clear e9 hol h9y
              go_upto_region 10 with fail
              refine RelC.wp_region_relc 15 (fun wx => Below W8.heap.size W8 wx) (fun wa wb => Below wa.heap.size wa wb) (fun wa wb => Twelve 1 wa wb) [0, 5, 8, 13] (fun t v wx => PutG 3 1 W8.heap.size a occ.length (ints (occ.take a)) [.int .i64 o] (ints (occ.drop a)) t v wx) undef (by kernel_rfl) (by kernel_rfl) (by kernel_rfl) (by simp) (by kernel_rfl) (bdrew (Below.refl _ _)) trivial (fun _ _ _ _ hle h => PutG.below hle h) ?_
              simp only [List.take_succ_cons, List.take_zero, List.drop_succ_cons, List.drop_zero]
              apply RelC.relc_chain 0 1 [] rfl (by kernel_rfl) (by kernel_rfl) (by rfl)
              case hs =>
                intro vv wx hx hf hg
                clear hf
                try simp only [Relb.putD, Act.put, Base.s1, Base.s2, Base.s3]
                intro KK hK
                go_simp
                exact hK _ _ (balloc hx _) (twelve_alloc _ _) ⟨wx.heap.size, 0, rfl, own_none hx.size, fun _ => rfl⟩
              apply RelC.relc_one 2 [] rfl (by kernel_rfl) (by kernel_rfl) (by rfl)
              case hs =>
                intro vv wx hx hf
                clear hf
                try simp only [Relb.putD, Act.put, Base.s1, Base.s2, Base.s3]
                intro KK hK
                go_simp
                exact hK _ _ hx (Below.refl _ _) rfl
              apply RelC.relc_one 3 [(1, 62)] rfl (by kernel_rfl) (by kernel_rfl) (by rfl)
              case hs =>
                intro vv wx hx hf
                have e62 : vv 1 = _ := hf 1 (by simp)
                clear hf
                have nk := (show wx.cell? ⟨w.heap.size + 1, 10, none⟩ = some (.slice (some ⟨g1, o1, none⟩) occ.length c1) from (KN8.below hx KN8.lt).cell 10)
                try simp only [Relb.putD, e62, Act.put, Base.s1, Base.s2, Base.s3]
                intro KK hK
                go_simp
                exact hK _ _ hx (Below.refl _ _) rfl
              apply RelC.relc_one 4 [] rfl (by kernel_rfl) (by kernel_rfl) (by rfl)
              case hs =>
                intro vv wx hx hf
                clear hf
                try simp only [Relb.putD, Act.put, Base.s1, Base.s2, Base.s3]
                intro KK hK
                go_simp
                exact hK _ _ hx (Below.refl _ _) rfl
              apply RelC.relc_one 5 [(2, 63), (3, 64)] rfl (by kernel_rfl) (by kernel_rfl) (by rfl)
              case hs =>
                intro vv wx hx hf
                have e63 : vv 2 = _ := hf 2 (by simp)
                have e64 : vv 3 = _ := hf 3 (by simp)
                clear hf
                try simp only [Relb.putD, e63, e64, Act.put, Base.s1, Base.s2, Base.s3]
                intro KK hK
                go_simp
                exact hK _ _ hx (Below.refl _ _) rfl
              apply RelC.relc_chain 1 6 [(0, 61), (4, 65)] rfl (by kernel_rfl) (by kernel_rfl) (by rfl)
              case hs =>
                intro vv wx hx hf hg
                have e65 : vv 4 = _ := hf 4 (by simp)
                clear hf
                try simp only [Relb.putD, e65, Act.put, Base.s1, Base.s2, Base.s3]
                intro KK hK
                obtain ⟨i1, ⟨ii, i2, i3, i4, i5⟩, i6, i7⟩ := intEl2
                rw [if_pos (by rfl)]
                refine row_opr (w0 := W8) _ _ 23 (by rfl) 8 i1 i2 i3 i4 i5 i6 i7 (show Row _ _ _ 0 [] (vv 0) wx from hg) (by rfl) ⟨g1, o1, none⟩ a _ (ints (occ.take a)) (by rfl) (by rw [ints_len, List.length_take]; have := HOLL.out; omega) (HO1.out wx hx) ints_one (by have := HOLL.out; unfold maxLen; omega) (by have := HOLL.out; omega) hx hx.size (by have := HOLL.out; omega) ?_
                intro v2 w2 r1 r2 r3
                rw [Nat.zero_add, List.nil_append] at r3
                exact hK _ _ r1 r2 r3
              apply RelC.relc_one 7 [] rfl (by kernel_rfl) (by kernel_rfl) (by rfl)
              case hs =>
                intro vv wx hx hf
                clear hf
                try simp only [Relb.putD, Act.put, Base.s1, Base.s2, Base.s3]
                intro KK hK
                go_simp
                exact hK _ _ hx (Below.refl _ _) rfl
              apply RelC.relc_kind 8 [(6, 67)] (fun x wx => OneRow 3 [.int .i64 o] x wx) rfl (by kernel_rfl) (by kernel_rfl) (by rfl) (fun _ _ _ hle h => OneRow.stays (by rfl) hle h)
              case hs =>
                intro vv wx hx hf
                have e67 : vv 6 = _ := hf 6 (by simp)
                clear hf
                try simp only [Relb.putD, e67, Act.put, Base.s1, Base.s2, Base.s3]
                intro KK hK
                go_simp
                exact hK _ _ (balloc hx _) (balloc (Below.refl _ _) _) ⟨wx.heap.size, rfl, Blk.new _ _ _⟩
              apply RelC.relc_chain 2 9 [(5, 66), (7, 68)] rfl (by kernel_rfl) (by kernel_rfl) (by rfl)
              case hs =>
                intro vv wx hx hf hg
                obtain ⟨g50, e68, B50⟩ := hf 7 (by simp)
                replace e68 : vv 7 = _ := e68
                clear hf
                try simp only [Relb.putD, e68, Act.put, Base.s1, Base.s2, Base.s3]
                intro KK hK
                obtain ⟨i1, ⟨ii, i2, i3, i4, i5⟩, i6, i7⟩ := intEl2
                rw [if_pos (by rfl)]
                refine row_opr (w0 := W8) _ _ 23 (by rfl) 8 i1 i2 i3 i4 i5 i6 i7 (show Row _ _ _ a ((ints (occ.take a))) (vv 5) wx from hg) (by rfl) ⟨g50, 0, none⟩ 1 1 [.int .i64 o] (by rfl) (by rfl) (OneRow.news B50) (ints_one (l := [o])) (by have := HOLL.out; unfold maxLen; omega) (by have := HOLL.out; omega) hx hx.size (by have := HOLL.out; omega) ?_
                intro v2 w2 r1 r2 r3
                exact hK _ _ r1 r2 r3
              apply RelC.relc_one 10 [] rfl (by kernel_rfl) (by kernel_rfl) (by rfl)
              case hs =>
                intro vv wx hx hf
                clear hf
                try simp only [Relb.putD, Act.put, Base.s1, Base.s2, Base.s3]
                intro KK hK
                go_simp
                exact hK _ _ hx (Below.refl _ _) rfl
              apply RelC.relc_one 11 [(9, 70)] rfl (by kernel_rfl) (by kernel_rfl) (by rfl)
              case hs =>
                intro vv wx hx hf
                have e70 : vv 9 = _ := hf 9 (by simp)
                clear hf
                have nk := (show wx.cell? ⟨w.heap.size + 1, 10, none⟩ = some (.slice (some ⟨g1, o1, none⟩) occ.length c1) from (KN8.below hx KN8.lt).cell 10)
                try simp only [Relb.putD, e70, Act.put, Base.s1, Base.s2, Base.s3]
                intro KK hK
                go_simp
                exact hK _ _ hx (Below.refl _ _) rfl
              apply RelC.relc_one 12 [] rfl (by kernel_rfl) (by kernel_rfl) (by rfl)
              case hs =>
                intro vv wx hx hf
                clear hf
                try simp only [Relb.putD, Act.put, Base.s1, Base.s2, Base.s3]
                intro KK hK
                go_simp
                exact hK _ _ hx (Below.refl _ _) rfl
              apply RelC.relc_one 13 [(10, 71), (11, 72)] rfl (by kernel_rfl) (by kernel_rfl) (by rfl)
              case hs =>
                intro vv wx hx hf
                have e71 : vv 10 = _ := hf 10 (by simp)
                have e72 : vv 11 = _ := hf 11 (by simp)
                clear hf
                try simp only [Relb.putD, e71, e72, Act.put, Base.s1, Base.s2, Base.s3]
                intro KK hK
                go_simp
                exact hK _ _ hx (Below.refl _ _) rfl
              apply RelC.relc_chain 3 14 [(8, 69), (12, 73)] rfl (by kernel_rfl) (by kernel_rfl) (by rfl)
              case hs =>
                intro vv wx hx hf hg
                have e73 : vv 12 = _ := hf 12 (by simp)
                clear hf
                try simp only [Relb.putD, e73, Act.put, Base.s1, Base.s2, Base.s3]
                intro KK hK
                obtain ⟨i1, ⟨ii, i2, i3, i4, i5⟩, i6, i7⟩ := intEl2
                rw [if_pos (by rfl)]
                refine row_opr (w0 := W8) _ _ 23 (by rfl) 8 i1 i2 i3 i4 i5 i6 i7 (show Row _ _ _ (a + 1) ((ints (occ.take a)) ++ [.int .i64 o]) (vv 8) wx from hg) (by rfl) ad (occ.length - a) _ (ints (occ.drop a)) (by rfl) (by rw [ints_len, List.length_drop]; omega) (HO3.out wx hx) ints_one (by have := HOLL.out; unfold maxLen; omega) (by have := HOLL.out; omega) hx hx.size (by have := HOLL.out; omega) ?_
                intro v2 w2 r1 r2 r3
                rw [show a + 1 + (occ.length - a) = occ.length + 1 by have := HOLL.out; omega] at r3
                exact hK _ _ r1 r2 r3
              apply RelC.relc_one 15 [] rfl (by kernel_rfl) (by kernel_rfl) (by rfl)
              case hs =>
                intro vv wx hx hf
                clear hf
                try simp only [Relb.putD, Act.put, Base.s1, Base.s2, Base.s3]
                intro KK hK
                go_simp
                exact hK _ _ hx (Below.refl _ _) rfl
              refine RelC.relc_end [(0, 61), (1, 62), (2, 63), (3, 64), (4, 65), (5, 66), (6, 67), (7, 68), (8, 69), (9, 70), (10, 71), (11, 72), (12, 73), (13, 74), (14, 75)] (by kernel_rfl) (by kernel_rfl) ?_
              intro vv wx hx hf hg
              have e62 : vv 1 = _ := hf 1 (by decide)
              have e63 : vv 2 = _ := hf 2 (by decide)
              have e64 : vv 3 = _ := hf 3 (by decide)
              have e65 : vv 4 = _ := hf 4 (by decide)
              have e67 : vv 6 = _ := hf 6 (by decide)
              obtain ⟨g50, e68, B50⟩ := hf 7 (by decide)
              replace e68 : vv 7 = _ := e68
              have e70 : vv 9 = _ := hf 9 (by decide)
              have e71 : vv 10 = _ := hf 10 (by decide)
              have e72 : vv 11 = _ := hf 11 (by decide)
              have e73 : vv 12 = _ := hf 12 (by decide)
              have e75 : vv 14 = _ := hf 14 (by decide)
              clear hf
              simp only [Relb.putD, e62, e63, e64, e65, e67, e68, e70, e71, e72, e73, e75, Act.put, Base.s1, Base.s2, Base.s3]
              obtain ⟨gq, capq, e74, own, _⟩ := (show Row 3 1 W8.heap.size (occ.length + 1) ((ints (occ.take a)) ++ [.int .i64 o] ++ (ints (occ.drop a))) (vv 13) wx from hg)
              replace e74 : vv 13 = _ := e74
              simp only [e74]
              have KMx := KM8.below hx KM8.lt
              obtain ⟨_, _, eo, hgq1, hgq2⟩ := own.form (by omega)
              cases eo
              have hq0 : ∀ j u, (ints (putOcc ⟨k, fn, T, n, lo, hi, occ⟩ a o))[j]? = some u → wx.cell? ⟨gq, 0 + j, none⟩ = some u := fun j u hu => by
                rw [HPO.out, show ints (occ.take a ++ o :: occ.drop a) = (ints (occ.take a)) ++ [.int .i64 o] ++ (ints (occ.drop a)) by simp [ints]] at hu
                have h := own.cells (g := gq) rfl j u hu
                rw [PutBase.add_of] at h
                exact h
              have hpl : (putOcc ⟨k, fn, T, n, lo, hi, occ⟩ a o).length = occ.length + 1 := by
                rw [HPO.out, List.length_append, List.length_cons, List.length_take, List.length_drop]
                have := HOLL.out
                omega
              obtain ⟨z0, z1, z2, z3, z4, z5, z6, z7, z8, z9, z10, z11⟩ := nrow KMx
              obtain ⟨y0, y1, y2, y3, y4, y5, y6, y7, y8, y9, y10, y11⟩ := nfz KMx
              have HPL := Lib.hid hpl
              clear hpl hg e62 e63 e64 e65 e67 e68 e70 e71 e72 e73 e74 e75 had own
              go_wp2_with fail
              go_meet
              have hqne : gq ≠ W3.heap.size := by have := KM8.lt; omega
              have hgkne : gk ≠ W3.heap.size := hgne
              have hbx : Below W3.heap.size W3 wx := bchain hb8 hx
              refine ⟨hbx.setCell (p := ⟨W3.heap.size, 10, none⟩) (Nat.le_refl _) _, some ⟨gq, 0, none⟩, capq, ?_, fun _ => ⟨gq, 0, rfl, by simpa using hgq2, fun j u hu => ?_⟩, fun i hi j u hu => ?_, ?_⟩
              · have h := KMx.set_ 10 (.slice (some ⟨gq, 0, none⟩) (occ.length + 1) capq)
                rw [HPL.out]
                simpa using h
              · exact (World.cell?_of_block (Below.heap_setCell wx ⟨W3.heap.size, 10, none⟩ _ gq hqne)).trans (hq0 j u hu)
              · exact (World.cell?_of_block (Below.heap_setCell wx ⟨W3.heap.size, 10, none⟩ _ gk hgkne)).trans ((hx.cell (p := ⟨gk, 0 + i * 12 + j, none⟩) hgk8).trans (HCL.out i hi j u hu))
              · rw [World.size_setCell]
                exact Nat.lt_of_lt_of_le hgk8 hx.size
          case rest =>
            obtain ⟨hb9, A6, c6, KM9, s6, hcells, hgk9⟩ := hcut
            obtain ⟨W9, rfl⟩ : ∃ W, W = wc := ⟨_, rfl⟩
            have hk := ‹∀ (a : Act) (w : World), Code.wp Tryz.prog _ _ a w → _›
            refine hk _ _ ?_
            refine cast_code (c := tailC 11) (by kernel_rfl) ?_
            have hbw9 : Below w.heap.size w W9 := bchain hbW hb9
            have hw9 := hbw9.size
            have hO : (putOcc ⟨k, fn, T, n, lo, hi, occ⟩ a o).length ≤ occ.length + 1 := put_occ ha HOL.out
            have hl : (ks.take a ++ x :: ks.drop a).length = ks.length + 1 := by rw [List.length_append, List.length_cons, List.length_take, List.length_drop]; omega
            have NV : NVal W9 W9.heap.size [.int .i64 k, .string fn, .string T, .int .i64 n, .bool lo.op, .bool lo.inn, .string lo.text, .bool hi.op, .bool hi.inn, .string hi.text, .slice A6 (putOcc ⟨k, fn, T, n, lo, hi, occ⟩ a o).length c6, .slice (some ⟨gk, 0, none⟩) (ks.length + 1) capk] (putN ⟨k, fn, T, n, lo, hi, occ⟩ ks x a o) := by
              have key := NVal.mk (w := W9) (B := W9.heap.size) ⟨k, fn, T, n, lo, hi, putOcc ⟨k, fn, T, n, lo, hi, occ⟩ a o⟩ (ks.take a ++ x :: ks.drop a) A6 (some ⟨gk, 0, none⟩) c6 capk (putC kc [.int .i64 xq, .string xf, .string xT, .int .i64 xn, .bool xR.lo.op, .bool xR.lo.inn, .string xR.lo.text, .bool xR.hi.op, .bool xR.hi.inn, .string xR.hi.text, .slice xR.A1 xR.n1 xR.c1, .slice xR.A2 xR.n2 xR.c2] a)
                ⟨HWF.out.kind, HWF.out.n, put_wf HWF.out.occur (occ_wf HO.out), by have h1 := HWF.out; have h2 := nbulk_occ ⟨k, fn, T, n, lo, hi, occ⟩ ks; have h3 := HBK.out; show (putOcc ⟨k, fn, T, n, lo, hi, occ⟩ a o).length ≤ maxLen; simp only at h2; unfold maxLen; omega⟩ (by rw [hl]; unfold maxLen; omega) s6
                (fun _ => ⟨gk, 0, rfl, hgk9, fun i hi j u hu => hcells i (by omega) j u hu⟩)
                (fun i q hq => by
                  rw [put_get ha] at hq
                  unfold putC
                  split at hq
                  · rename_i h1
                    rw [if_pos h1]
                    exact ((HH3.out i q hq).kept hbw9 hB).mono (Nat.le_trans hB hw9)
                  · rename_i h1
                    rw [if_neg h1]
                    split at hq
                    · rename_i h2
                      rw [if_pos h2]
                      cases hq
                      exact (HXV.out.kept hbw9 hB).mono (Nat.le_trans hB hw9)
                    · rename_i h2
                      rw [if_neg h2]
                      exact ((HH3.out (i - 1) q hq).kept hbw9 hB).mono (Nat.le_trans hB hw9))
              rw [hl] at key
              exact key
            exact KeepsRest.rest (w := w) hbw9 ((HKS.out.below hb9 hlt0).cell 0) (HKN.out.below hb9 hlt1) KM9
              (fun W hW => bind_tree (c := c) (HM.out.below (bchain hbw9 hW)) hnm hlen (HNV.out.kept (bchain hbw9 hW) hB) (Nat.le_trans hB (bchain hbw9 hW).size) HGG.out HGN.out (by have := HBK.out; omega))
              (fun W hW => by
                have h := bind_tree (c := c) (HM.out.below (bchain hbw9 hW)) hnm hlen (NV.kept hW (Nat.le_refl _)) hW.size HGG.out (put_good h9 h12 ha HO.out HGX.out HGN.out) (by have h1 := put_bulk (hd := ⟨k, fn, T, n, lo, hi, occ⟩) (x := x) (o := o) ha HOL.out; have h2 := HBK.out; omega)
                rw [put_top h9 HVX.out ha HOL.out] at h
                exact h)
end Go.Proofs.YtkcfgcdlnojaeaaGreatDoor.KeepsWalk
