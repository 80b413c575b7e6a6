/-
  The walk of bind.words over a leaf whose text leaves two tokens or more.
-/
import Derived.Test.YtkcfgcdlnojaeaaGreatDoorPhraseBase
set_option linter.unusedVariables false
set_option linter.unusedSimpArgs false
namespace Go.Proofs.YtkcfgcdlnojaeaaGreatDoor.WordsMany
set_option maxRecDepth 100000
open Go.RowKit Go.PlainAid Base Query BindBase NodeTerm NodeLeaf Binder WordPlain WordsWalk StopsWalk OfText OfAny WordsOne OpenField FieldPlain ChainPlain WordsAny PhraseBase

theorem own15 {w : World} {g : Nat} {base size m : Nat} {e : TypeId} {v : Value} {xs : List Value} {v0 v1 v2 v3 v4 v5 v6 v7 v8 v9 v10 v11 v12 v13 v14 : Value} (h : w.ownsRow base e size v m xs) (hg : g < base) : (((((((((((((((w.setCell ⟨g, 0, none⟩ v0).setCell ⟨g, 1, none⟩ v1).setCell ⟨g, 2, none⟩ v2).setCell ⟨g, 3, none⟩ v3).setCell ⟨g, 4, none⟩ v4).setCell ⟨g, 5, none⟩ v5).setCell ⟨g, 6, none⟩ v6).setCell ⟨g, 7, none⟩ v7).setCell ⟨g, 8, none⟩ v8).setCell ⟨g, 9, none⟩ v9).setCell ⟨g, 10, none⟩ v10).setCell ⟨g, 11, none⟩ v11).setCell ⟨g, 12, none⟩ v12).setCell ⟨g, 13, none⟩ v13).setCell ⟨g, 14, none⟩ v14).ownsRow base e size v m xs := by
  have hne := own_far h hg
  exact (own_setFar (own_setFar (own_setFar (own_setFar (own_setFar (own_setFar (own_setFar (own_setFar (own_setFar (own_setFar (own_setFar (own_setFar (own_setFar (own_setFar (own_setFar h (p := ⟨g, 0, none⟩) hne v0) (p := ⟨g, 1, none⟩) hne v1) (p := ⟨g, 2, none⟩) hne v2) (p := ⟨g, 3, none⟩) hne v3) (p := ⟨g, 4, none⟩) hne v4) (p := ⟨g, 5, none⟩) hne v5) (p := ⟨g, 6, none⟩) hne v6) (p := ⟨g, 7, none⟩) hne v7) (p := ⟨g, 8, none⟩) hne v8) (p := ⟨g, 9, none⟩) hne v9) (p := ⟨g, 10, none⟩) hne v10) (p := ⟨g, 11, none⟩) hne v11) (p := ⟨g, 12, none⟩) hne v12) (p := ⟨g, 13, none⟩) hne v13) (p := ⟨g, 14, none⟩) hne v14)
theorem fit_of {x : Int} (h1 : -9223372036854775808 ≤ x) (h2 : x ≤ 9223372036854775807) : fitI x := by
  show (decide (IntKind.min .i64 ≤ x) && decide (x ≤ IntKind.max .i64)) = true
  rw [decide_eq_true (show IntKind.min .i64 ≤ x from h1), decide_eq_true (show x ≤ IntKind.max .i64 from h2)]
  rfl
theorem own_fresh {W W' : World} {base size m : Nat} {e : TypeId} {v : Value} {xs : List Value} (h : W.ownsRow base e size v m xs) (he : e ≠ 29) (hk : ∀ k t cs, t ≠ 29 → Blk W k t cs → Blk W' k t cs) : W'.ownsRow base e size v m xs := by
  refine ⟨h.1, ?_⟩
  rcases h.2 with hn | ⟨g, cap, cur, rfl, hb, hgg, rest⟩
  · exact .inl hn
  · exact .inr ⟨g, cap, cur, rfl, hb, hk g e cur he hgg, rest⟩
theorem slc_mono_own {W W' : World} {base size m : Nat} {e : TypeId} {A : Option Addr} {c : Nat} {xs : List Value} (h : W.ownsRow base e size (.slice A m c) m xs) (h' : W'.ownsRow base e size (.slice A m c) m xs) : Slc W' W.heap.size A xs := fun hx => by
  obtain ⟨g, o, e, _, hc⟩ := slc_own h' hx
  obtain ⟨g2, o2, e2, hg2, _⟩ := slc_own h hx
  rw [e] at e2
  obtain ⟨rfl, rfl⟩ : g = g2 ∧ o = o2 := by simpa using e2
  exact ⟨g, o, e, hg2, hc⟩
/-- The cells of a finished phrase are the phrase. -/
theorem phrase_val {W : World} {at_ n : Int} {N : Nat} {bs : Nat} {ts : List Tok} {t0 : Tok} {r : List Tok} {A3 A4 : Option Addr} {c3 c4 : Nat} (h0 : ts = t0 :: r) (hat : fitI at_) (hn : fitI n) (hl : ts.length ≤ N + 1) (hN : N ≤ 1048576) (hz : ∀ t ∈ ts, t.text.size ≤ N + 8) (hp : ∀ t ∈ ts, 0 ≤ t.pos ∧ t.pos ≤ N + 1)
    (o1 : W.ownsRow bs 9 1 (.slice A3 ts.length c3) ts.length (strs ((texts ts).take ts.length))) (o2 : W.ownsRow bs 3 1 (.slice A4 ts.length c4) ts.length (ints ((gaps ts).take ts.length))) :
    ∀ W' : World, (∀ k t cs, t ≠ 29 → Blk W k t cs → Blk W' k t cs) → QVal W' W.heap.size (phC at_ n (.slice A3 ts.length c3) (.slice A4 ts.length c4)).toList (phraseQ at_ n ts) := by
  intro W' hW'
  have l1 : (texts ts).length = ts.length := by simp [texts]
  have l2 : (gaps ts).length = ts.length := by simp [gaps]
  rw [List.take_of_length_le (Nat.le_of_eq l1)] at o1
  rw [List.take_of_length_le (Nat.le_of_eq l2)] at o2
  have hpz := hp t0 (by rw [h0]; simp)
  have hml : maxLen = 9223372036854775807 := rfl
  have key := QVal.mk (w := W') (B := W.heap.size) ⟨5, at_, ⟨#[]⟩, texts ts, gaps ts, n, 0, bnd0, bnd0, []⟩ [] A3 A4 none none c3 c4 0 0 (fun _ => [])
    ⟨rfl, hat, hn, rfl, fun o ho => by
        obtain ⟨t, ht, rfl⟩ := List.mem_map.1 ho
        have := hp t ht
        rw [show ts.head? = some t0 by rw [h0]; rfl]
        exact fit_of (by simp only [Option.getD_some]; omega) (by simp only [Option.getD_some]; omega), (fun _ h => by cases h), Nat.zero_le _, fun t ht => by
        obtain ⟨u, hu, rfl⟩ := List.mem_map.1 ht
        have := hz u hu
        omega, by show (texts ts).length ≤ maxLen; omega, by show (gaps ts).length ≤ maxLen; omega, Nat.zero_le _⟩ (Nat.zero_le _)
    (slc_mono_own o1 (own_fresh o1 (by decide) hW')) (slc_mono_own o2 (own_fresh o2 (by decide) hW')) (Slc.nil _) (fun h => absurd rfl h) (fun _ _ h => by cases h)
  simp only [l1, l2] at key
  exact key

set_option maxHeartbeats 4000000 in
theorem words_many (kd : Int) (k n at_ : Int) (fn T nm : ByteArray) (a b c : Bool) (w : World) (hat : fitI at_) (hs : T.size ≤ 1048576) (hn : fitI n) (hk2 : kd ≠ 2) (hk3 : kd ≠ 3) (ht : Tab w) (h0 : 3 < w.heap.size) (hof : 2 ≤ (ofT kd a b c T).length) :
    Calls Tryz.prog 88 #[.agg (nodeK k fn T n), .agg #[.string nm, .int .i64 kd, .bool a, .bool b, .bool c], .int .i64 at_] w (IsQ (phraseQ at_ n (ofT kd a b c T)) true w) := by
  obtain ⟨ts, hts⟩ : ∃ ts, ts = ofT kd a b c T := ⟨_, rfl⟩
  have OA := Lib.hid (fun W (hW : Below w.heap.size w W) => of_any nm kd a b c T W (by omega) (tab_below ht hW h0) (Nat.lt_of_lt_of_le h0 hW.size))
  have hsz := fun t (ht : t ∈ ofT kd a b c T) => of_size ht
  have hln : (ofT kd a b c T).length ≤ T.size + 1 := of_len kd a b c T
  have hpos := fun t (ht : t ∈ ofT kd a b c T) => ofF_pos (f := ⟨nm, kd, a, b, c⟩) ht
  rw [← hts] at OA hof hsz hln hpos ⊢
  clear hts
  obtain ⟨q, hq⟩ : ∃ q, q = phraseQ at_ n ts := ⟨_, rfl⟩
  rw [← hq]
  have HQ := Lib.hid hq
  clear hq
  have HSZ := Lib.hid hsz
  clear hsz
  obtain ⟨W3, hW3⟩ : ∃ W, W = ((w.alloc (.cells (nodeK k fn T n) 39)).alloc (.cells #[.string nm, .int .i64 kd, .bool a, .bool b, .bool c] 67)).alloc (.cells (bareQ 0 0 ⟨#[]⟩) 29) := ⟨_, rfl⟩
  have K1 : Blk W3 w.heap.size 39 (nodeK k fn T n) := by rw [hW3]; exact ((Blk.new w _ _).alloc _).alloc _
  have K2 : Blk W3 (w.heap.size + 1) 67 #[.string nm, .int .i64 kd, .bool a, .bool b, .bool c] := by
    rw [hW3]
    have := (Blk.new (w.alloc (.cells (nodeK k fn T n) 39)) 67 #[.string nm, .int .i64 kd, .bool a, .bool b, .bool c]).alloc (.cells (bareQ 0 0 ⟨#[]⟩) 29)
    rwa [World.size_alloc] at this
  have K3 : Blk W3 (w.heap.size + 1 + 1) 29 (bareQ 0 0 ⟨#[]⟩) := by
    rw [hW3]
    have := Blk.new ((w.alloc (.cells (nodeK k fn T n) 39)).alloc (.cells #[.string nm, .int .i64 kd, .bool a, .bool b, .bool c] 67)) 29 (bareQ 0 0 ⟨#[]⟩)
    rwa [World.size_alloc, World.size_alloc] at this
  have hbW : Below w.heap.size w W3 := by rw [hW3]; (repeat (first | exact Below.refl _ _ | assumption | refine balloc ?_ _ | refine bdrew ?_ | refine bdrewN ?_ _ | refine bchain ?_ (by assumption)))
  have hsz : w.heap.size + 3 = W3.heap.size := by rw [hW3]; simp
  have HW := Lib.hid hW3
  have HZ := Lib.hid hsz
  unfold nodeK at K1 HW
  unfold bareQ at K3 HW
  clear hW3 hsz
  unfold nodeK
  go_enter Tryz.func88, Tryz.ntmps88
  go_upto_region 1 with fail
  rw [← HW.out]
  obtain ⟨z0, z1, z2, z3, z4, z5, z6, z7, z8, z9, z10, z11, z12, z13, z14⟩ := qrow (K3.below (Below.refl W3.heap.size W3) (by have := HZ.out; omega)); obtain ⟨y0, y1, y2, y3, y4, y5, y6, y7, y8, y9, y10, y11, y12, y13, y14⟩ := qfz (K3.below (Below.refl W3.heap.size W3) (by have := HZ.out; omega)); have n2 := (K1.below (Below.refl W3.heap.size W3) (by have := HZ.out; omega)).cell 2; have n3 := (K1.below (Below.refl W3.heap.size W3) (by have := HZ.out; omega)).cell 3; have f0 := (K2.below (Below.refl W3.heap.size W3) (by have := HZ.out; omega)).cell 0; have f1 := (K2.below (Below.refl W3.heap.size W3) (by have := HZ.out; omega)).cell 1; have f2 := (K2.below (Below.refl W3.heap.size W3) (by have := HZ.out; omega)).cell 2; have f3 := (K2.below (Below.refl W3.heap.size W3) (by have := HZ.out; omega)).cell 3; have f4 := (K2.below (Below.refl W3.heap.size W3) (by have := HZ.out; omega)).cell 4
  have d2 : (kd == 2) = false := beq_eq_false_iff_ne.2 hk2
  have d3 : (kd == 3) = false := beq_eq_false_iff_ne.2 hk3
  have l0 : ((ts.length : Int) == 0) = false := beq_eq_false_iff_ne.2 (by omega)
  have l1 : decide ((1 : Int) < (ts.length : Int)) = true := decide_eq_true (by omega)
  have hbt : tokCells ts ≠ [] := by
    cases ts with
    | nil => simp at hof
    | cons t r => simp [tokCells, tokC]
  go_upto_region 8 with (go_at_call 35; refine (OA.out _ hbW).mono ?_; rintro e w2 ⟨A2, c2, rfl, hown, hb2⟩; obtain ⟨z0, z1, z2, z3, z4, z5, z6, z7, z8, z9, z10, z11, z12, z13, z14⟩ := qrow (K3.below hb2 (by have := HZ.out; omega)); obtain ⟨y0, y1, y2, y3, y4, y5, y6, y7, y8, y9, y10, y11, y12, y13, y14⟩ := qfz (K3.below hb2 (by have := HZ.out; omega)); have n2 := (K1.below hb2 (by have := HZ.out; omega)).cell 2; have n3 := (K1.below hb2 (by have := HZ.out; omega)).cell 3; have f0 := (K2.below hb2 (by have := HZ.out; omega)).cell 0; have f1 := (K2.below hb2 (by have := HZ.out; omega)).cell 1; have f2 := (K2.below hb2 (by have := HZ.out; omega)).cell 2; have f3 := (K2.below hb2 (by have := HZ.out; omega)).cell 3; have f4 := (K2.below hb2 (by have := HZ.out; omega)).cell 4; obtain ⟨tg, tq, rfl, htg, htc⟩ := (slc_own hown) hbt)
  have KR := K3.below hb2 (by have := HZ.out; omega)
  have hPos := fun t (ht : t ∈ ts) => hpos t ht
  clear z0 y0 z1 y1 z2 y2 z3 y3 z4 y4 z5 y5 z6 y6 z7 y7 z8 y8 z9 y9 z10 y10 z11 y11 z12 y12 z13 y13 z14 y14 n2 n3 f0 f1 f2 f3 f4
  have hP0 := Ph.start w2 at_ n ts
  unfold phC at hP0
  have HP0 := Lib.hid hP0
  clear hP0
  obtain ⟨tz, tr, hz⟩ : ∃ t r, ts = t :: r := by
    cases ts with
    | nil => simp at hof
    | cons t r => exact ⟨t, r, rfl⟩
  have c0 : w2.cell? ⟨tg, tq + 2, none⟩ = some (.int .i64 tz.pos) := htc 2 _ (by rw [hz]; rfl)
  have HZZ := Lib.hid hz
  have hpz := hPos tz (by rw [hz]; simp)
  clear hz l0 l1 hbt d2 d3
  go_wp2_with fail
  go_loopw [36] (fun i wr => ∃ (k : Nat) (v1 v2 : Value), k ≤ ts.length ∧ i = .int .i64 k ∧ Ph w2 wr at_ n ts k v1 v2) (fun i _ => ts.length - (intOf i).toNat)
  case atStart => exact ⟨0, _, _, Nat.zero_le _, rfl, HP0.out⟩
  case round =>
    obtain ⟨k, v1, v2, hk, rfl, hP⟩ := hrel
    obtain ⟨A3, c3, rfl⟩ := own_slice hP.own1
    obtain ⟨A4, c4, rfl⟩ := own_slice hP.own2
    rcases Nat.lt_or_ge k ts.length with hlt | hge
    · obtain ⟨t, ht⟩ : ∃ t, ts[k]? = some t := ⟨_, List.getElem?_eq_getElem hlt⟩
      have hpt := hPos t (List.mem_of_getElem? ht)
      obtain ⟨x0, x1, x2, x3, x4⟩ := tok_five (w := wr) (B := 0) (fun j u hu => (hP.bel.cell (p := ⟨tg, tq + j, none⟩) htg).trans (htc j u hu)) ht
      obtain ⟨wt, hwt⟩ : ∃ W, W = wr.alloc (.cells (tokRow t) 115) := ⟨_, rfl⟩
      have hPt : Ph w2 wt at_ n ts k (.slice A3 k c3) (.slice A4 k c4) := by rw [hwt]; exact hP.alloc _
      have hT0 : Blk wt wr.heap.size 115 (tokRow t) := by rw [hwt]; exact Blk.new wr _ _
      have i2 : (k : Int) < (ts.length : Int) := by omega
      have i3 : (k : Int) < 9223372036854775807 := by omega
      have hne : (Value.slice A3 k c3).ownBlock ≠ some wr.heap.size := fun e => Nat.lt_irrefl _ (hP.own1.lt _ e).2
      have hsP := hP.lt
      have hsT := hPt.lt
      have hB := hPt.blk
      unfold phC at hB
      unfold tokRow at hwt hT0
      have HWT := Lib.hid hwt
      clear hwt
      have hkl : k ≤ 1048577 := by omega
      go_upto_region 11 with fail
      rw [← HWT.out]
      obtain ⟨z0, z1, z2, z3, z4, z5, z6, z7, z8, z9, z10, z11, z12, z13, z14⟩ := qrow hB
      obtain ⟨y0, y1, y2, y3, y4, y5, y6, y7, y8, y9, y10, y11, y12, y13, y14⟩ := qfz hB
      have tt := hT0.cell 0
      go_upto_region 12 with ((at_builtin; refine wpList_append1 (base := w2.heap.size + 1) rfl _ _ rfl strEl hPt.own1 rfl rfl rfl rfl (by omega) (by unfold maxLen; omega) hsT ?_; intro v1' w5 ho1 hg1 hq5; obtain ⟨b5, s5, K5, o51, o52⟩ := hPt.text ht ho1 hg1; have T5 := hT0.grown hg1 (fun e => hne e.symm); obtain ⟨A5, c5, rfl⟩ := own_slice o51; have y3 : w5.frozen? ⟨w2.heap.size, 3, none⟩ = false := K5.frozen 3; have z3 : w5.cell? ⟨w2.heap.size, 3, none⟩ = some (.slice A3 k c3) := K5.cell 3; have HK5 := Lib.hid K5; have HT5 := Lib.hid T5; clear ho1 hg1 hq5 K5 T5))
      obtain ⟨W6, hW6⟩ : ∃ W, W = w5.setCell ⟨w2.heap.size, 3, none⟩ (.slice A5 (k + 1) c5) := ⟨_, rfl⟩
      rw [← hW6]
      clear z0 z1 z2 z3 z4 z5 z6 z7 z8 z9 z10 z11 z12 z13 z14 y0 y1 y2 y3 y4 y5 y6 y7 y8 y9 y10 y11 y12 y13 y14
      have M6 := Mid.of hW6 b5 s5 HK5.out o51 o52
      have T6 : Blk W6 wr.heap.size 115 (tokRow t) := by rw [hW6]; exact HT5.out.far (p := ⟨w2.heap.size, 3, none⟩) (by show wr.heap.size ≠ w2.heap.size; omega) _
      have z4 : W6.cell? ⟨w2.heap.size, 4, none⟩ = some (.slice A4 k c4) := M6.blk.cell 4
      have y4 : W6.frozen? ⟨w2.heap.size, 4, none⟩ = false := M6.blk.frozen 4
      have z4a : (W6.alloc (.cells #[.int .i64 (t.pos - tz.pos)] 3)).cell? ⟨w2.heap.size, 4, none⟩ = some (.slice A4 k c4) := (M6.alloc _).blk.cell 4
      have q2 : W6.cell? ⟨wr.heap.size, 2, none⟩ = some (.int .i64 t.pos) := T6.cell 2
      have q0 : W6.cell? ⟨tg, tq + 2, none⟩ = some (.int .i64 tz.pos) := (M6.bel.cell (p := ⟨tg, tq + 2, none⟩) htg).trans c0
      have iw : IntKind.i64.wrap (t.pos - tz.pos) = t.pos - tz.pos := IntWalk.i64_in _ (by omega)
      have lp : 0 < ts.length := by omega
      have hnew : ∀ o, (W6.alloc o).drew.heap[W6.heap.size]? = some o := fun o => heap_alloc_new W6 o
      have s6 := M6.lt
      have o62 := M6.own2
      obtain ⟨ie1, ⟨ii, ie2, ie3, ie4, ie5⟩, ie6, ie7⟩ := intEl
      have HM := Lib.hid M6
      have HHT := Lib.hid ht
      clear tt b5 s5 o51 o52 HK5 HT5 hB hP hPt hT0 hsP hsT M6 T6 hW6 HWT ht hne x0 x1 x2 x3 x4
      go_region_law ((refine step_append_kept (by rfl) _ _ _ (by rfl) (w2.heap.size + 1) 3 ii _ 1 8 ie1 ie2 ie3 ie4 ie5 ie6 ie7 (.slice A4 k c4) k _ (by rfl) ((o62.alloc _).drew) ⟨W6.heap.size, 0, none⟩ 1 1 [.int .i64 (t.pos - tz.pos)] (by rfl) (by rfl) (World.news_of_block (cs := #[.int .i64 (t.pos - tz.pos)]) (t := 3) (fr := (0, 0)) (hnew _)) (by simp [Value.oneCell']) (by omega) (by unfold maxLen; omega) (by omega) (by simp only [World.size_drew, World.size_alloc]; omega) ?_; intro gg cap w7 hown7 hat; obtain ⟨b7, s7, K7, o71, o72⟩ := (HM.out.alloc _).drew.grow HHT.out HZZ.out hown7 hat; have z4 : w7.cell? ⟨w2.heap.size, 4, none⟩ = some (.slice A4 k c4) := K7.cell 4; have y4 : w7.frozen? ⟨w2.heap.size, 4, none⟩ = false := K7.frozen 4))
      all_goals
        have hN := Ph.of b7 s7 K7 o71 o72
        go_wp2_with fail
        go_roundw
        case rel => exact ⟨k + 1, _, _, by omega, by go_num, hN⟩
        case measure => simp [intOf]; omega
    · obtain rfl : k = ts.length := by omega
      have hg2 : w.heap.size + 1 + 1 < w2.heap.size := by have := HZ.out; have := hb2.size; omega
      have KW := KR.below hP.bel hg2
      have hB := hP.blk
      unfold phC at hB
      obtain ⟨x0, x1, x2, x3, x4, x5, x6, x7, x8, x9, x10, x11, x12, x13, x14⟩ := qrow hB
      obtain ⟨z0, z1, z2, z3, z4, z5, z6, z7, z8, z9, z10, z11, z12, z13, z14⟩ := qrow KW
      obtain ⟨y0, y1, y2, y3, y4, y5, y6, y7, y8, y9, y10, y11, y12, y13, y14⟩ := qfz KW
      have o1 := own15 (g := w.heap.size + 1 + 1) (v0 := .int .i64 5) (v1 := .int .i64 at_) (v2 := .string ⟨#[]⟩) (v3 := .slice A3 ts.length c3) (v4 := .slice A4 ts.length c4) (v5 := .int .i64 n) (v6 := .int .u64 0) (v7 := .bool false) (v8 := .bool false) (v9 := .string ⟨#[]⟩) (v10 := .bool false) (v11 := .bool false) (v12 := .string ⟨#[]⟩) (v13 := .slice none 0 0) (v14 := .slice none 0 0) hP.own1 (by omega)
      have o2 := own15 (g := w.heap.size + 1 + 1) (v0 := .int .i64 5) (v1 := .int .i64 at_) (v2 := .string ⟨#[]⟩) (v3 := .slice A3 ts.length c3) (v4 := .slice A4 ts.length c4) (v5 := .int .i64 n) (v6 := .int .u64 0) (v7 := .bool false) (v8 := .bool false) (v9 := .string ⟨#[]⟩) (v10 := .bool false) (v11 := .bool false) (v12 := .string ⟨#[]⟩) (v13 := .slice none 0 0) (v14 := .slice none 0 0) hP.own2 (by omega)
      have hbl := below15 (g := w.heap.size + 1 + 1) (B := w.heap.size) (v0 := .int .i64 5) (v1 := .int .i64 at_) (v2 := .string ⟨#[]⟩) (v3 := .slice A3 ts.length c3) (v4 := .slice A4 ts.length c4) (v5 := .int .i64 n) (v6 := .int .u64 0) (v7 := .bool false) (v8 := .bool false) (v9 := .string ⟨#[]⟩) (v10 := .bool false) (v11 := .bool false) (v12 := .string ⟨#[]⟩) (v13 := .slice none 0 0) (v14 := .slice none 0 0) (bchain hbW (bchain hb2 ((hP.bel).mono (Nat.le_refl _)))) (Nat.le_succ_of_le (Nat.le_succ _))
      have hlast := phrase_val (t0 := tz) HZZ.out hat hn hln hs (fun t ht => HSZ.out t ht) hPos o1 o2
      clear hpz c0
      go_wp2_with fail
      refine bodyPost_ret (results_blk (p := 6) (u := 7) (ty := 29) (t := 29) (g := w.heap.size + 1 + 1) (cs := phC at_ n (.slice A3 ts.length c3) (.slice A4 ts.length c4)) ?_ ?_ (blk15 KW) Tryz.underlying29 ?_ ?_) ?_ ?_
      · rfl
      · rfl
      · rfl
      · rw [qInfo]; rfl
      · rfl
      · rw [HQ.out]
        exact ⟨(phC at_ n (.slice A3 ts.length c3) (.slice A4 ts.length c4)).toList, rfl, hlast, hbl⟩
end Go.Proofs.YtkcfgcdlnojaeaaGreatDoor.WordsMany
