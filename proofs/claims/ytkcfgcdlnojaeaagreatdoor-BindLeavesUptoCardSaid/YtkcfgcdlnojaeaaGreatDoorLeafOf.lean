/-
  The walk of the law's leafOf over any field and text.
-/
import Derived.Test.YtkcfgcdlnojaeaaGreatDoorLeafBase
set_option linter.unusedVariables false
set_option linter.unusedSimpArgs false
namespace Go.Proofs.YtkcfgcdlnojaeaaGreatDoor.LeafOf
set_option maxRecDepth 100000
open Go.RowKit Go.PlainAid Base Query BindBase NodeTerm NodeLeaf Binder WordPlain WordsWalk StopsWalk OfText OfAny WordsOne NumPlain NumWalk NumTerm OpenField FieldPlain ChainPlain WordsAny PhraseBase WordsMany LeafBase

theorem results_blk1 {P : Program} {fn : Func} {p : Tmp} {ty t : TypeId} (h : fn.results = #[.cell p ty]) {tmps : Array Value} {w : World} {g : Nat} {cs : Array Value} {d : TypeDesc} (hp : tmps.getD p undef = .pointer (some ⟨g, 0, none⟩)) (hb : Blk w g t cs)
    (hu : P.underlying ty = some d) (hd : (match d with | .struct _ | .array _ _ => true | _ => false) = true) (hi : (P.info? ty).map (·.size) = some cs.size) :
    (results fn tmps).run P w = .ok (.agg cs) w :=
  results_cell h hp (run_loadVar_row (P := P) w g t ty cs (0, 0) d hb hu hd hi)
/-- A query handed back. -/
def IsA (q : Qry) (w : World) (e : Ending) (w' : World) : Prop := ∃ cs : List Value, e = .returned (.agg cs.toArray) ∧ Fresh w' cs q ∧ Below w.heap.size w w'
theorem isA_bare {w w' : World} {k f : Int} {t : ByteArray} {e : Ending} (hk : fitI k) (hf : fitI f) (ht : t.size ≤ maxLen) (he : e = .returned (.agg (bareQ k f t))) (hb : Below w.heap.size w w') : IsA (.mk (bareH k f t) []) w e w' :=
  ⟨(bareQ k f t).toList, by rw [he], fun w'' _ => bare_val w'' _ k f t hk hf ht, hb⟩

set_option maxHeartbeats 2000000 in
theorem leaf_key (at_ n : Int) (T nm : ByteArray) (a b c : Bool) (w : World) (hat : fitI at_) (hs : T.size ≤ 1048576) :
    Calls Tryz.prog 34 #[.agg #[.string nm, .int .i64 2, .bool a, .bool b, .bool c], .int .i64 at_, .string T, .int .i64 n] w (IsA (if T.size = 0 ∨ 64 < T.size then noneQ else termQ at_ T) w) := by
  obtain ⟨q, hq⟩ : ∃ q, q = (if T.size = 0 ∨ 64 < T.size then noneQ else termQ at_ T) := ⟨_, rfl⟩
  rw [← hq]
  have HQ := Lib.hid hq
  clear hq
  obtain ⟨W3, hW3⟩ : ∃ W, W = ((w.alloc (.cells #[.string nm, .int .i64 2, .bool a, .bool b, .bool c] 67)).alloc (.cells (bareQ 0 0 ⟨#[]⟩) 29)).alloc (.cells (bareQ 1 0 ⟨#[]⟩) 29) := ⟨_, rfl⟩
  have K1 : Blk W3 w.heap.size 67 #[.string nm, .int .i64 2, .bool a, .bool b, .bool c] := by rw [hW3]; exact ((Blk.new w _ _).alloc _).alloc _
  have K3 : Blk W3 (w.heap.size + 1) 29 (bareQ 0 0 ⟨#[]⟩) := by
    rw [hW3]
    have := (Blk.new (w.alloc (.cells #[.string nm, .int .i64 2, .bool a, .bool b, .bool c] 67)) 29 (bareQ 0 0 ⟨#[]⟩)).alloc (.cells (bareQ 1 0 ⟨#[]⟩) 29)
    rwa [World.size_alloc] at this
  have K4 : Blk W3 (w.heap.size + 1 + 1) 29 (bareQ 1 0 ⟨#[]⟩) := by
    rw [hW3]
    have := Blk.new ((w.alloc (.cells #[.string nm, .int .i64 2, .bool a, .bool b, .bool c] 67)).alloc (.cells (bareQ 0 0 ⟨#[]⟩) 29)) 29 (bareQ 1 0 ⟨#[]⟩)
    rwa [World.size_alloc, World.size_alloc] at this
  have hbW : Below w.heap.size w W3 := by rw [hW3]; (repeat (first | exact Below.refl _ _ | assumption | refine balloc ?_ _ | refine bdrew ?_ | refine bdrewN ?_ _ | refine bchain ?_ (by assumption)))
  have hsz : w.heap.size + 3 = W3.heap.size := by rw [hW3]; simp
  have HW := Lib.hid hW3
  have HZ := Lib.hid hsz
  unfold bareQ at K3 K4 HW
  clear hW3 hsz
  go_enter Tryz.func34, Tryz.ntmps34
  go_upto_region 2 with fail
  rw [← HW.out]
  obtain ⟨z0, z1, z2, z3, z4, z5, z6, z7, z8, z9, z10, z11, z12, z13, z14⟩ := qrow (K3.below (Below.refl W3.heap.size W3) (by have := HZ.out; omega)); obtain ⟨y0, y1, y2, y3, y4, y5, y6, y7, y8, y9, y10, y11, y12, y13, y14⟩ := qfz (K3.below (Below.refl W3.heap.size W3) (by have := HZ.out; omega)); obtain ⟨x0, x1, x2, x3, x4, x5, x6, x7, x8, x9, x10, x11, x12, x13, x14⟩ := qrow (K4.below (Below.refl W3.heap.size W3) (by have := HZ.out; omega)); have f0 := (K1.below (Below.refl W3.heap.size W3) (by have := HZ.out; omega)).cell 0; have f1 := (K1.below (Below.refl W3.heap.size W3) (by have := HZ.out; omega)).cell 1; have f2 := (K1.below (Below.refl W3.heap.size W3) (by have := HZ.out; omega)).cell 2; have f3 := (K1.below (Below.refl W3.heap.size W3) (by have := HZ.out; omega)).cell 3; have f4 := (K1.below (Below.refl W3.heap.size W3) (by have := HZ.out; omega)).cell 4
  rcases (by omega : T.size = 0 ∨ (T.size ≠ 0 ∧ 64 < T.size) ∨ (T.size ≠ 0 ∧ T.size ≤ 64)) with h0 | ⟨h0, h64⟩ | ⟨h0, h64⟩
  · have HQ2 := Lib.hid (HQ.out.trans (if_pos (Or.inl h0)))
    have e0 : T.toList.isEmpty = true := by rw [WordsAny.tl_empty]; exact beq_iff_eq.2 h0
    clear h0
    go_wp2_with fail
    refine bodyPost_ret (results_blk1 (p := 8) (ty := 29) (t := 29) (g := w.heap.size + 1) (cs := bareQ 1 0 ⟨#[]⟩) ?_ ?_ (blk15 K3) Tryz.underlying29 ?_ ?_) ?_ ?_
    · rfl
    · rfl
    · rfl
    · rw [qInfo]; rfl
    · rfl
    · rw [HQ2.out]
      exact isA_bare (k := 1) (f := 0) (t := ⟨#[]⟩) rfl rfl (Nat.zero_le _) rfl (below15 hbW (Nat.le_succ _))
  · have HQ2 := Lib.hid (HQ.out.trans (if_pos (Or.inr h64)))
    have e0 : T.toList.isEmpty = false := by rw [WordsAny.tl_empty]; exact beq_eq_false_iff_ne.2 h0
    have e1 : decide ((64 : Int) < (T.size : Int)) = true := decide_eq_true (by omega)
    clear h0 h64
    go_wp2_with fail
    refine bodyPost_ret (results_blk1 (p := 8) (ty := 29) (t := 29) (g := w.heap.size + 1) (cs := bareQ 1 0 ⟨#[]⟩) ?_ ?_ (blk15 K3) Tryz.underlying29 ?_ ?_) ?_ ?_
    · rfl
    · rfl
    · rfl
    · rw [qInfo]; rfl
    · rfl
    · rw [HQ2.out]
      exact isA_bare (k := 1) (f := 0) (t := ⟨#[]⟩) rfl rfl (Nat.zero_le _) rfl (below15 hbW (Nat.le_succ _))
  · have HQ2 := Lib.hid (HQ.out.trans (if_neg (by omega)))
    have e0 : T.toList.isEmpty = false := by rw [WordsAny.tl_empty]; exact beq_eq_false_iff_ne.2 h0
    have e1 : decide ((64 : Int) < (T.size : Int)) = false := decide_eq_false (by omega)
    clear h0 h64
    go_wp2_with fail
    refine bodyPost_ret (results_blk1 (p := 8) (ty := 29) (t := 29) (g := w.heap.size + 1) (cs := bareQ 4 at_ T) ?_ ?_ (blk15 K3) Tryz.underlying29 ?_ ?_) ?_ ?_
    · rfl
    · rfl
    · rfl
    · rw [qInfo]; rfl
    · rfl
    · rw [HQ2.out]
      exact isA_bare (k := 4) (f := at_) (t := T) rfl hat (by unfold maxLen; omega) rfl (below15 hbW (Nat.le_succ _))

set_option maxHeartbeats 2000000 in
theorem leaf_num (at_ n : Int) (T nm : ByteArray) (a b c : Bool) (w : World) (hat : fitI at_) (hs : T.size ≤ 1048576) :
    Calls Tryz.prog 34 #[.agg #[.string nm, .int .i64 3, .bool a, .bool b, .bool c], .int .i64 at_, .string T, .int .i64 n] w (IsA (match parseN T with | none => noneQ | some v => termQ at_ (termN v)) w) := by
  have PN := Lib.hid (fun W => NumWalk.parse_any T W (by omega))
  have hr : ∀ v, parseN T = some v → least ≤ v ∧ v ≤ 9223372036854775807 := fun v h => parse_bd h
  obtain ⟨p, hp⟩ : ∃ p, p = parseN T := ⟨_, rfl⟩
  rw [← hp] at PN hr ⊢
  clear hp
  obtain ⟨q, hq⟩ : ∃ q, q = (match p with | none => noneQ | some v => termQ at_ (termN v)) := ⟨_, rfl⟩
  rw [← hq]
  have HQ := Lib.hid hq
  clear hq
  obtain ⟨W3, hW3⟩ : ∃ W, W = ((w.alloc (.cells #[.string nm, .int .i64 3, .bool a, .bool b, .bool c] 67)).alloc (.cells (bareQ 0 0 ⟨#[]⟩) 29)).alloc (.cells (bareQ 1 0 ⟨#[]⟩) 29) := ⟨_, rfl⟩
  have K1 : Blk W3 w.heap.size 67 #[.string nm, .int .i64 3, .bool a, .bool b, .bool c] := by rw [hW3]; exact ((Blk.new w _ _).alloc _).alloc _
  have K3 : Blk W3 (w.heap.size + 1) 29 (bareQ 0 0 ⟨#[]⟩) := by
    rw [hW3]
    have := (Blk.new (w.alloc (.cells #[.string nm, .int .i64 3, .bool a, .bool b, .bool c] 67)) 29 (bareQ 0 0 ⟨#[]⟩)).alloc (.cells (bareQ 1 0 ⟨#[]⟩) 29)
    rwa [World.size_alloc] at this
  have K4 : Blk W3 (w.heap.size + 1 + 1) 29 (bareQ 1 0 ⟨#[]⟩) := by
    rw [hW3]
    have := Blk.new ((w.alloc (.cells #[.string nm, .int .i64 3, .bool a, .bool b, .bool c] 67)).alloc (.cells (bareQ 0 0 ⟨#[]⟩) 29)) 29 (bareQ 1 0 ⟨#[]⟩)
    rwa [World.size_alloc, World.size_alloc] at this
  have hbW : Below w.heap.size w W3 := by rw [hW3]; (repeat (first | exact Below.refl _ _ | assumption | refine balloc ?_ _ | refine bdrew ?_ | refine bdrewN ?_ _ | refine bchain ?_ (by assumption)))
  have hsz : w.heap.size + 3 = W3.heap.size := by rw [hW3]; simp
  have HW := Lib.hid hW3
  have HZ := Lib.hid hsz
  unfold bareQ at K3 K4 HW
  clear hW3 hsz
  go_enter Tryz.func34, Tryz.ntmps34
  go_upto_region 2 with fail
  rw [← HW.out]
  obtain ⟨z0, z1, z2, z3, z4, z5, z6, z7, z8, z9, z10, z11, z12, z13, z14⟩ := qrow (K3.below (Below.refl W3.heap.size W3) (by have := HZ.out; omega)); obtain ⟨y0, y1, y2, y3, y4, y5, y6, y7, y8, y9, y10, y11, y12, y13, y14⟩ := qfz (K3.below (Below.refl W3.heap.size W3) (by have := HZ.out; omega)); obtain ⟨x0, x1, x2, x3, x4, x5, x6, x7, x8, x9, x10, x11, x12, x13, x14⟩ := qrow (K4.below (Below.refl W3.heap.size W3) (by have := HZ.out; omega)); have f0 := (K1.below (Below.refl W3.heap.size W3) (by have := HZ.out; omega)).cell 0; have f1 := (K1.below (Below.refl W3.heap.size W3) (by have := HZ.out; omega)).cell 1; have f2 := (K1.below (Below.refl W3.heap.size W3) (by have := HZ.out; omega)).cell 2; have f3 := (K1.below (Below.refl W3.heap.size W3) (by have := HZ.out; omega)).cell 3; have f4 := (K1.below (Below.refl W3.heap.size W3) (by have := HZ.out; omega)).cell 4
  cases p with
  | none =>
    have HQ2 := Lib.hid (HQ.out : q = noneQ)
    simp only [numV, Option.getD_none, Option.isSome_none] at PN
    go_wp2_with (go_at_call 39; refine (PN.out _).mono ?_; rintro e wp ⟨rfl, hwp⟩; obtain rfl : W3 = wp := hwp.symm)
    refine bodyPost_ret (results_blk1 (p := 8) (ty := 29) (t := 29) (g := w.heap.size + 1) (cs := bareQ 1 0 ⟨#[]⟩) ?_ ?_ (blk15 K3) Tryz.underlying29 ?_ ?_) ?_ ?_
    · rfl
    · rfl
    · rfl
    · rw [qInfo]; rfl
    · rfl
    · rw [HQ2.out]
      exact isA_bare (k := 1) (f := 0) (t := ⟨#[]⟩) rfl rfl (Nat.zero_le _) rfl (below15 hbW (Nat.le_succ _))
  | some v =>
    obtain ⟨v1, v2⟩ := hr v rfl
    have HQ2 := Lib.hid (HQ.out : q = termQ at_ (termN v))
    simp only [numV, Option.getD_some, Option.isSome_some] at PN
    go_wp2_with (first | (go_at_call 39; refine (PN.out _).mono ?_; rintro e wp ⟨rfl, hwp⟩; obtain rfl : W3 = wp := hwp.symm) | (go_at_call 40; refine (NumTerm.term_any v _ v1 v2).mono ?_; rintro e w2 ⟨rfl, hb2⟩; obtain ⟨z0, z1, z2, z3, z4, z5, z6, z7, z8, z9, z10, z11, z12, z13, z14⟩ := qrow (K3.below hb2 (by have := HZ.out; omega)); obtain ⟨y0, y1, y2, y3, y4, y5, y6, y7, y8, y9, y10, y11, y12, y13, y14⟩ := qfz (K3.below hb2 (by have := HZ.out; omega)); obtain ⟨x0, x1, x2, x3, x4, x5, x6, x7, x8, x9, x10, x11, x12, x13, x14⟩ := qrow (K4.below hb2 (by have := HZ.out; omega)); have f0 := (K1.below hb2 (by have := HZ.out; omega)).cell 0; have f1 := (K1.below hb2 (by have := HZ.out; omega)).cell 1; have f2 := (K1.below hb2 (by have := HZ.out; omega)).cell 2; have f3 := (K1.below hb2 (by have := HZ.out; omega)).cell 3; have f4 := (K1.below hb2 (by have := HZ.out; omega)).cell 4))
    refine bodyPost_ret (results_blk1 (p := 8) (ty := 29) (t := 29) (g := w.heap.size + 1) (cs := bareQ 4 at_ (termN v)) ?_ ?_ (blk15 (K3.below hb2 (by have := HZ.out; omega))) Tryz.underlying29 ?_ ?_) ?_ ?_
    · rfl
    · rfl
    · rfl
    · rw [qInfo]; rfl
    · rfl
    · rw [HQ2.out]
      exact isA_bare (k := 4) (f := at_) (t := (termN v)) rfl hat (term_fit v) rfl (below15 (bchain hbW hb2) (Nat.le_succ _))

set_option maxHeartbeats 4000000 in
theorem leaf_toks (kd : Int) (at_ n : Int) (T nm : ByteArray) (a b c : Bool) (w : World) (hat : fitI at_) (hs : T.size ≤ 1048576) (hn : fitI n) (hk2 : kd ≠ 2) (hk3 : kd ≠ 3) (ht : Tab w) (h0 : 3 < w.heap.size) :
    Calls Tryz.prog 34 #[.agg #[.string nm, .int .i64 kd, .bool a, .bool b, .bool c], .int .i64 at_, .string T, .int .i64 n] w (IsA (match ofT kd a b c T with | [] => noneQ | [t] => termQ at_ t.text | t :: u :: r => phraseQ at_ n (t :: u :: r)) w) := by
  obtain ⟨ts, hts⟩ : ∃ ts, ts = ofT kd a b c T := ⟨_, rfl⟩
  have OA := Lib.hid (fun W (hW : Below w.heap.size w W) => of_any nm kd a b c T W (by omega) (tab_below ht hW h0) (Nat.lt_of_lt_of_le h0 hW.size))
  have hsz := fun t (ht : t ∈ ofT kd a b c T) => of_size ht
  have hln : (ofT kd a b c T).length ≤ T.size + 1 := of_len kd a b c T
  have hpos := fun t (ht : t ∈ ofT kd a b c T) => ofF_pos (f := ⟨nm, kd, a, b, c⟩) ht
  rw [← hts] at OA hsz hln hpos ⊢
  clear hts
  obtain ⟨q, hq⟩ : ∃ q, q = (match ts with | [] => noneQ | [t] => termQ at_ t.text | t :: u :: r => phraseQ at_ n (t :: u :: r)) := ⟨_, rfl⟩
  rw [← hq]
  have HQ := Lib.hid hq
  clear hq
  have HSZ := Lib.hid hsz
  clear hsz
  obtain ⟨W3, hW3⟩ : ∃ W, W = ((w.alloc (.cells #[.string nm, .int .i64 kd, .bool a, .bool b, .bool c] 67)).alloc (.cells (bareQ 0 0 ⟨#[]⟩) 29)).alloc (.cells (bareQ 1 0 ⟨#[]⟩) 29) := ⟨_, rfl⟩
  have K1 : Blk W3 w.heap.size 67 #[.string nm, .int .i64 kd, .bool a, .bool b, .bool c] := by rw [hW3]; exact ((Blk.new w _ _).alloc _).alloc _
  have K3 : Blk W3 (w.heap.size + 1) 29 (bareQ 0 0 ⟨#[]⟩) := by
    rw [hW3]
    have := (Blk.new (w.alloc (.cells #[.string nm, .int .i64 kd, .bool a, .bool b, .bool c] 67)) 29 (bareQ 0 0 ⟨#[]⟩)).alloc (.cells (bareQ 1 0 ⟨#[]⟩) 29)
    rwa [World.size_alloc] at this
  have K4 : Blk W3 (w.heap.size + 1 + 1) 29 (bareQ 1 0 ⟨#[]⟩) := by
    rw [hW3]
    have := Blk.new ((w.alloc (.cells #[.string nm, .int .i64 kd, .bool a, .bool b, .bool c] 67)).alloc (.cells (bareQ 0 0 ⟨#[]⟩) 29)) 29 (bareQ 1 0 ⟨#[]⟩)
    rwa [World.size_alloc, World.size_alloc] at this
  have hbW : Below w.heap.size w W3 := by rw [hW3]; (repeat (first | exact Below.refl _ _ | assumption | refine balloc ?_ _ | refine bdrew ?_ | refine bdrewN ?_ _ | refine bchain ?_ (by assumption)))
  have hsz : w.heap.size + 3 = W3.heap.size := by rw [hW3]; simp
  have HW := Lib.hid hW3
  have HZ := Lib.hid hsz
  unfold bareQ at K3 K4 HW
  clear hW3 hsz
  go_enter Tryz.func34, Tryz.ntmps34
  go_upto_region 2 with fail
  rw [← HW.out]
  obtain ⟨z0, z1, z2, z3, z4, z5, z6, z7, z8, z9, z10, z11, z12, z13, z14⟩ := qrow (K3.below (Below.refl W3.heap.size W3) (by have := HZ.out; omega)); obtain ⟨y0, y1, y2, y3, y4, y5, y6, y7, y8, y9, y10, y11, y12, y13, y14⟩ := qfz (K3.below (Below.refl W3.heap.size W3) (by have := HZ.out; omega)); obtain ⟨x0, x1, x2, x3, x4, x5, x6, x7, x8, x9, x10, x11, x12, x13, x14⟩ := qrow (K4.below (Below.refl W3.heap.size W3) (by have := HZ.out; omega)); have f0 := (K1.below (Below.refl W3.heap.size W3) (by have := HZ.out; omega)).cell 0; have f1 := (K1.below (Below.refl W3.heap.size W3) (by have := HZ.out; omega)).cell 1; have f2 := (K1.below (Below.refl W3.heap.size W3) (by have := HZ.out; omega)).cell 2; have f3 := (K1.below (Below.refl W3.heap.size W3) (by have := HZ.out; omega)).cell 3; have f4 := (K1.below (Below.refl W3.heap.size W3) (by have := HZ.out; omega)).cell 4
  have d2 : (kd == 2) = false := beq_eq_false_iff_ne.2 hk2
  have d3 : (kd == 3) = false := beq_eq_false_iff_ne.2 hk3
  go_upto_region 14 with (go_at_call 35; refine (OA.out _ hbW).mono ?_; rintro e w2 ⟨A2, c2, rfl, hown, hb2⟩; obtain ⟨z0, z1, z2, z3, z4, z5, z6, z7, z8, z9, z10, z11, z12, z13, z14⟩ := qrow (K3.below hb2 (by have := HZ.out; omega)); obtain ⟨y0, y1, y2, y3, y4, y5, y6, y7, y8, y9, y10, y11, y12, y13, y14⟩ := qfz (K3.below hb2 (by have := HZ.out; omega)); obtain ⟨x0, x1, x2, x3, x4, x5, x6, x7, x8, x9, x10, x11, x12, x13, x14⟩ := qrow (K4.below hb2 (by have := HZ.out; omega)); have f0 := (K1.below hb2 (by have := HZ.out; omega)).cell 0; have f1 := (K1.below hb2 (by have := HZ.out; omega)).cell 1; have f2 := (K1.below hb2 (by have := HZ.out; omega)).cell 2; have f3 := (K1.below hb2 (by have := HZ.out; omega)).cell 3; have f4 := (K1.below hb2 (by have := HZ.out; omega)).cell 4)
  have KR := K3.below hb2 (by have := HZ.out; omega)
  have KO := K4.below hb2 (by have := HZ.out; omega)
  clear z0 y0 x0 z1 y1 x1 z2 y2 x2 z3 y3 x3 z4 y4 x4 z5 y5 x5 z6 y6 x6 z7 y7 x7 z8 y8 x8 z9 y9 x9 z10 y10 x10 z11 y11 x11 z12 y12 x12 z13 y13 x13 z14 y14 x14 f0 f1 f2 f3 f4
  have hP0 := Ph.start w2 at_ n ts
  unfold phC at hP0
  have HP0 := Lib.hid hP0
  clear hP0
  have hslc := slc_own hown
  have htl : ∀ t, ts.head? = some t → ∃ tg tq, A2 = some ⟨tg, tq, none⟩ ∧ tg < w2.heap.size ∧ ∀ j u, (tokCells ts)[j]? = some u → w2.cell? ⟨tg, tq + j, none⟩ = some u := fun t e => hslc (by
    cases ts with
    | nil => cases e
    | cons t r => simp [tokCells, tokC])
  clear hslc d2 d3
  go_wp2_with fail
  go_loopw [54] (fun i wr => ∃ (k : Nat) (v1 v2 : Value), k ≤ ts.length ∧ i = .int .i64 k ∧ Ph w2 wr at_ n ts k v1 v2) (fun i _ => ts.length - (intOf i).toNat)
  case atStart => exact ⟨0, _, _, Nat.zero_le _, rfl, HP0.out⟩
  case round =>
    obtain ⟨k, v1, v2, hk, rfl, hP⟩ := hrel
    obtain ⟨A3, c3, rfl⟩ := own_slice hP.own1
    obtain ⟨A4, c4, rfl⟩ := own_slice hP.own2
    rcases Nat.lt_or_ge k ts.length with hlt | hge
    · obtain ⟨tz, tr, hz⟩ : ∃ t r, ts = t :: r := by
        cases ts with
        | nil => simp at hlt
        | cons t r => exact ⟨t, r, rfl⟩
      obtain ⟨tg, tq, rfl, htg, htc⟩ := htl tz (by rw [hz]; rfl)
      have c0 : w2.cell? ⟨tg, tq + 2, none⟩ = some (.int .i64 tz.pos) := htc 2 _ (by rw [hz]; rfl)
      have HZZ := Lib.hid hz
      have hpz := hpos tz (by rw [hz]; simp)
      clear hz htl
      obtain ⟨t, ht⟩ : ∃ t, ts[k]? = some t := ⟨_, List.getElem?_eq_getElem hlt⟩
      have hpt := hpos t (List.mem_of_getElem? ht)
      obtain ⟨x0, x1, x2, x3, x4⟩ := tok_five (w := wr) (B := 0) (fun j u hu => (hP.bel.cell (p := ⟨tg, tq + j, none⟩) htg).trans (htc j u hu)) ht
      obtain ⟨wt, hwt⟩ : ∃ W, W = wr.alloc (.cells (tokRow t) 115) := ⟨_, rfl⟩
      have hPt : Ph w2 wt at_ n ts k (.slice A3 k c3) (.slice A4 k c4) := by rw [hwt]; exact hP.alloc _
      have hT0 : Blk wt wr.heap.size 115 (tokRow t) := by rw [hwt]; exact Blk.new wr _ _
      have i2 : (k : Int) < (ts.length : Int) := by omega
      have i3 : (k : Int) < 9223372036854775807 := by omega
      have hne : (Value.slice A3 k c3).ownBlock ≠ some wr.heap.size := fun e => Nat.lt_irrefl _ (hP.own1.lt _ e).2
      have hsP := hP.lt
      have hsT := hPt.lt
      have hB := hPt.blk
      unfold phC at hB
      unfold tokRow at hwt hT0
      have HWT := Lib.hid hwt
      clear hwt
      have hkl : k ≤ 1048577 := by omega
      go_upto_region 17 with fail
      rw [← HWT.out]
      obtain ⟨z0, z1, z2, z3, z4, z5, z6, z7, z8, z9, z10, z11, z12, z13, z14⟩ := qrow hB
      obtain ⟨y0, y1, y2, y3, y4, y5, y6, y7, y8, y9, y10, y11, y12, y13, y14⟩ := qfz hB
      have tt := hT0.cell 0
      go_upto_region 18 with (at_builtin; refine wpList_append1 (base := w2.heap.size + 1) rfl _ _ rfl strEl hPt.own1 rfl rfl rfl rfl (by omega) (by unfold maxLen; omega) hsT ?_; intro v1' w5 ho1 hg1 hq5; obtain ⟨b5, s5, K5, o51, o52⟩ := hPt.text ht ho1 hg1; have T5 := hT0.grown hg1 (fun e => hne e.symm); obtain ⟨A5, c5, rfl⟩ := own_slice o51; have y3 : w5.frozen? ⟨w2.heap.size, 3, none⟩ = false := K5.frozen 3; have z3 : w5.cell? ⟨w2.heap.size, 3, none⟩ = some (.slice A3 k c3) := K5.cell 3; have HK5 := Lib.hid K5; have HT5 := Lib.hid T5; clear ho1 hg1 hq5 K5 T5)
      obtain ⟨W6, hW6⟩ : ∃ W, W = w5.setCell ⟨w2.heap.size, 3, none⟩ (.slice A5 (k + 1) c5) := ⟨_, rfl⟩
      rw [← hW6]
      clear z0 z1 z2 z3 z4 z5 z6 z7 z8 z9 z10 z11 z12 z13 z14 y0 y1 y2 y3 y4 y5 y6 y7 y8 y9 y10 y11 y12 y13 y14
      have M6 := Mid.of hW6 b5 s5 HK5.out o51 o52
      have T6 : Blk W6 wr.heap.size 115 (tokRow t) := by rw [hW6]; exact HT5.out.far (p := ⟨w2.heap.size, 3, none⟩) (by show wr.heap.size ≠ w2.heap.size; omega) _
      have z4 : W6.cell? ⟨w2.heap.size, 4, none⟩ = some (.slice A4 k c4) := M6.blk.cell 4
      have y4 : W6.frozen? ⟨w2.heap.size, 4, none⟩ = false := M6.blk.frozen 4
      have z4a : (W6.alloc (.cells #[.int .i64 (t.pos - tz.pos)] 3)).cell? ⟨w2.heap.size, 4, none⟩ = some (.slice A4 k c4) := (M6.alloc _).blk.cell 4
      have q2 : W6.cell? ⟨wr.heap.size, 2, none⟩ = some (.int .i64 t.pos) := T6.cell 2
      have q0 : W6.cell? ⟨tg, tq + 2, none⟩ = some (.int .i64 tz.pos) := (M6.bel.cell (p := ⟨tg, tq + 2, none⟩) htg).trans c0
      have iw : IntKind.i64.wrap (t.pos - tz.pos) = t.pos - tz.pos := IntWalk.i64_in _ (by omega)
      have lp : 0 < ts.length := by omega
      have hnew : ∀ o, (W6.alloc o).drew.heap[W6.heap.size]? = some o := fun o => heap_alloc_new W6 o
      have s6 := M6.lt
      have o62 := M6.own2
      obtain ⟨ie1, ⟨ii, ie2, ie3, ie4, ie5⟩, ie6, ie7⟩ := intEl
      have HM := Lib.hid M6
      have HHT := Lib.hid ht
      clear tt b5 s5 o51 o52 HK5 HT5 hB hP hPt hT0 hsP hsT M6 T6 hW6 HWT ht hne x0 x1 x2 x3 x4
      go_region_law ((refine step_append_kept (by rfl) _ _ _ (by rfl) (w2.heap.size + 1) 3 ii _ 1 8 ie1 ie2 ie3 ie4 ie5 ie6 ie7 (.slice A4 k c4) k _ (by rfl) ((o62.alloc _).drew) ⟨W6.heap.size, 0, none⟩ 1 1 [.int .i64 (t.pos - tz.pos)] (by rfl) (by rfl) (World.news_of_block (cs := #[.int .i64 (t.pos - tz.pos)]) (t := 3) (fr := (0, 0)) (hnew _)) (by simp [Value.oneCell']) (by omega) (by unfold maxLen; omega) (by omega) (by simp only [World.size_drew, World.size_alloc]; omega) ?_; intro gg cap w7 hown7 hat; obtain ⟨b7, s7, K7, o71, o72⟩ := (HM.out.alloc _).drew.grow HHT.out HZZ.out hown7 hat; have z4 : w7.cell? ⟨w2.heap.size, 4, none⟩ = some (.slice A4 k c4) := K7.cell 4; have y4 : w7.frozen? ⟨w2.heap.size, 4, none⟩ = false := K7.frozen 4))
      all_goals
        have hN := Ph.of b7 s7 K7 o71 o72
        go_wp2_with fail
        go_roundw
        case rel => exact ⟨k + 1, _, _, by omega, by go_num, hN⟩
        case measure => simp [intOf]; omega
    · obtain rfl : k = ts.length := by omega
      have hg2 : w.heap.size + 1 + 1 < w2.heap.size := by have := HZ.out; have := hb2.size; omega
      have KW := KR.below hP.bel (by omega)
      have KV := KO.below hP.bel hg2
      have hbr := bchain hbW (bchain hb2 (hP.bel.mono (Nat.le_refl _)))
      obtain ⟨z0, z1, z2, z3, z4, z5, z6, z7, z8, z9, z10, z11, z12, z13, z14⟩ := qrow KW
      obtain ⟨y0, y1, y2, y3, y4, y5, y6, y7, y8, y9, y10, y11, y12, y13, y14⟩ := qfz KW
      have i2 : ¬ ((ts.length : Int) < (ts.length : Int)) := by omega
      match ts, HQ, HSZ, hP, htl, hpos, hln with
      | [], HQ, HSZ, hP, htl, hpos, hln =>
        have HQ2 := Lib.hid (HQ.out : q = noneQ)
        obtain ⟨x0, x1, x2, x3, x4, x5, x6, x7, x8, x9, x10, x11, x12, x13, x14⟩ := qrow KV
        go_wp2_with fail
        refine bodyPost_ret (results_blk1 (p := 8) (ty := 29) (t := 29) (g := w.heap.size + 1) (cs := bareQ 1 0 ⟨#[]⟩) ?_ ?_ (blk15 KW) Tryz.underlying29 ?_ ?_) ?_ ?_
        · rfl
        · rfl
        · rfl
        · rw [qInfo]; rfl
        · rfl
        · rw [HQ2.out]
          exact isA_bare (k := 1) (f := 0) (t := ⟨#[]⟩) rfl rfl (Nat.zero_le _) rfl (below15 hbr (Nat.le_succ _))
      | [tk], HQ, HSZ, hP, htl, hpos, hln =>
        have HQ2 := Lib.hid (HQ.out : q = termQ at_ tk.text)
        obtain ⟨tg, tq, rfl, htg, htc⟩ := htl tk rfl
        have htk : tk.text.size ≤ maxLen := by have := HSZ.out tk (List.mem_singleton.2 rfl); unfold maxLen; omega
        have t0 : wr.cell? ⟨tg, tq, none⟩ = some (.string tk.text) := (hP.bel.cell (p := ⟨tg, tq, none⟩) htg).trans (htc 0 _ rfl)
        go_wp2_with fail
        refine bodyPost_ret (results_blk1 (p := 8) (ty := 29) (t := 29) (g := w.heap.size + 1) (cs := bareQ 4 at_ tk.text) ?_ ?_ (blk15 KW) Tryz.underlying29 ?_ ?_) ?_ ?_
        · rfl
        · rfl
        · rfl
        · rw [qInfo]; rfl
        · rfl
        · rw [HQ2.out]
          exact isA_bare (k := 4) (f := at_) (t := tk.text) rfl hat htk rfl (below15 hbr (Nat.le_succ _))
      | tz :: u :: r, HQ, HSZ, hP, htl, hpos, hln =>
        obtain ⟨ts, hts⟩ : ∃ ts, ts = tz :: u :: r := ⟨_, rfl⟩
        rw [← hts] at HSZ hP hpos hln ⊢
        have HQ2 := Lib.hid (hts ▸ HQ.out : q = phraseQ at_ n ts)
        have l0 : ((ts.length : Int) == 0) = false := beq_eq_false_iff_ne.2 (by rw [hts]; simp; omega)
        have l1 : ((ts.length : Int) == 1) = false := beq_eq_false_iff_ne.2 (by rw [hts]; simp; omega)
        have hB := hP.blk
        unfold phC at hB
        obtain ⟨x0, x1, x2, x3, x4, x5, x6, x7, x8, x9, x10, x11, x12, x13, x14⟩ := qrow hB
        have o1 := own15 (g := w.heap.size + 1) (v0 := .int .i64 5) (v1 := .int .i64 at_) (v2 := .string ⟨#[]⟩) (v3 := .slice A3 ts.length c3) (v4 := .slice A4 ts.length c4) (v5 := .int .i64 n) (v6 := .int .u64 0) (v7 := .bool false) (v8 := .bool false) (v9 := .string ⟨#[]⟩) (v10 := .bool false) (v11 := .bool false) (v12 := .string ⟨#[]⟩) (v13 := .slice none 0 0) (v14 := .slice none 0 0) hP.own1 (by omega)
        have o2 := own15 (g := w.heap.size + 1) (v0 := .int .i64 5) (v1 := .int .i64 at_) (v2 := .string ⟨#[]⟩) (v3 := .slice A3 ts.length c3) (v4 := .slice A4 ts.length c4) (v5 := .int .i64 n) (v6 := .int .u64 0) (v7 := .bool false) (v8 := .bool false) (v9 := .string ⟨#[]⟩) (v10 := .bool false) (v11 := .bool false) (v12 := .string ⟨#[]⟩) (v13 := .slice none 0 0) (v14 := .slice none 0 0) hP.own2 (by omega)
        have hlast := phrase_val (t0 := tz) hts hat hn hln hs (fun t ht => HSZ.out t ht) hpos o1 o2
        clear htl hts
        go_wp2_with fail
        refine bodyPost_ret (results_blk1 (p := 8) (ty := 29) (t := 29) (g := w.heap.size + 1) (cs := phC at_ n (.slice A3 ts.length c3) (.slice A4 ts.length c4)) ?_ ?_ (blk15 KW) Tryz.underlying29 ?_ ?_) ?_ ?_
        · rfl
        · rfl
        · rfl
        · rw [qInfo]; rfl
        · rfl
        · rw [HQ2.out]
          exact ⟨(phC at_ n (.slice A3 ts.length c3) (.slice A4 ts.length c4)).toList, rfl, hlast, below15 hbr (Nat.le_succ _)⟩
end Go.Proofs.YtkcfgcdlnojaeaaGreatDoor.LeafOf
