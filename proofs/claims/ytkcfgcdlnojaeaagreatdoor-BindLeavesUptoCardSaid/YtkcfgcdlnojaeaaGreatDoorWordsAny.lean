/-
  The walk of bind.words over any leaf: keywords, numbers, texts of no token or of one.
-/
import Derived.Test.YtkcfgcdlnojaeaaGreatDoorWordsOne
import Derived.Test.YtkcfgcdlnojaeaaGreatDoorNodeLeaf
import Derived.Test.YtkcfgcdlnojaeaaGreatDoorDSchema
set_option linter.unusedVariables false
set_option linter.unusedSimpArgs false
namespace Go.Proofs.YtkcfgcdlnojaeaaGreatDoor.WordsAny
set_option maxRecDepth 100000
open Go.RowKit Go.PlainAid Base Query BindBase NodeTerm NodeLeaf Binder WordPlain WordsWalk StopsWalk OfText OfAny WordsOne NumPlain NumWalk NumTerm OpenField FieldPlain ChainPlain

theorem qfz {w : World} {g : Nat} {t : TypeId} {cs : Array Value} (h : Blk w g t cs) : w.frozen? ⟨g, 0, none⟩ = false ∧ w.frozen? ⟨g, 1, none⟩ = false ∧ w.frozen? ⟨g, 2, none⟩ = false ∧ w.frozen? ⟨g, 3, none⟩ = false ∧ w.frozen? ⟨g, 4, none⟩ = false ∧ w.frozen? ⟨g, 5, none⟩ = false ∧ w.frozen? ⟨g, 6, none⟩ = false ∧ w.frozen? ⟨g, 7, none⟩ = false ∧ w.frozen? ⟨g, 8, none⟩ = false ∧ w.frozen? ⟨g, 9, none⟩ = false ∧ w.frozen? ⟨g, 10, none⟩ = false ∧ w.frozen? ⟨g, 11, none⟩ = false ∧ w.frozen? ⟨g, 12, none⟩ = false ∧ w.frozen? ⟨g, 13, none⟩ = false ∧ w.frozen? ⟨g, 14, none⟩ = false :=
  ⟨h.frozen 0, h.frozen 1, h.frozen 2, h.frozen 3, h.frozen 4, h.frozen 5, h.frozen 6, h.frozen 7, h.frozen 8, h.frozen 9, h.frozen 10, h.frozen 11, h.frozen 12, h.frozen 13, h.frozen 14⟩
theorem blk15 {w : World} {g : Nat} {t : TypeId} {u0 u1 u2 u3 u4 u5 u6 u7 u8 u9 u10 u11 u12 u13 u14 v0 v1 v2 v3 v4 v5 v6 v7 v8 v9 v10 v11 v12 v13 v14 : Value} (h : Blk w g t #[u0, u1, u2, u3, u4, u5, u6, u7, u8, u9, u10, u11, u12, u13, u14]) : Blk (((((((((((((((w.setCell ⟨g, 0, none⟩ v0).setCell ⟨g, 1, none⟩ v1).setCell ⟨g, 2, none⟩ v2).setCell ⟨g, 3, none⟩ v3).setCell ⟨g, 4, none⟩ v4).setCell ⟨g, 5, none⟩ v5).setCell ⟨g, 6, none⟩ v6).setCell ⟨g, 7, none⟩ v7).setCell ⟨g, 8, none⟩ v8).setCell ⟨g, 9, none⟩ v9).setCell ⟨g, 10, none⟩ v10).setCell ⟨g, 11, none⟩ v11).setCell ⟨g, 12, none⟩ v12).setCell ⟨g, 13, none⟩ v13).setCell ⟨g, 14, none⟩ v14) g t #[v0, v1, v2, v3, v4, v5, v6, v7, v8, v9, v10, v11, v12, v13, v14] := by
  have h := (((((((((((((((h.set_ 0 v0).set_ 1 v1).set_ 2 v2).set_ 3 v3).set_ 4 v4).set_ 5 v5).set_ 6 v6).set_ 7 v7).set_ 8 v8).set_ 9 v9).set_ 10 v10).set_ 11 v11).set_ 12 v12).set_ 13 v13).set_ 14 v14)
  simpa using h
theorem below15 {B : Nat} {w0 w : World} {g : Nat} {v0 v1 v2 v3 v4 v5 v6 v7 v8 v9 v10 v11 v12 v13 v14 : Value} (h : Below B w0 w) (hg : B ≤ g) : Below B w0 (((((((((((((((w.setCell ⟨g, 0, none⟩ v0).setCell ⟨g, 1, none⟩ v1).setCell ⟨g, 2, none⟩ v2).setCell ⟨g, 3, none⟩ v3).setCell ⟨g, 4, none⟩ v4).setCell ⟨g, 5, none⟩ v5).setCell ⟨g, 6, none⟩ v6).setCell ⟨g, 7, none⟩ v7).setCell ⟨g, 8, none⟩ v8).setCell ⟨g, 9, none⟩ v9).setCell ⟨g, 10, none⟩ v10).setCell ⟨g, 11, none⟩ v11).setCell ⟨g, 12, none⟩ v12).setCell ⟨g, 13, none⟩ v13).setCell ⟨g, 14, none⟩ v14) :=
  (((((((((((((((h.setCell (p := ⟨g, 0, none⟩) hg v0).setCell (p := ⟨g, 1, none⟩) hg v1).setCell (p := ⟨g, 2, none⟩) hg v2).setCell (p := ⟨g, 3, none⟩) hg v3).setCell (p := ⟨g, 4, none⟩) hg v4).setCell (p := ⟨g, 5, none⟩) hg v5).setCell (p := ⟨g, 6, none⟩) hg v6).setCell (p := ⟨g, 7, none⟩) hg v7).setCell (p := ⟨g, 8, none⟩) hg v8).setCell (p := ⟨g, 9, none⟩) hg v9).setCell (p := ⟨g, 10, none⟩) hg v10).setCell (p := ⟨g, 11, none⟩) hg v11).setCell (p := ⟨g, 12, none⟩) hg v12).setCell (p := ⟨g, 13, none⟩) hg v13).setCell (p := ⟨g, 14, none⟩) hg v14)
theorem none_lit (w : World) : Calls Tryz.prog 51 #[] w fun e w' => e = .returned (.agg #[.int .i64 1, .int .i64 0, .string ⟨#[]⟩, .slice none 0 0, .slice none 0 0, .int .i64 0, .int .u64 0, .bool false, .bool false, .string ⟨#[]⟩, .bool false, .bool false, .string ⟨#[]⟩, .slice none 0 0, .slice none 0 0]) ∧ Below w.heap.size w w' := none_any w
theorem tl_empty (t : ByteArray) : t.toList.isEmpty = (t.size == 0) := by
  have h : t.toList.length = t.size := by rw [ByteArray.toList_eq, Array.length_toList]; rfl
  cases e : t.toList with
  | nil => rw [e] at h; simp at h; rw [← h]; rfl
  | cons a l => rw [e] at h; simp at h; rw [← h]; rfl
theorem term_fit (v : Int) : (termN v).size ≤ maxLen := by
  have e : (termN v).size = (tbytes v 8).length := List.size_toArray ..
  rw [e, tbytes_len]
  unfold maxLen
  omega
theorem thru_size : ∀ (c : List Step) (x : ByteArray), (thru c x).1.size ≤ x.size
  | [], x => by rw [thru_nil]; exact Nat.le_refl _
  | s :: r, x => by
    cases h : (doS s x).2 with
    | true => rw [thru_yes h]; exact Nat.le_trans (thru_size r _) (doS_size s x)
    | false => rw [thru_no h]; exact Nat.zero_le _
theorem of_size {kd : Int} {a b c : Bool} {s : ByteArray} {t : Tok} (h : t ∈ ofT kd a b c s) : t.text.size ≤ s.size + 8 := by
  unfold ofT at h
  split at h
  · unfold textT passed at h
    obtain ⟨u, hu, hp⟩ := List.mem_filterMap.1 h
    obtain ⟨n, hn, e⟩ := List.getElem_of_mem hu
    have h1 := words_text s (k := n) (t := u) (by rw [List.getElem?_eq_getElem hn, e])
    unfold passT at hp
    split at hp
    · obtain rfl := Option.some.inj hp
      have := thru_size (chn a b c) u.text
      simp only [withT]
      omega
    · cases hp
  · split at h
    · split at h
      · obtain rfl := List.mem_singleton.1 h; simp [loneT]
      · cases h
    · split at h
      · split at h
        · obtain rfl := List.mem_singleton.1 h
          rename_i v _
          have e : (termN v).size = (tbytes v 8).length := List.size_toArray ..
          simp only [loneT]
          rw [e, tbytes_len]
          omega
        · cases h
      · cases h
/-- A query's values, as long as no block but of queries changes. -/
def Fresh (w' : World) (cs : List Value) (q : Qry) : Prop := ∀ w'' : World, (∀ k t xs, t ≠ 29 → Blk w' k t xs → Blk w'' k t xs) → QVal w'' w'.heap.size cs q
theorem Fresh.val {w' : World} {cs : List Value} {q : Qry} (h : Fresh w' cs q) : QVal w' w'.heap.size cs q := h w' fun _ _ _ _ h => h
/-- What a query hands back is in memory. -/
def IsQ (q : Qry) (b : Bool) (w : World) (e : Ending) (w' : World) : Prop := ∃ cs : List Value, e = .returned (.tuple #[.agg cs.toArray, .bool b]) ∧ Fresh w' cs q ∧ Below w.heap.size w w'
def bnd0 : Bnd := ⟨false, false, ⟨#[]⟩⟩
def bareH (k f : Int) (t : ByteArray) : Head := ⟨k, f, t, [], [], 0, 0, bnd0, bnd0, []⟩
def noneQ : Qry := .mk (bareH 1 0 ⟨#[]⟩) []
def zeroQ : Qry := .mk (bareH 0 0 ⟨#[]⟩) []
def termQ (at_ : Int) (t : ByteArray) : Qry := .mk (bareH 4 at_ t) []
def phraseQ (at_ n : Int) (ts : List Tok) : Qry := .mk ⟨5, at_, ⟨#[]⟩, ts.map Tok.text, ts.map fun t => t.pos - (ts.head?.getD ⟨⟨#[]⟩, 0, 0, 0, 0⟩).pos, n, 0, bnd0, bnd0, []⟩ []
def fitI (x : Int) : Prop := (Lit.int .i64 x).wf = true
theorem bare_val (w : World) (B : Nat) (k f : Int) (t : ByteArray) (hk : fitI k) (hf : fitI f) (ht : t.size ≤ maxLen) : QVal w B (bareQ k f t).toList (.mk (bareH k f t) []) :=
  QVal.mk (bareH k f t) [] none none none none 0 0 0 0 (fun _ => []) ⟨hk, hf, rfl, rfl, (fun _ h => by cases h), (fun _ h => by cases h), ht, (fun _ h => by cases h), Nat.zero_le _, Nat.zero_le _, Nat.zero_le _⟩ (Nat.zero_le _)
    (Slc.nil _) (Slc.nil _) (Slc.nil _) (fun h => absurd rfl h) (fun _ _ h => by cases h)
theorem isq_bare {w w' : World} {k f : Int} {t : ByteArray} {b : Bool} {e : Ending} (hk : fitI k) (hf : fitI f) (ht : t.size ≤ maxLen) (he : e = .returned (.tuple #[.agg (bareQ k f t), .bool b])) (hb : Below w.heap.size w w') : IsQ (.mk (bareH k f t) []) b w e w' :=
  ⟨(bareQ k f t).toList, by rw [he], fun w'' _ => bare_val w'' _ k f t hk hf ht, hb⟩

set_option maxHeartbeats 2000000 in
theorem words_key (k n at_ : Int) (fn T nm : ByteArray) (a b c : Bool) (w : World) (hat : fitI at_) (hs : T.size ≤ 1048576) :
    Calls Tryz.prog 88 #[.agg (nodeK k fn T n), .agg #[.string nm, .int .i64 2, .bool a, .bool b, .bool c], .int .i64 at_] w (IsQ (if T.size = 0 ∨ 64 < T.size then noneQ else termQ at_ T) true w) := by
  obtain ⟨q, hq⟩ : ∃ q, q = (if T.size = 0 ∨ 64 < T.size then noneQ else termQ at_ T) := ⟨_, rfl⟩
  rw [← hq]
  obtain ⟨W3, hW3⟩ : ∃ W, W = ((w.alloc (.cells (nodeK k fn T n) 39)).alloc (.cells #[.string nm, .int .i64 2, .bool a, .bool b, .bool c] 67)).alloc (.cells (bareQ 0 0 ⟨#[]⟩) 29) := ⟨_, rfl⟩
  have K1 : Blk W3 w.heap.size 39 (nodeK k fn T n) := by rw [hW3]; exact ((Blk.new w _ _).alloc _).alloc _
  have K2 : Blk W3 (w.heap.size + 1) 67 #[.string nm, .int .i64 2, .bool a, .bool b, .bool c] := by
    rw [hW3]
    have := (Blk.new (w.alloc (.cells (nodeK k fn T n) 39)) 67 #[.string nm, .int .i64 2, .bool a, .bool b, .bool c]).alloc (.cells (bareQ 0 0 ⟨#[]⟩) 29)
    rwa [World.size_alloc] at this
  have K3 : Blk W3 (w.heap.size + 1 + 1) 29 (bareQ 0 0 ⟨#[]⟩) := by
    rw [hW3]
    have := Blk.new ((w.alloc (.cells (nodeK k fn T n) 39)).alloc (.cells #[.string nm, .int .i64 2, .bool a, .bool b, .bool c] 67)) 29 (bareQ 0 0 ⟨#[]⟩)
    rwa [World.size_alloc, World.size_alloc] at this
  have hbW : Below w.heap.size w W3 := by rw [hW3]; (repeat (first | exact Below.refl _ _ | assumption | refine balloc ?_ _ | refine bdrew ?_ | refine bdrewN ?_ _ | refine bchain ?_ (by assumption)))
  have hsz : w.heap.size + 3 = W3.heap.size := by rw [hW3]; simp
  have HW := Lib.hid hW3
  have HZ := Lib.hid hsz
  unfold nodeK at K1 HW
  unfold bareQ at K3 HW
  clear hW3 hsz
  unfold nodeK
  go_enter Tryz.func88, Tryz.ntmps88
  go_upto_region 1 with fail
  rw [← HW.out]
  obtain ⟨z0, z1, z2, z3, z4, z5, z6, z7, z8, z9, z10, z11, z12, z13, z14⟩ := qrow (K3.below (Below.refl W3.heap.size W3) (by have := HZ.out; omega)); obtain ⟨y0, y1, y2, y3, y4, y5, y6, y7, y8, y9, y10, y11, y12, y13, y14⟩ := qfz (K3.below (Below.refl W3.heap.size W3) (by have := HZ.out; omega)); have n2 := (K1.below (Below.refl W3.heap.size W3) (by have := HZ.out; omega)).cell 2; have n3 := (K1.below (Below.refl W3.heap.size W3) (by have := HZ.out; omega)).cell 3; have f0 := (K2.below (Below.refl W3.heap.size W3) (by have := HZ.out; omega)).cell 0; have f1 := (K2.below (Below.refl W3.heap.size W3) (by have := HZ.out; omega)).cell 1; have f2 := (K2.below (Below.refl W3.heap.size W3) (by have := HZ.out; omega)).cell 2; have f3 := (K2.below (Below.refl W3.heap.size W3) (by have := HZ.out; omega)).cell 3; have f4 := (K2.below (Below.refl W3.heap.size W3) (by have := HZ.out; omega)).cell 4
  have HQ := Lib.hid hq
  clear hq
  rcases (by omega : T.size = 0 ∨ (T.size ≠ 0 ∧ 64 < T.size) ∨ (T.size ≠ 0 ∧ T.size ≤ 64)) with h0 | ⟨h0, h64⟩ | ⟨h0, h64⟩
  · have HQ2 := Lib.hid (HQ.out.trans (if_pos (Or.inl h0)))
    have e0 : T.toList.isEmpty = true := by rw [tl_empty]; exact beq_iff_eq.2 h0
    clear h0
    go_wp2_with (go_at_call 51; refine (none_lit _).mono ?_; rintro e w2 ⟨rfl, hb2⟩; obtain ⟨z0, z1, z2, z3, z4, z5, z6, z7, z8, z9, z10, z11, z12, z13, z14⟩ := qrow (K3.below hb2 (by have := HZ.out; omega)); obtain ⟨y0, y1, y2, y3, y4, y5, y6, y7, y8, y9, y10, y11, y12, y13, y14⟩ := qfz (K3.below hb2 (by have := HZ.out; omega)); have n2 := (K1.below hb2 (by have := HZ.out; omega)).cell 2; have n3 := (K1.below hb2 (by have := HZ.out; omega)).cell 3; have f0 := (K2.below hb2 (by have := HZ.out; omega)).cell 0; have f1 := (K2.below hb2 (by have := HZ.out; omega)).cell 1; have f2 := (K2.below hb2 (by have := HZ.out; omega)).cell 2; have f3 := (K2.below hb2 (by have := HZ.out; omega)).cell 3; have f4 := (K2.below hb2 (by have := HZ.out; omega)).cell 4)
    refine bodyPost_ret (results_blk (p := 6) (u := 7) (ty := 29) (t := 29) (g := w.heap.size + 1 + 1) (cs := bareQ 1 0 ⟨#[]⟩) ?_ ?_ (blk15 (K3.below hb2 (by have := HZ.out; omega))) Tryz.underlying29 ?_ ?_) ?_ ?_
    · rfl
    · rfl
    · rfl
    · rw [qInfo]; rfl
    · rfl
    · rw [HQ2.out]
      exact isq_bare (k := 1) (f := 0) (t := ⟨#[]⟩) rfl rfl (Nat.zero_le _) rfl (below15 (bchain hbW hb2) (Nat.le_succ_of_le (Nat.le_succ _)))
  · have HQ2 := Lib.hid (HQ.out.trans (if_pos (Or.inr h64)))
    have e0 : T.toList.isEmpty = false := by rw [tl_empty]; exact beq_eq_false_iff_ne.2 h0
    have e1 : decide ((64 : Int) < (T.size : Int)) = true := decide_eq_true (by omega)
    clear h0 h64
    go_wp2_with (go_at_call 51; refine (none_lit _).mono ?_; rintro e w2 ⟨rfl, hb2⟩; obtain ⟨z0, z1, z2, z3, z4, z5, z6, z7, z8, z9, z10, z11, z12, z13, z14⟩ := qrow (K3.below hb2 (by have := HZ.out; omega)); obtain ⟨y0, y1, y2, y3, y4, y5, y6, y7, y8, y9, y10, y11, y12, y13, y14⟩ := qfz (K3.below hb2 (by have := HZ.out; omega)); have n2 := (K1.below hb2 (by have := HZ.out; omega)).cell 2; have n3 := (K1.below hb2 (by have := HZ.out; omega)).cell 3; have f0 := (K2.below hb2 (by have := HZ.out; omega)).cell 0; have f1 := (K2.below hb2 (by have := HZ.out; omega)).cell 1; have f2 := (K2.below hb2 (by have := HZ.out; omega)).cell 2; have f3 := (K2.below hb2 (by have := HZ.out; omega)).cell 3; have f4 := (K2.below hb2 (by have := HZ.out; omega)).cell 4)
    refine bodyPost_ret (results_blk (p := 6) (u := 7) (ty := 29) (t := 29) (g := w.heap.size + 1 + 1) (cs := bareQ 1 0 ⟨#[]⟩) ?_ ?_ (blk15 (K3.below hb2 (by have := HZ.out; omega))) Tryz.underlying29 ?_ ?_) ?_ ?_
    · rfl
    · rfl
    · rfl
    · rw [qInfo]; rfl
    · rfl
    · rw [HQ2.out]
      exact isq_bare (k := 1) (f := 0) (t := ⟨#[]⟩) rfl rfl (Nat.zero_le _) rfl (below15 (bchain hbW hb2) (Nat.le_succ_of_le (Nat.le_succ _)))
  · have HQ2 := Lib.hid (HQ.out.trans (if_neg (by omega)))
    have e0 : T.toList.isEmpty = false := by rw [tl_empty]; exact beq_eq_false_iff_ne.2 h0
    have e1 : decide ((64 : Int) < (T.size : Int)) = false := decide_eq_false (by omega)
    clear h0 h64
    go_wp2_with fail
    refine bodyPost_ret (results_blk (p := 6) (u := 7) (ty := 29) (t := 29) (g := w.heap.size + 1 + 1) (cs := bareQ 4 at_ T) ?_ ?_ (blk15 K3) Tryz.underlying29 ?_ ?_) ?_ ?_
    · rfl
    · rfl
    · rfl
    · rw [qInfo]; rfl
    · rfl
    · rw [HQ2.out]
      exact isq_bare (k := 4) (f := at_) (t := T) rfl hat (by unfold maxLen; omega) rfl (below15 hbW (Nat.le_succ_of_le (Nat.le_succ _)))

set_option maxHeartbeats 2000000 in
theorem words_num (k n at_ : Int) (fn T nm : ByteArray) (a b c : Bool) (w : World) (hat : fitI at_) (hs : T.size ≤ 1048576) :
    Calls Tryz.prog 88 #[.agg (nodeK k fn T n), .agg #[.string nm, .int .i64 3, .bool a, .bool b, .bool c], .int .i64 at_] w (IsQ (match parseN T with | none => noneQ | some v => termQ at_ (termN v)) true w) := by
  have PN := Lib.hid (fun W => NumWalk.parse_any T W (by omega))
  have hr : ∀ v, parseN T = some v → least ≤ v ∧ v ≤ 9223372036854775807 := fun v h => parse_bd h
  obtain ⟨p, hp⟩ : ∃ p, p = parseN T := ⟨_, rfl⟩
  rw [← hp] at PN hr ⊢
  clear hp
  obtain ⟨q, hq⟩ : ∃ q, q = (match p with | none => noneQ | some v => termQ at_ (termN v)) := ⟨_, rfl⟩
  rw [← hq]
  have HQ := Lib.hid hq
  clear hq
  obtain ⟨W3, hW3⟩ : ∃ W, W = ((w.alloc (.cells (nodeK k fn T n) 39)).alloc (.cells #[.string nm, .int .i64 3, .bool a, .bool b, .bool c] 67)).alloc (.cells (bareQ 0 0 ⟨#[]⟩) 29) := ⟨_, rfl⟩
  have K1 : Blk W3 w.heap.size 39 (nodeK k fn T n) := by rw [hW3]; exact ((Blk.new w _ _).alloc _).alloc _
  have K2 : Blk W3 (w.heap.size + 1) 67 #[.string nm, .int .i64 3, .bool a, .bool b, .bool c] := by
    rw [hW3]
    have := (Blk.new (w.alloc (.cells (nodeK k fn T n) 39)) 67 #[.string nm, .int .i64 3, .bool a, .bool b, .bool c]).alloc (.cells (bareQ 0 0 ⟨#[]⟩) 29)
    rwa [World.size_alloc] at this
  have K3 : Blk W3 (w.heap.size + 1 + 1) 29 (bareQ 0 0 ⟨#[]⟩) := by
    rw [hW3]
    have := Blk.new ((w.alloc (.cells (nodeK k fn T n) 39)).alloc (.cells #[.string nm, .int .i64 3, .bool a, .bool b, .bool c] 67)) 29 (bareQ 0 0 ⟨#[]⟩)
    rwa [World.size_alloc, World.size_alloc] at this
  have hbW : Below w.heap.size w W3 := by rw [hW3]; (repeat (first | exact Below.refl _ _ | assumption | refine balloc ?_ _ | refine bdrew ?_ | refine bdrewN ?_ _ | refine bchain ?_ (by assumption)))
  have hsz : w.heap.size + 3 = W3.heap.size := by rw [hW3]; simp
  have HW := Lib.hid hW3
  have HZ := Lib.hid hsz
  unfold nodeK at K1 HW
  unfold bareQ at K3 HW
  clear hW3 hsz
  unfold nodeK
  go_enter Tryz.func88, Tryz.ntmps88
  go_upto_region 1 with fail
  rw [← HW.out]
  obtain ⟨z0, z1, z2, z3, z4, z5, z6, z7, z8, z9, z10, z11, z12, z13, z14⟩ := qrow (K3.below (Below.refl W3.heap.size W3) (by have := HZ.out; omega)); obtain ⟨y0, y1, y2, y3, y4, y5, y6, y7, y8, y9, y10, y11, y12, y13, y14⟩ := qfz (K3.below (Below.refl W3.heap.size W3) (by have := HZ.out; omega)); have n2 := (K1.below (Below.refl W3.heap.size W3) (by have := HZ.out; omega)).cell 2; have n3 := (K1.below (Below.refl W3.heap.size W3) (by have := HZ.out; omega)).cell 3; have f0 := (K2.below (Below.refl W3.heap.size W3) (by have := HZ.out; omega)).cell 0; have f1 := (K2.below (Below.refl W3.heap.size W3) (by have := HZ.out; omega)).cell 1; have f2 := (K2.below (Below.refl W3.heap.size W3) (by have := HZ.out; omega)).cell 2; have f3 := (K2.below (Below.refl W3.heap.size W3) (by have := HZ.out; omega)).cell 3; have f4 := (K2.below (Below.refl W3.heap.size W3) (by have := HZ.out; omega)).cell 4
  cases p with
  | none =>
    have HQ2 := Lib.hid (HQ.out : q = noneQ)
    simp only [numV, Option.getD_none, Option.isSome_none] at PN
    go_wp2_with (first | (go_at_call 39; refine (PN.out _).mono ?_; rintro e wp ⟨rfl, hwp⟩; obtain rfl : W3 = wp := hwp.symm) | (go_at_call 51; refine (none_lit _).mono ?_; rintro e w2 ⟨rfl, hb2⟩; obtain ⟨z0, z1, z2, z3, z4, z5, z6, z7, z8, z9, z10, z11, z12, z13, z14⟩ := qrow (K3.below hb2 (by have := HZ.out; omega)); obtain ⟨y0, y1, y2, y3, y4, y5, y6, y7, y8, y9, y10, y11, y12, y13, y14⟩ := qfz (K3.below hb2 (by have := HZ.out; omega)); have n2 := (K1.below hb2 (by have := HZ.out; omega)).cell 2; have n3 := (K1.below hb2 (by have := HZ.out; omega)).cell 3; have f0 := (K2.below hb2 (by have := HZ.out; omega)).cell 0; have f1 := (K2.below hb2 (by have := HZ.out; omega)).cell 1; have f2 := (K2.below hb2 (by have := HZ.out; omega)).cell 2; have f3 := (K2.below hb2 (by have := HZ.out; omega)).cell 3; have f4 := (K2.below hb2 (by have := HZ.out; omega)).cell 4))
    refine bodyPost_ret (results_blk (p := 6) (u := 7) (ty := 29) (t := 29) (g := w.heap.size + 1 + 1) (cs := bareQ 1 0 ⟨#[]⟩) ?_ ?_ (blk15 (K3.below hb2 (by have := HZ.out; omega))) Tryz.underlying29 ?_ ?_) ?_ ?_
    · rfl
    · rfl
    · rfl
    · rw [qInfo]; rfl
    · rfl
    · rw [HQ2.out]
      exact isq_bare (k := 1) (f := 0) (t := ⟨#[]⟩) rfl rfl (Nat.zero_le _) rfl (below15 (bchain hbW hb2) (Nat.le_succ_of_le (Nat.le_succ _)))
  | some v =>
    obtain ⟨v1, v2⟩ := hr v rfl
    have HQ2 := Lib.hid (HQ.out : q = termQ at_ (termN v))
    have hnt : (termN v).size ≤ maxLen := term_fit v
    simp only [numV, Option.getD_some, Option.isSome_some] at PN
    go_wp2_with (first | (go_at_call 39; refine (PN.out _).mono ?_; rintro e wp ⟨rfl, hwp⟩; obtain rfl : W3 = wp := hwp.symm) | (go_at_call 40; refine (NumTerm.term_any v _ v1 v2).mono ?_; rintro e w2 ⟨rfl, hb2⟩; obtain ⟨z0, z1, z2, z3, z4, z5, z6, z7, z8, z9, z10, z11, z12, z13, z14⟩ := qrow (K3.below hb2 (by have := HZ.out; omega)); obtain ⟨y0, y1, y2, y3, y4, y5, y6, y7, y8, y9, y10, y11, y12, y13, y14⟩ := qfz (K3.below hb2 (by have := HZ.out; omega)); have n2 := (K1.below hb2 (by have := HZ.out; omega)).cell 2; have n3 := (K1.below hb2 (by have := HZ.out; omega)).cell 3; have f0 := (K2.below hb2 (by have := HZ.out; omega)).cell 0; have f1 := (K2.below hb2 (by have := HZ.out; omega)).cell 1; have f2 := (K2.below hb2 (by have := HZ.out; omega)).cell 2; have f3 := (K2.below hb2 (by have := HZ.out; omega)).cell 3; have f4 := (K2.below hb2 (by have := HZ.out; omega)).cell 4))
    refine bodyPost_ret (results_blk (p := 6) (u := 7) (ty := 29) (t := 29) (g := w.heap.size + 1 + 1) (cs := bareQ 4 at_ (termN v)) ?_ ?_ (blk15 (K3.below hb2 (by have := HZ.out; omega))) Tryz.underlying29 ?_ ?_) ?_ ?_
    · rfl
    · rfl
    · rfl
    · rw [qInfo]; rfl
    · rfl
    · rw [HQ2.out]
      exact isq_bare (k := 4) (f := at_) (t := termN v) rfl hat hnt rfl (below15 (bchain hbW hb2) (Nat.le_succ_of_le (Nat.le_succ _)))

set_option maxHeartbeats 2000000 in
theorem words_few (kd : Int) (k n at_ : Int) (fn T nm : ByteArray) (a b c : Bool) (w : World) (hat : fitI at_) (hs : T.size ≤ 1048576) (hk2 : kd ≠ 2) (hk3 : kd ≠ 3) (ht : Tab w) (h0 : 3 < w.heap.size) (hof : (ofT kd a b c T).length ≤ 1) :
    Calls Tryz.prog 88 #[.agg (nodeK k fn T n), .agg #[.string nm, .int .i64 kd, .bool a, .bool b, .bool c], .int .i64 at_] w (IsQ (match ofT kd a b c T with | [] => zeroQ | t :: _ => termQ at_ t.text) (match ofT kd a b c T with | [] => false | _ => true) w) := by
  obtain ⟨ts, hts⟩ : ∃ ts, ts = ofT kd a b c T := ⟨_, rfl⟩
  have OA := Lib.hid (fun W (hW : Below w.heap.size w W) => of_any nm kd a b c T W (by omega) (tab_below ht hW h0) (Nat.lt_of_lt_of_le h0 hW.size))
  have hsz := fun t (ht : t ∈ ofT kd a b c T) => of_size ht
  rw [← hts] at OA hof hsz ⊢
  clear hts
  obtain ⟨q, hq⟩ : ∃ q, q = (match ts with | [] => zeroQ | t :: _ => termQ at_ t.text) := ⟨_, rfl⟩
  obtain ⟨bb, hbb⟩ : ∃ x, x = (match ts with | [] => false | _ => true) := ⟨_, rfl⟩
  rw [← hq, ← hbb]
  have HQ := Lib.hid hq
  have HB := Lib.hid hbb
  clear hq hbb
  obtain ⟨W3, hW3⟩ : ∃ W, W = ((w.alloc (.cells (nodeK k fn T n) 39)).alloc (.cells #[.string nm, .int .i64 kd, .bool a, .bool b, .bool c] 67)).alloc (.cells (bareQ 0 0 ⟨#[]⟩) 29) := ⟨_, rfl⟩
  have K1 : Blk W3 w.heap.size 39 (nodeK k fn T n) := by rw [hW3]; exact ((Blk.new w _ _).alloc _).alloc _
  have K2 : Blk W3 (w.heap.size + 1) 67 #[.string nm, .int .i64 kd, .bool a, .bool b, .bool c] := by
    rw [hW3]
    have := (Blk.new (w.alloc (.cells (nodeK k fn T n) 39)) 67 #[.string nm, .int .i64 kd, .bool a, .bool b, .bool c]).alloc (.cells (bareQ 0 0 ⟨#[]⟩) 29)
    rwa [World.size_alloc] at this
  have K3 : Blk W3 (w.heap.size + 1 + 1) 29 (bareQ 0 0 ⟨#[]⟩) := by
    rw [hW3]
    have := Blk.new ((w.alloc (.cells (nodeK k fn T n) 39)).alloc (.cells #[.string nm, .int .i64 kd, .bool a, .bool b, .bool c] 67)) 29 (bareQ 0 0 ⟨#[]⟩)
    rwa [World.size_alloc, World.size_alloc] at this
  have hbW : Below w.heap.size w W3 := by rw [hW3]; (repeat (first | exact Below.refl _ _ | assumption | refine balloc ?_ _ | refine bdrew ?_ | refine bdrewN ?_ _ | refine bchain ?_ (by assumption)))
  have hsz : w.heap.size + 3 = W3.heap.size := by rw [hW3]; simp
  have HW := Lib.hid hW3
  have HZ := Lib.hid hsz
  unfold nodeK at K1 HW
  unfold bareQ at K3 HW
  clear hW3 hsz
  unfold nodeK
  go_enter Tryz.func88, Tryz.ntmps88
  go_upto_region 1 with fail
  rw [← HW.out]
  obtain ⟨z0, z1, z2, z3, z4, z5, z6, z7, z8, z9, z10, z11, z12, z13, z14⟩ := qrow (K3.below (Below.refl W3.heap.size W3) (by have := HZ.out; omega)); obtain ⟨y0, y1, y2, y3, y4, y5, y6, y7, y8, y9, y10, y11, y12, y13, y14⟩ := qfz (K3.below (Below.refl W3.heap.size W3) (by have := HZ.out; omega)); have n2 := (K1.below (Below.refl W3.heap.size W3) (by have := HZ.out; omega)).cell 2; have n3 := (K1.below (Below.refl W3.heap.size W3) (by have := HZ.out; omega)).cell 3; have f0 := (K2.below (Below.refl W3.heap.size W3) (by have := HZ.out; omega)).cell 0; have f1 := (K2.below (Below.refl W3.heap.size W3) (by have := HZ.out; omega)).cell 1; have f2 := (K2.below (Below.refl W3.heap.size W3) (by have := HZ.out; omega)).cell 2; have f3 := (K2.below (Below.refl W3.heap.size W3) (by have := HZ.out; omega)).cell 3; have f4 := (K2.below (Below.refl W3.heap.size W3) (by have := HZ.out; omega)).cell 4
  have d2 : (kd == 2) = false := beq_eq_false_iff_ne.2 hk2
  have d3 : (kd == 3) = false := beq_eq_false_iff_ne.2 hk3
  match ts, hof, OA, hsz, HQ, HB with
  | [], _, OA, _, HQ, HB =>
    have HQ2 := Lib.hid (HQ.out : q = zeroQ)
    have HB2 := Lib.hid (HB.out : bb = false)
    go_wp2_with (go_at_call 35; refine (OA.out _ hbW).mono ?_; rintro e w2 ⟨A2, c2, rfl, hown, hb2⟩; obtain ⟨z0, z1, z2, z3, z4, z5, z6, z7, z8, z9, z10, z11, z12, z13, z14⟩ := qrow (K3.below hb2 (by have := HZ.out; omega)); obtain ⟨y0, y1, y2, y3, y4, y5, y6, y7, y8, y9, y10, y11, y12, y13, y14⟩ := qfz (K3.below hb2 (by have := HZ.out; omega)); have n2 := (K1.below hb2 (by have := HZ.out; omega)).cell 2; have n3 := (K1.below hb2 (by have := HZ.out; omega)).cell 3; have f0 := (K2.below hb2 (by have := HZ.out; omega)).cell 0; have f1 := (K2.below hb2 (by have := HZ.out; omega)).cell 1; have f2 := (K2.below hb2 (by have := HZ.out; omega)).cell 2; have f3 := (K2.below hb2 (by have := HZ.out; omega)).cell 3; have f4 := (K2.below hb2 (by have := HZ.out; omega)).cell 4)
    refine bodyPost_ret (results_blk (p := 6) (u := 7) (ty := 29) (t := 29) (g := w.heap.size + 1 + 1) (cs := bareQ 0 0 ⟨#[]⟩) ?_ ?_ (blk15 (K3.below hb2 (by have := HZ.out; omega))) Tryz.underlying29 ?_ ?_) ?_ ?_
    · rfl
    · rfl
    · rfl
    · rw [qInfo]; rfl
    · rfl
    · rw [HQ2.out, HB2.out]
      exact isq_bare (k := 0) (f := 0) (t := ⟨#[]⟩) rfl rfl (Nat.zero_le _) rfl (below15 (bchain hbW hb2) (Nat.le_succ_of_le (Nat.le_succ _)))
  | [tk], _, OA, hsz, HQ, HB =>
    have HQ2 := Lib.hid (HQ.out : q = termQ at_ tk.text)
    have HB2 := Lib.hid (HB.out : bb = true)
    have htk : tk.text.size ≤ maxLen := by have := hsz tk (List.mem_singleton.2 rfl); unfold maxLen; omega
    have hbt : tokCells [tk] ≠ [] := by simp [tokCells, tokC]
    go_wp2_with (go_at_call 35; refine (OA.out _ hbW).mono ?_; rintro e w2 ⟨A2, c2, rfl, hown, hb2⟩; obtain ⟨z0, z1, z2, z3, z4, z5, z6, z7, z8, z9, z10, z11, z12, z13, z14⟩ := qrow (K3.below hb2 (by have := HZ.out; omega)); obtain ⟨y0, y1, y2, y3, y4, y5, y6, y7, y8, y9, y10, y11, y12, y13, y14⟩ := qfz (K3.below hb2 (by have := HZ.out; omega)); have n2 := (K1.below hb2 (by have := HZ.out; omega)).cell 2; have n3 := (K1.below hb2 (by have := HZ.out; omega)).cell 3; have f0 := (K2.below hb2 (by have := HZ.out; omega)).cell 0; have f1 := (K2.below hb2 (by have := HZ.out; omega)).cell 1; have f2 := (K2.below hb2 (by have := HZ.out; omega)).cell 2; have f3 := (K2.below hb2 (by have := HZ.out; omega)).cell 3; have f4 := (K2.below hb2 (by have := HZ.out; omega)).cell 4; obtain ⟨tg, tq, rfl, htg, htc⟩ := (slc_own hown) hbt; have t0 : w2.cell? ⟨tg, tq, none⟩ = some (.string tk.text) := htc 0 _ rfl)
    refine bodyPost_ret (results_blk (p := 6) (u := 7) (ty := 29) (t := 29) (g := w.heap.size + 1 + 1) (cs := bareQ 4 at_ tk.text) ?_ ?_ (blk15 (K3.below hb2 (by have := HZ.out; omega))) Tryz.underlying29 ?_ ?_) ?_ ?_
    · rfl
    · rfl
    · rfl
    · rw [qInfo]; rfl
    · rfl
    · rw [HQ2.out, HB2.out]
      exact isq_bare (k := 4) (f := at_) (t := tk.text) rfl hat htk rfl (below15 (bchain hbW hb2) (Nat.le_succ_of_le (Nat.le_succ _)))
end Go.Proofs.YtkcfgcdlnojaeaaGreatDoor.WordsAny
