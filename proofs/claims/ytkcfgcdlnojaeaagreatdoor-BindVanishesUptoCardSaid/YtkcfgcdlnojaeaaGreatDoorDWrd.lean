/-
  The walk of bind.words over any leaf: keywords, numbers, texts of no token or of one.
  A phrase as it is built: two lists grown side by side in a query's fields.
  The walk of bind.words over a leaf whose text leaves two tokens or more.
-/
import Derived.Test.YtkcfgcdlnojaeaaGreatDoorWordsOne
import Derived.Test.YtkcfgcdlnojaeaaGreatDoorDNodT
import Derived.Test.YtkcfgcdlnojaeaaGreatDoorDSchema
import Derived.Deep.Cut
import Derived.Deep.RegionLawGrows
import Derived.Deep.AppendLies
set_option linter.unusedVariables false
set_option linter.unusedSimpArgs false
namespace Go.Proofs.YtkcfgcdlnojaeaaGreatDoor.WordsAny
set_option maxRecDepth 100000
open Go.RowKit Go.PlainAid Base Query BindBase NodeTerm NodeTree Binder WordPlain WordsWalk StopsWalk OfText OfAny WordsOne NumPlain NumWalk NumTerm OpenField FieldPlain ChainPlain

theorem qfz {w : World} {g : Nat} {t : TypeId} {cs : Array Value} (h : Blk w g t cs) : w.frozen? ⟨g, 0, none⟩ = false ∧ w.frozen? ⟨g, 1, none⟩ = false ∧ w.frozen? ⟨g, 2, none⟩ = false ∧ w.frozen? ⟨g, 3, none⟩ = false ∧ w.frozen? ⟨g, 4, none⟩ = false ∧ w.frozen? ⟨g, 5, none⟩ = false ∧ w.frozen? ⟨g, 6, none⟩ = false ∧ w.frozen? ⟨g, 7, none⟩ = false ∧ w.frozen? ⟨g, 8, none⟩ = false ∧ w.frozen? ⟨g, 9, none⟩ = false ∧ w.frozen? ⟨g, 10, none⟩ = false ∧ w.frozen? ⟨g, 11, none⟩ = false ∧ w.frozen? ⟨g, 12, none⟩ = false ∧ w.frozen? ⟨g, 13, none⟩ = false ∧ w.frozen? ⟨g, 14, none⟩ = false :=
  ⟨h.frozen 0, h.frozen 1, h.frozen 2, h.frozen 3, h.frozen 4, h.frozen 5, h.frozen 6, h.frozen 7, h.frozen 8, h.frozen 9, h.frozen 10, h.frozen 11, h.frozen 12, h.frozen 13, h.frozen 14⟩
theorem blk15 {w : World} {g : Nat} {t : TypeId} {u0 u1 u2 u3 u4 u5 u6 u7 u8 u9 u10 u11 u12 u13 u14 v0 v1 v2 v3 v4 v5 v6 v7 v8 v9 v10 v11 v12 v13 v14 : Value} (h : Blk w g t #[u0, u1, u2, u3, u4, u5, u6, u7, u8, u9, u10, u11, u12, u13, u14]) : Blk (((((((((((((((w.setCell ⟨g, 0, none⟩ v0).setCell ⟨g, 1, none⟩ v1).setCell ⟨g, 2, none⟩ v2).setCell ⟨g, 3, none⟩ v3).setCell ⟨g, 4, none⟩ v4).setCell ⟨g, 5, none⟩ v5).setCell ⟨g, 6, none⟩ v6).setCell ⟨g, 7, none⟩ v7).setCell ⟨g, 8, none⟩ v8).setCell ⟨g, 9, none⟩ v9).setCell ⟨g, 10, none⟩ v10).setCell ⟨g, 11, none⟩ v11).setCell ⟨g, 12, none⟩ v12).setCell ⟨g, 13, none⟩ v13).setCell ⟨g, 14, none⟩ v14) g t #[v0, v1, v2, v3, v4, v5, v6, v7, v8, v9, v10, v11, v12, v13, v14] := by
  have h := (((((((((((((((h.set_ 0 v0).set_ 1 v1).set_ 2 v2).set_ 3 v3).set_ 4 v4).set_ 5 v5).set_ 6 v6).set_ 7 v7).set_ 8 v8).set_ 9 v9).set_ 10 v10).set_ 11 v11).set_ 12 v12).set_ 13 v13).set_ 14 v14)
  simpa using h
theorem below15 {B : Nat} {w0 w : World} {g : Nat} {v0 v1 v2 v3 v4 v5 v6 v7 v8 v9 v10 v11 v12 v13 v14 : Value} (h : Below B w0 w) (hg : B ≤ g) : Below B w0 (((((((((((((((w.setCell ⟨g, 0, none⟩ v0).setCell ⟨g, 1, none⟩ v1).setCell ⟨g, 2, none⟩ v2).setCell ⟨g, 3, none⟩ v3).setCell ⟨g, 4, none⟩ v4).setCell ⟨g, 5, none⟩ v5).setCell ⟨g, 6, none⟩ v6).setCell ⟨g, 7, none⟩ v7).setCell ⟨g, 8, none⟩ v8).setCell ⟨g, 9, none⟩ v9).setCell ⟨g, 10, none⟩ v10).setCell ⟨g, 11, none⟩ v11).setCell ⟨g, 12, none⟩ v12).setCell ⟨g, 13, none⟩ v13).setCell ⟨g, 14, none⟩ v14) :=
  (((((((((((((((h.setCell (p := ⟨g, 0, none⟩) hg v0).setCell (p := ⟨g, 1, none⟩) hg v1).setCell (p := ⟨g, 2, none⟩) hg v2).setCell (p := ⟨g, 3, none⟩) hg v3).setCell (p := ⟨g, 4, none⟩) hg v4).setCell (p := ⟨g, 5, none⟩) hg v5).setCell (p := ⟨g, 6, none⟩) hg v6).setCell (p := ⟨g, 7, none⟩) hg v7).setCell (p := ⟨g, 8, none⟩) hg v8).setCell (p := ⟨g, 9, none⟩) hg v9).setCell (p := ⟨g, 10, none⟩) hg v10).setCell (p := ⟨g, 11, none⟩) hg v11).setCell (p := ⟨g, 12, none⟩) hg v12).setCell (p := ⟨g, 13, none⟩) hg v13).setCell (p := ⟨g, 14, none⟩) hg v14)
theorem none_lit (w : World) : Calls Tryz.prog 51 #[] w fun e w' => e = .returned (.agg #[.int .i64 1, .int .i64 0, .string ⟨#[]⟩, .slice none 0 0, .slice none 0 0, .int .i64 0, .int .u64 0, .bool false, .bool false, .string ⟨#[]⟩, .bool false, .bool false, .string ⟨#[]⟩, .slice none 0 0, .slice none 0 0]) ∧ Below w.heap.size w w' := none_any w
theorem tl_empty (t : ByteArray) : t.toList.isEmpty = (t.size == 0) := by
  have h : t.toList.length = t.size := by rw [ByteArray.toList_eq, Array.length_toList]; rfl
  cases e : t.toList with
  | nil => rw [e] at h; simp at h; rw [← h]; rfl
  | cons a l => rw [e] at h; simp at h; rw [← h]; rfl
theorem term_fit (v : Int) : (termN v).size ≤ maxLen := by
  have e : (termN v).size = (tbytes v 8).length := List.size_toArray ..
  rw [e, tbytes_len]
  unfold maxLen
  omega
theorem thru_size : ∀ (c : List Step) (x : ByteArray), (thru c x).1.size ≤ x.size
  | [], x => by rw [thru_nil]; exact Nat.le_refl _
  | s :: r, x => by
    cases h : (doS s x).2 with
    | true => rw [thru_yes h]; exact Nat.le_trans (thru_size r _) (doS_size s x)
    | false => rw [thru_no h]; exact Nat.zero_le _
theorem of_size {kd : Int} {a b c : Bool} {s : ByteArray} {t : Tok} (h : t ∈ ofT kd a b c s) : t.text.size ≤ s.size + 8 := by
  unfold ofT at h
  split at h
  · unfold textT passed at h
    obtain ⟨u, hu, hp⟩ := List.mem_filterMap.1 h
    obtain ⟨n, hn, e⟩ := List.getElem_of_mem hu
    have h1 := words_text s (k := n) (t := u) (by rw [List.getElem?_eq_getElem hn, e])
    unfold passT at hp
    split at hp
    · obtain rfl := Option.some.inj hp
      have := thru_size (chn a b c) u.text
      simp only [withT]
      omega
    · cases hp
  · split at h
    · split at h
      · obtain rfl := List.mem_singleton.1 h; simp [loneT]
      · cases h
    · split at h
      · split at h
        · obtain rfl := List.mem_singleton.1 h
          rename_i v _
          have e : (termN v).size = (tbytes v 8).length := List.size_toArray ..
          simp only [loneT]
          rw [e, tbytes_len]
          omega
        · cases h
      · cases h
def Fresh (n : Nat) (w' : World) (cs : List Value) (q : Qry) : Prop := ∃ S : Nat → Prop, (∀ k, S k → n ≤ k ∧ k < w'.heap.size ∧ ¬ Blk w' k 29 (bareQ 0 0 ⟨#[]⟩)) ∧ ∀ w'' : World, (∀ k, S k → w''.heap[k]? = w'.heap[k]?) → QVal w'' w'.heap.size cs q
theorem Fresh.val {n : Nat} {w' : World} {cs : List Value} {q : Qry} (h : Fresh n w' cs q) : QVal w' w'.heap.size cs q := by
  obtain ⟨S, _, h⟩ := h
  exact h w' fun _ _ => rfl
theorem Fresh.mono {n n' : Nat} {w' : World} {cs : List Value} {q : Qry} (h : Fresh n w' cs q) (hn : n' ≤ n) : Fresh n' w' cs q := by
  obtain ⟨S, h1, h⟩ := h
  exact ⟨S, fun k hk => ⟨Nat.le_trans hn (h1 k hk).1, (h1 k hk).2.1, (h1 k hk).2.2⟩, h⟩
theorem Fresh.all {n : Nat} {w' : World} {cs : List Value} {q : Qry} (h : ∀ w'' : World, QVal w'' w'.heap.size cs q) : Fresh n w' cs q := ⟨fun _ => False, fun _ h => h.elim, fun w'' _ => h w''⟩
theorem Fresh.keep {n : Nat} {w w' : World} {cs : List Value} {q : Qry} (h : Fresh n w cs q) (hs : w.heap.size ≤ w'.heap.size) (hk : ∀ k, n ≤ k → k < w.heap.size → w'.heap[k]? = w.heap[k]?) : Fresh n w' cs q := by
  obtain ⟨S, h1, h⟩ := h
  exact ⟨S, fun k hk' => ⟨(h1 k hk').1, Nat.lt_of_lt_of_le (h1 k hk').2.1 hs, fun hb => (h1 k hk').2.2 ((hk k (h1 k hk').1 (h1 k hk').2.1).symm.trans hb)⟩, fun w'' hw => (h w'' fun k hk' => (hw k hk').trans (hk k (h1 k hk').1 (h1 k hk').2.1)).mono hs⟩
theorem Fresh.below {n : Nat} {w w' : World} {cs : List Value} {q : Qry} (h : Fresh n w cs q) (hb : Below w.heap.size w w') : Fresh n w' cs q := h.keep hb.size fun k _ hk => hb.block k hk
def IsQ (q : Qry) (b : Bool) (w : World) (e : Ending) (w' : World) : Prop := ∃ cs : List Value, e = .returned (.tuple #[.agg cs.toArray, .bool b]) ∧ Fresh w.heap.size w' cs q ∧ Below w.heap.size w w'
def bnd0 : Bnd := ⟨false, false, ⟨#[]⟩⟩
def bareH (k f : Int) (t : ByteArray) : Head := ⟨k, f, t, [], [], 0, 0, bnd0, bnd0, []⟩
def noneQ : Qry := .mk (bareH 1 0 ⟨#[]⟩) []
def zeroQ : Qry := .mk (bareH 0 0 ⟨#[]⟩) []
def termQ (at_ : Int) (t : ByteArray) : Qry := .mk (bareH 4 at_ t) []
def phraseQ (at_ n : Int) (ts : List Tok) : Qry := .mk ⟨5, at_, ⟨#[]⟩, ts.map Tok.text, ts.map fun t => t.pos - (ts.head?.getD ⟨⟨#[]⟩, 0, 0, 0, 0⟩).pos, n, 0, bnd0, bnd0, []⟩ []
def fitI (x : Int) : Prop := (Lit.int .i64 x).wf = true
theorem bare_val (w : World) (B : Nat) (k f : Int) (t : ByteArray) (hk : fitI k) (hf : fitI f) (ht : t.size ≤ maxLen) : QVal w B (bareQ k f t).toList (.mk (bareH k f t) []) :=
  QVal.mk (bareH k f t) [] none none none none 0 0 0 0 (fun _ => []) ⟨hk, hf, rfl, rfl, (fun _ h => by cases h), (fun _ h => by cases h), ht, (fun _ h => by cases h), Nat.zero_le _, Nat.zero_le _, Nat.zero_le _⟩ (Nat.zero_le _)
    (Slc.nil _) (Slc.nil _) (Slc.nil _) (fun h => absurd rfl h) (fun _ _ h => by cases h)
theorem isq_bare {w w' : World} {k f : Int} {t : ByteArray} {b : Bool} {e : Ending} (hk : fitI k) (hf : fitI f) (ht : t.size ≤ maxLen) (he : e = .returned (.tuple #[.agg (bareQ k f t), .bool b])) (hb : Below w.heap.size w w') : IsQ (.mk (bareH k f t) []) b w e w' :=
  ⟨(bareQ k f t).toList, by rw [he], Fresh.all fun w'' => bare_val w'' _ k f t hk hf ht, hb⟩

set_option maxHeartbeats 2000000 in
theorem words_key (k n at_ : Int) (fn T nm : ByteArray) (R : NRest) (a b c : Bool) (w : World) (hat : fitI at_) (hs : T.size ≤ 2097152) :
    Calls Tryz.prog 88 #[.agg (nodeV k fn T n R), .agg #[.string nm, .int .i64 2, .bool a, .bool b, .bool c], .int .i64 at_] w (IsQ (if T.size = 0 ∨ 64 < T.size then noneQ else termQ at_ T) true w) := by
  obtain ⟨q, hq⟩ : ∃ q, q = (if T.size = 0 ∨ 64 < T.size then noneQ else termQ at_ T) := ⟨_, rfl⟩
  rw [← hq]
  obtain ⟨W3, hW3⟩ : ∃ W, W = ((w.alloc (.cells (nodeV k fn T n R) 39)).alloc (.cells #[.string nm, .int .i64 2, .bool a, .bool b, .bool c] 67)).alloc (.cells (bareQ 0 0 ⟨#[]⟩) 29) := ⟨_, rfl⟩
  have K1 : Blk W3 w.heap.size 39 (nodeV k fn T n R) := by rw [hW3]; exact ((Blk.new w _ _).alloc _).alloc _
  have K2 : Blk W3 (w.heap.size + 1) 67 #[.string nm, .int .i64 2, .bool a, .bool b, .bool c] := by
    rw [hW3]
    have := (Blk.new (w.alloc (.cells (nodeV k fn T n R) 39)) 67 #[.string nm, .int .i64 2, .bool a, .bool b, .bool c]).alloc (.cells (bareQ 0 0 ⟨#[]⟩) 29)
    rwa [World.size_alloc] at this
  have K3 : Blk W3 (w.heap.size + 1 + 1) 29 (bareQ 0 0 ⟨#[]⟩) := by
    rw [hW3]
    have := Blk.new ((w.alloc (.cells (nodeV k fn T n R) 39)).alloc (.cells #[.string nm, .int .i64 2, .bool a, .bool b, .bool c] 67)) 29 (bareQ 0 0 ⟨#[]⟩)
    rwa [World.size_alloc, World.size_alloc] at this
  have hbW : Below w.heap.size w W3 := by rw [hW3]; exact Base.bel
  have hsz : w.heap.size + 3 = W3.heap.size := by rw [hW3]; simp
  have HW := Lib.hid hW3
  have HZ := Lib.hid hsz
  unfold nodeV at K1 HW
  unfold bareQ at K3 HW
  clear hW3 hsz
  unfold nodeV
  go_enter Tryz.func88, Tryz.ntmps88
  go_upto_region 1 with fail
  rw [← HW.out]
  obtain ⟨z0, z1, z2, z3, z4, z5, z6, z7, z8, z9, z10, z11, z12, z13, z14⟩ := qrow (K3.below (Below.refl W3.heap.size W3) (by have := HZ.out; omega)); obtain ⟨y0, y1, y2, y3, y4, y5, y6, y7, y8, y9, y10, y11, y12, y13, y14⟩ := qfz (K3.below (Below.refl W3.heap.size W3) (by have := HZ.out; omega)); have n2 := (K1.below (Below.refl W3.heap.size W3) (by have := HZ.out; omega)).cell 2; have n3 := (K1.below (Below.refl W3.heap.size W3) (by have := HZ.out; omega)).cell 3; have f0 := (K2.below (Below.refl W3.heap.size W3) (by have := HZ.out; omega)).cell 0; have f1 := (K2.below (Below.refl W3.heap.size W3) (by have := HZ.out; omega)).cell 1; have f2 := (K2.below (Below.refl W3.heap.size W3) (by have := HZ.out; omega)).cell 2; have f3 := (K2.below (Below.refl W3.heap.size W3) (by have := HZ.out; omega)).cell 3; have f4 := (K2.below (Below.refl W3.heap.size W3) (by have := HZ.out; omega)).cell 4
  have HQ := Lib.hid hq
  clear hq
  rcases (by omega : T.size = 0 ∨ (T.size ≠ 0 ∧ 64 < T.size) ∨ (T.size ≠ 0 ∧ T.size ≤ 64)) with h0 | ⟨h0, h64⟩ | ⟨h0, h64⟩
  · have HQ2 := Lib.hid (HQ.out.trans (if_pos (Or.inl h0)))
    have e0 : T.toList.isEmpty = true := by rw [tl_empty]; exact beq_iff_eq.2 h0
    clear h0
    go_wp2_with (go_at_call 51; refine (none_lit _).mono ?_; rintro e w2 ⟨rfl, hb2⟩; obtain ⟨z0, z1, z2, z3, z4, z5, z6, z7, z8, z9, z10, z11, z12, z13, z14⟩ := qrow (K3.below hb2 (by have := HZ.out; omega)); obtain ⟨y0, y1, y2, y3, y4, y5, y6, y7, y8, y9, y10, y11, y12, y13, y14⟩ := qfz (K3.below hb2 (by have := HZ.out; omega)); have n2 := (K1.below hb2 (by have := HZ.out; omega)).cell 2; have n3 := (K1.below hb2 (by have := HZ.out; omega)).cell 3; have f0 := (K2.below hb2 (by have := HZ.out; omega)).cell 0; have f1 := (K2.below hb2 (by have := HZ.out; omega)).cell 1; have f2 := (K2.below hb2 (by have := HZ.out; omega)).cell 2; have f3 := (K2.below hb2 (by have := HZ.out; omega)).cell 3; have f4 := (K2.below hb2 (by have := HZ.out; omega)).cell 4)
    refine bodyPost_ret (results_blk (p := 6) (u := 7) (ty := 29) (t := 29) (g := w.heap.size + 1 + 1) (cs := bareQ 1 0 ⟨#[]⟩) ?_ ?_ (blk15 (K3.below hb2 (by have := HZ.out; omega))) Tryz.underlying29 ?_ ?_) ?_ ?_
    · rfl
    · rfl
    · rfl
    · rw [qInfo]; rfl
    · rfl
    · rw [HQ2.out]
      exact isq_bare (k := 1) (f := 0) (t := ⟨#[]⟩) rfl rfl (Nat.zero_le _) rfl (below15 (bchain hbW hb2) (Nat.le_succ_of_le (Nat.le_succ _)))
  · have HQ2 := Lib.hid (HQ.out.trans (if_pos (Or.inr h64)))
    have e0 : T.toList.isEmpty = false := by rw [tl_empty]; exact beq_eq_false_iff_ne.2 h0
    have e1 : decide ((64 : Int) < (T.size : Int)) = true := decide_eq_true (by omega)
    clear h0 h64
    go_wp2_with (go_at_call 51; refine (none_lit _).mono ?_; rintro e w2 ⟨rfl, hb2⟩; obtain ⟨z0, z1, z2, z3, z4, z5, z6, z7, z8, z9, z10, z11, z12, z13, z14⟩ := qrow (K3.below hb2 (by have := HZ.out; omega)); obtain ⟨y0, y1, y2, y3, y4, y5, y6, y7, y8, y9, y10, y11, y12, y13, y14⟩ := qfz (K3.below hb2 (by have := HZ.out; omega)); have n2 := (K1.below hb2 (by have := HZ.out; omega)).cell 2; have n3 := (K1.below hb2 (by have := HZ.out; omega)).cell 3; have f0 := (K2.below hb2 (by have := HZ.out; omega)).cell 0; have f1 := (K2.below hb2 (by have := HZ.out; omega)).cell 1; have f2 := (K2.below hb2 (by have := HZ.out; omega)).cell 2; have f3 := (K2.below hb2 (by have := HZ.out; omega)).cell 3; have f4 := (K2.below hb2 (by have := HZ.out; omega)).cell 4)
    refine bodyPost_ret (results_blk (p := 6) (u := 7) (ty := 29) (t := 29) (g := w.heap.size + 1 + 1) (cs := bareQ 1 0 ⟨#[]⟩) ?_ ?_ (blk15 (K3.below hb2 (by have := HZ.out; omega))) Tryz.underlying29 ?_ ?_) ?_ ?_
    · rfl
    · rfl
    · rfl
    · rw [qInfo]; rfl
    · rfl
    · rw [HQ2.out]
      exact isq_bare (k := 1) (f := 0) (t := ⟨#[]⟩) rfl rfl (Nat.zero_le _) rfl (below15 (bchain hbW hb2) (Nat.le_succ_of_le (Nat.le_succ _)))
  · have HQ2 := Lib.hid (HQ.out.trans (if_neg (by omega)))
    have e0 : T.toList.isEmpty = false := by rw [tl_empty]; exact beq_eq_false_iff_ne.2 h0
    have e1 : decide ((64 : Int) < (T.size : Int)) = false := decide_eq_false (by omega)
    clear h0 h64
    go_wp2_with fail
    refine bodyPost_ret (results_blk (p := 6) (u := 7) (ty := 29) (t := 29) (g := w.heap.size + 1 + 1) (cs := bareQ 4 at_ T) ?_ ?_ (blk15 K3) Tryz.underlying29 ?_ ?_) ?_ ?_
    · rfl
    · rfl
    · rfl
    · rw [qInfo]; rfl
    · rfl
    · rw [HQ2.out]
      exact isq_bare (k := 4) (f := at_) (t := T) rfl hat (by unfold maxLen; omega) rfl (below15 hbW (Nat.le_succ_of_le (Nat.le_succ _)))

set_option maxHeartbeats 2000000 in
theorem words_num (k n at_ : Int) (fn T nm : ByteArray) (R : NRest) (a b c : Bool) (w : World) (hat : fitI at_) (hs : T.size ≤ 2097152) :
    Calls Tryz.prog 88 #[.agg (nodeV k fn T n R), .agg #[.string nm, .int .i64 3, .bool a, .bool b, .bool c], .int .i64 at_] w (IsQ (match parseN T with | none => noneQ | some v => termQ at_ (termN v)) true w) := by
  have PN := Lib.hid (fun W => NumWalk.parse_any T W (by omega))
  have hr : ∀ v, parseN T = some v → least ≤ v ∧ v ≤ 9223372036854775807 := fun v h => parse_bd h
  obtain ⟨p, hp⟩ : ∃ p, p = parseN T := ⟨_, rfl⟩
  rw [← hp] at PN hr ⊢
  clear hp
  obtain ⟨q, hq⟩ : ∃ q, q = (match p with | none => noneQ | some v => termQ at_ (termN v)) := ⟨_, rfl⟩
  rw [← hq]
  have HQ := Lib.hid hq
  clear hq
  obtain ⟨W3, hW3⟩ : ∃ W, W = ((w.alloc (.cells (nodeV k fn T n R) 39)).alloc (.cells #[.string nm, .int .i64 3, .bool a, .bool b, .bool c] 67)).alloc (.cells (bareQ 0 0 ⟨#[]⟩) 29) := ⟨_, rfl⟩
  have K1 : Blk W3 w.heap.size 39 (nodeV k fn T n R) := by rw [hW3]; exact ((Blk.new w _ _).alloc _).alloc _
  have K2 : Blk W3 (w.heap.size + 1) 67 #[.string nm, .int .i64 3, .bool a, .bool b, .bool c] := by
    rw [hW3]
    have := (Blk.new (w.alloc (.cells (nodeV k fn T n R) 39)) 67 #[.string nm, .int .i64 3, .bool a, .bool b, .bool c]).alloc (.cells (bareQ 0 0 ⟨#[]⟩) 29)
    rwa [World.size_alloc] at this
  have K3 : Blk W3 (w.heap.size + 1 + 1) 29 (bareQ 0 0 ⟨#[]⟩) := by
    rw [hW3]
    have := Blk.new ((w.alloc (.cells (nodeV k fn T n R) 39)).alloc (.cells #[.string nm, .int .i64 3, .bool a, .bool b, .bool c] 67)) 29 (bareQ 0 0 ⟨#[]⟩)
    rwa [World.size_alloc, World.size_alloc] at this
  have hbW : Below w.heap.size w W3 := by rw [hW3]; exact Base.bel
  have hsz : w.heap.size + 3 = W3.heap.size := by rw [hW3]; simp
  have HW := Lib.hid hW3
  have HZ := Lib.hid hsz
  unfold nodeV at K1 HW
  unfold bareQ at K3 HW
  clear hW3 hsz
  unfold nodeV
  go_enter Tryz.func88, Tryz.ntmps88
  go_upto_region 1 with fail
  rw [← HW.out]
  obtain ⟨z0, z1, z2, z3, z4, z5, z6, z7, z8, z9, z10, z11, z12, z13, z14⟩ := qrow (K3.below (Below.refl W3.heap.size W3) (by have := HZ.out; omega)); obtain ⟨y0, y1, y2, y3, y4, y5, y6, y7, y8, y9, y10, y11, y12, y13, y14⟩ := qfz (K3.below (Below.refl W3.heap.size W3) (by have := HZ.out; omega)); have n2 := (K1.below (Below.refl W3.heap.size W3) (by have := HZ.out; omega)).cell 2; have n3 := (K1.below (Below.refl W3.heap.size W3) (by have := HZ.out; omega)).cell 3; have f0 := (K2.below (Below.refl W3.heap.size W3) (by have := HZ.out; omega)).cell 0; have f1 := (K2.below (Below.refl W3.heap.size W3) (by have := HZ.out; omega)).cell 1; have f2 := (K2.below (Below.refl W3.heap.size W3) (by have := HZ.out; omega)).cell 2; have f3 := (K2.below (Below.refl W3.heap.size W3) (by have := HZ.out; omega)).cell 3; have f4 := (K2.below (Below.refl W3.heap.size W3) (by have := HZ.out; omega)).cell 4
  cases p with
  | none =>
    have HQ2 := Lib.hid (HQ.out : q = noneQ)
    simp only [numV, Option.getD_none, Option.isSome_none] at PN
    go_wp2_with (first | (go_at_call 39; refine (PN.out _).mono ?_; rintro e wp ⟨rfl, hwp⟩; obtain rfl : W3 = wp := hwp.symm) | (go_at_call 51; refine (none_lit _).mono ?_; rintro e w2 ⟨rfl, hb2⟩; obtain ⟨z0, z1, z2, z3, z4, z5, z6, z7, z8, z9, z10, z11, z12, z13, z14⟩ := qrow (K3.below hb2 (by have := HZ.out; omega)); obtain ⟨y0, y1, y2, y3, y4, y5, y6, y7, y8, y9, y10, y11, y12, y13, y14⟩ := qfz (K3.below hb2 (by have := HZ.out; omega)); have n2 := (K1.below hb2 (by have := HZ.out; omega)).cell 2; have n3 := (K1.below hb2 (by have := HZ.out; omega)).cell 3; have f0 := (K2.below hb2 (by have := HZ.out; omega)).cell 0; have f1 := (K2.below hb2 (by have := HZ.out; omega)).cell 1; have f2 := (K2.below hb2 (by have := HZ.out; omega)).cell 2; have f3 := (K2.below hb2 (by have := HZ.out; omega)).cell 3; have f4 := (K2.below hb2 (by have := HZ.out; omega)).cell 4))
    refine bodyPost_ret (results_blk (p := 6) (u := 7) (ty := 29) (t := 29) (g := w.heap.size + 1 + 1) (cs := bareQ 1 0 ⟨#[]⟩) ?_ ?_ (blk15 (K3.below hb2 (by have := HZ.out; omega))) Tryz.underlying29 ?_ ?_) ?_ ?_
    · rfl
    · rfl
    · rfl
    · rw [qInfo]; rfl
    · rfl
    · rw [HQ2.out]
      exact isq_bare (k := 1) (f := 0) (t := ⟨#[]⟩) rfl rfl (Nat.zero_le _) rfl (below15 (bchain hbW hb2) (Nat.le_succ_of_le (Nat.le_succ _)))
  | some v =>
    obtain ⟨v1, v2⟩ := hr v rfl
    have HQ2 := Lib.hid (HQ.out : q = termQ at_ (termN v))
    have hnt : (termN v).size ≤ maxLen := term_fit v
    simp only [numV, Option.getD_some, Option.isSome_some] at PN
    go_wp2_with (first | (go_at_call 39; refine (PN.out _).mono ?_; rintro e wp ⟨rfl, hwp⟩; obtain rfl : W3 = wp := hwp.symm) | (go_at_call 40; refine (NumTerm.term_any v _ v1 v2).mono ?_; rintro e w2 ⟨rfl, hb2⟩; obtain ⟨z0, z1, z2, z3, z4, z5, z6, z7, z8, z9, z10, z11, z12, z13, z14⟩ := qrow (K3.below hb2 (by have := HZ.out; omega)); obtain ⟨y0, y1, y2, y3, y4, y5, y6, y7, y8, y9, y10, y11, y12, y13, y14⟩ := qfz (K3.below hb2 (by have := HZ.out; omega)); have n2 := (K1.below hb2 (by have := HZ.out; omega)).cell 2; have n3 := (K1.below hb2 (by have := HZ.out; omega)).cell 3; have f0 := (K2.below hb2 (by have := HZ.out; omega)).cell 0; have f1 := (K2.below hb2 (by have := HZ.out; omega)).cell 1; have f2 := (K2.below hb2 (by have := HZ.out; omega)).cell 2; have f3 := (K2.below hb2 (by have := HZ.out; omega)).cell 3; have f4 := (K2.below hb2 (by have := HZ.out; omega)).cell 4))
    refine bodyPost_ret (results_blk (p := 6) (u := 7) (ty := 29) (t := 29) (g := w.heap.size + 1 + 1) (cs := bareQ 4 at_ (termN v)) ?_ ?_ (blk15 (K3.below hb2 (by have := HZ.out; omega))) Tryz.underlying29 ?_ ?_) ?_ ?_
    · rfl
    · rfl
    · rfl
    · rw [qInfo]; rfl
    · rfl
    · rw [HQ2.out]
      exact isq_bare (k := 4) (f := at_) (t := termN v) rfl hat hnt rfl (below15 (bchain hbW hb2) (Nat.le_succ_of_le (Nat.le_succ _)))

set_option maxHeartbeats 2000000 in
theorem words_few (kd : Int) (k n at_ : Int) (fn T nm : ByteArray) (R : NRest) (a b c : Bool) (w : World) (hat : fitI at_) (hs : T.size ≤ 2097152) (hk2 : kd ≠ 2) (hk3 : kd ≠ 3) (ht : Tab w) (h0 : 3 < w.heap.size) (hof : (ofT kd a b c T).length ≤ 1) :
    Calls Tryz.prog 88 #[.agg (nodeV k fn T n R), .agg #[.string nm, .int .i64 kd, .bool a, .bool b, .bool c], .int .i64 at_] w (IsQ (match ofT kd a b c T with | [] => zeroQ | t :: _ => termQ at_ t.text) (match ofT kd a b c T with | [] => false | _ => true) w) := by
  obtain ⟨ts, hts⟩ : ∃ ts, ts = ofT kd a b c T := ⟨_, rfl⟩
  have OA := Lib.hid (fun W (hW : Below w.heap.size w W) => of_any nm kd a b c T W (by omega) (tab_below ht hW h0) (Nat.lt_of_lt_of_le h0 hW.size))
  have hsz := fun t (ht : t ∈ ofT kd a b c T) => of_size ht
  rw [← hts] at OA hof hsz ⊢
  clear hts
  obtain ⟨q, hq⟩ : ∃ q, q = (match ts with | [] => zeroQ | t :: _ => termQ at_ t.text) := ⟨_, rfl⟩
  obtain ⟨bb, hbb⟩ : ∃ x, x = (match ts with | [] => false | _ => true) := ⟨_, rfl⟩
  rw [← hq, ← hbb]
  have HQ := Lib.hid hq
  have HB := Lib.hid hbb
  clear hq hbb
  obtain ⟨W3, hW3⟩ : ∃ W, W = ((w.alloc (.cells (nodeV k fn T n R) 39)).alloc (.cells #[.string nm, .int .i64 kd, .bool a, .bool b, .bool c] 67)).alloc (.cells (bareQ 0 0 ⟨#[]⟩) 29) := ⟨_, rfl⟩
  have K1 : Blk W3 w.heap.size 39 (nodeV k fn T n R) := by rw [hW3]; exact ((Blk.new w _ _).alloc _).alloc _
  have K2 : Blk W3 (w.heap.size + 1) 67 #[.string nm, .int .i64 kd, .bool a, .bool b, .bool c] := by
    rw [hW3]
    have := (Blk.new (w.alloc (.cells (nodeV k fn T n R) 39)) 67 #[.string nm, .int .i64 kd, .bool a, .bool b, .bool c]).alloc (.cells (bareQ 0 0 ⟨#[]⟩) 29)
    rwa [World.size_alloc] at this
  have K3 : Blk W3 (w.heap.size + 1 + 1) 29 (bareQ 0 0 ⟨#[]⟩) := by
    rw [hW3]
    have := Blk.new ((w.alloc (.cells (nodeV k fn T n R) 39)).alloc (.cells #[.string nm, .int .i64 kd, .bool a, .bool b, .bool c] 67)) 29 (bareQ 0 0 ⟨#[]⟩)
    rwa [World.size_alloc, World.size_alloc] at this
  have hbW : Below w.heap.size w W3 := by rw [hW3]; exact Base.bel
  have hsz : w.heap.size + 3 = W3.heap.size := by rw [hW3]; simp
  have HW := Lib.hid hW3
  have HZ := Lib.hid hsz
  unfold nodeV at K1 HW
  unfold bareQ at K3 HW
  clear hW3 hsz
  unfold nodeV
  go_enter Tryz.func88, Tryz.ntmps88
  go_upto_region 1 with fail
  rw [← HW.out]
  obtain ⟨z0, z1, z2, z3, z4, z5, z6, z7, z8, z9, z10, z11, z12, z13, z14⟩ := qrow (K3.below (Below.refl W3.heap.size W3) (by have := HZ.out; omega)); obtain ⟨y0, y1, y2, y3, y4, y5, y6, y7, y8, y9, y10, y11, y12, y13, y14⟩ := qfz (K3.below (Below.refl W3.heap.size W3) (by have := HZ.out; omega)); have n2 := (K1.below (Below.refl W3.heap.size W3) (by have := HZ.out; omega)).cell 2; have n3 := (K1.below (Below.refl W3.heap.size W3) (by have := HZ.out; omega)).cell 3; have f0 := (K2.below (Below.refl W3.heap.size W3) (by have := HZ.out; omega)).cell 0; have f1 := (K2.below (Below.refl W3.heap.size W3) (by have := HZ.out; omega)).cell 1; have f2 := (K2.below (Below.refl W3.heap.size W3) (by have := HZ.out; omega)).cell 2; have f3 := (K2.below (Below.refl W3.heap.size W3) (by have := HZ.out; omega)).cell 3; have f4 := (K2.below (Below.refl W3.heap.size W3) (by have := HZ.out; omega)).cell 4
  have d2 : (kd == 2) = false := beq_eq_false_iff_ne.2 hk2
  have d3 : (kd == 3) = false := beq_eq_false_iff_ne.2 hk3
  match ts, hof, OA, hsz, HQ, HB with
  | [], _, OA, _, HQ, HB =>
    have HQ2 := Lib.hid (HQ.out : q = zeroQ)
    have HB2 := Lib.hid (HB.out : bb = false)
    go_wp2_with (go_at_call 35; refine (OA.out _ hbW).mono ?_; rintro e w2 ⟨A2, c2, rfl, hown, hb2⟩; obtain ⟨z0, z1, z2, z3, z4, z5, z6, z7, z8, z9, z10, z11, z12, z13, z14⟩ := qrow (K3.below hb2 (by have := HZ.out; omega)); obtain ⟨y0, y1, y2, y3, y4, y5, y6, y7, y8, y9, y10, y11, y12, y13, y14⟩ := qfz (K3.below hb2 (by have := HZ.out; omega)); have n2 := (K1.below hb2 (by have := HZ.out; omega)).cell 2; have n3 := (K1.below hb2 (by have := HZ.out; omega)).cell 3; have f0 := (K2.below hb2 (by have := HZ.out; omega)).cell 0; have f1 := (K2.below hb2 (by have := HZ.out; omega)).cell 1; have f2 := (K2.below hb2 (by have := HZ.out; omega)).cell 2; have f3 := (K2.below hb2 (by have := HZ.out; omega)).cell 3; have f4 := (K2.below hb2 (by have := HZ.out; omega)).cell 4)
    refine bodyPost_ret (results_blk (p := 6) (u := 7) (ty := 29) (t := 29) (g := w.heap.size + 1 + 1) (cs := bareQ 0 0 ⟨#[]⟩) ?_ ?_ (blk15 (K3.below hb2 (by have := HZ.out; omega))) Tryz.underlying29 ?_ ?_) ?_ ?_
    · rfl
    · rfl
    · rfl
    · rw [qInfo]; rfl
    · rfl
    · rw [HQ2.out, HB2.out]
      exact isq_bare (k := 0) (f := 0) (t := ⟨#[]⟩) rfl rfl (Nat.zero_le _) rfl (below15 (bchain hbW hb2) (Nat.le_succ_of_le (Nat.le_succ _)))
  | [tk], _, OA, hsz, HQ, HB =>
    have HQ2 := Lib.hid (HQ.out : q = termQ at_ tk.text)
    have HB2 := Lib.hid (HB.out : bb = true)
    have htk : tk.text.size ≤ maxLen := by have := hsz tk (List.mem_singleton.2 rfl); unfold maxLen; omega
    have hbt : tokCells [tk] ≠ [] := by simp [tokCells, tokC]
    go_wp2_with (go_at_call 35; refine (OA.out _ hbW).mono ?_; rintro e w2 ⟨A2, c2, rfl, hown, hb2⟩; obtain ⟨z0, z1, z2, z3, z4, z5, z6, z7, z8, z9, z10, z11, z12, z13, z14⟩ := qrow (K3.below hb2 (by have := HZ.out; omega)); obtain ⟨y0, y1, y2, y3, y4, y5, y6, y7, y8, y9, y10, y11, y12, y13, y14⟩ := qfz (K3.below hb2 (by have := HZ.out; omega)); have n2 := (K1.below hb2 (by have := HZ.out; omega)).cell 2; have n3 := (K1.below hb2 (by have := HZ.out; omega)).cell 3; have f0 := (K2.below hb2 (by have := HZ.out; omega)).cell 0; have f1 := (K2.below hb2 (by have := HZ.out; omega)).cell 1; have f2 := (K2.below hb2 (by have := HZ.out; omega)).cell 2; have f3 := (K2.below hb2 (by have := HZ.out; omega)).cell 3; have f4 := (K2.below hb2 (by have := HZ.out; omega)).cell 4; obtain ⟨tg, tq, rfl, htg, htc⟩ := (slc_own hown) hbt; have t0 : w2.cell? ⟨tg, tq, none⟩ = some (.string tk.text) := htc 0 _ rfl)
    refine bodyPost_ret (results_blk (p := 6) (u := 7) (ty := 29) (t := 29) (g := w.heap.size + 1 + 1) (cs := bareQ 4 at_ tk.text) ?_ ?_ (blk15 (K3.below hb2 (by have := HZ.out; omega))) Tryz.underlying29 ?_ ?_) ?_ ?_
    · rfl
    · rfl
    · rfl
    · rw [qInfo]; rfl
    · rfl
    · rw [HQ2.out, HB2.out]
      exact isq_bare (k := 4) (f := at_) (t := tk.text) rfl hat htk rfl (below15 (bchain hbW hb2) (Nat.le_succ_of_le (Nat.le_succ _)))
end Go.Proofs.YtkcfgcdlnojaeaaGreatDoor.WordsAny

namespace Go.Proofs.YtkcfgcdlnojaeaaGreatDoor.PhraseBase
set_option maxRecDepth 100000
open Go.RowKit Go.PlainAid Base Query BindBase WordPlain OfText WordsAny

theorem own_lower {w : World} {B B' size n : Nat} {e : TypeId} {v : Value} {xs : List Value} (h : w.ownsRow B e size v n xs) (hB : B' ≤ B) : w.ownsRow B' e size v n xs := by
  refine ⟨h.1, ?_⟩
  rcases h.2 with h' | ⟨g, cap, cur, h1, h2, h3⟩
  · exact .inl h'
  · exact .inr ⟨g, cap, cur, h1, Nat.le_trans hB h2, h3⟩
theorem step_append_kept {P : Program} {ops : Array Oper} {o : Oper} {a : Act} {w : World} {K : Act → World → Prop} {Q : Exit → Act → World → Prop} {E : Prop} (hgd : o.guard = none) (s x : Operand) (t : TypeId)
    (ho : o.op = .call { callee := .builtin .append, args := #[s, x], argTypes := #[t, t] })
    (base : Nat) (e : TypeId) (i : TypeInfo) (z : Value) (size bytes : Nat) (ht : P.underlying t = some (.slice e)) (hi : P.info? e = some i) (hz : i.zero = some z)
    (hsize : i.size = size) (hby : i.bytes = bytes) (hzs : z.cells.size = size) (hsz : 0 < size)
    (v : Value) (n : Nat) (xs : List Value) (hs : a.eval s = v) (hown : w.ownsRow base e size v n xs)
    (ad : Addr) (m c : Nat) (news : List Value) (hx : a.eval x = .slice (some ad) m c) (hl : news.length = m * size) (hnews : ∀ j u, news[j]? = some u → w.cell? (ad.add j) = some u) (h1 : ∀ u ∈ news, u.oneCell' = true)
    (hm : 0 < m) (h63 : n + m ≤ maxLen) (hbytes : (n + m) * bytes ≤ 140737488355328) (hbase : base ≤ w.heap.size)
    (h : ∀ g cap w', w'.ownsRow base e size (.slice (some ⟨g, 0, none⟩) (n + m) cap) (n + m) (xs ++ news) → ((v.ownBlock = some g ∧ w.grownBy w' (some g)) ∨ (w.heap.size ≤ g ∧ w.grownBy w' none)) → K (a.put o.dst (.slice (some ⟨g, 0, none⟩) (n + m) cap)) w') :
    if Region.wanted o (yielded ops a.tmps) = true then Oper.wp P o a w K Q else E := by
  have hlen := hown.1
  have low : ∀ {v' : Value} {w' : World}, w'.ownsRow w.heap.size e size v' (n + m) (xs ++ news) → w.grownBy w' none → K (a.put o.dst v') w' := fun {v' w'} h2 h3 => by
    obtain ⟨g, cap, rfl, hg, _⟩ := h2.form (by omega)
    exact h g cap w' (own_lower h2 hbase) (.inr ⟨hg, h3⟩)
  rcases hown.2 with ⟨rfl, rfl⟩ | ⟨g, cap, cur, rfl, hbg, hg, hnc, hcm, hcs, htk⟩
  · have : xs = [] := List.length_eq_zero_iff.1 (by simpa using hlen)
    subst this
    exact step_append_grows hgd s x t ho e i z size bytes ht hi hz hsize hby hzs hsz none 0 0 [] hs (fun _ => ⟨rfl, rfl⟩) (by simp) (fun b hb => by cases hb) ad m c news hx hl hnews h1 (by omega) (by omega) hbytes (fun v' w' h2 h3 => low h2 h3)
  · by_cases hroom : n + m ≤ cap
    · have hw : Region.wanted o (yielded ops a.tmps) = true := by simp [Region.wanted, hgd]
      rw [if_pos hw]
      obtain ⟨w', hrun, r1, r2⟩ := run_append_fits (P := P) (w := w) base t o.type e i size ht hi hsize g n cap xs hown ad m c news hl hnews h1 hroom
      unfold Oper.wp execOp
      simp only [ho, resolve, invoke, builtin, Sem.run_bind, Sem.run_pure, Result.andThen_ok, List.map_toArray, List.map_cons, List.map_nil, hs, hx, hrun]
      exact h g cap w' r1 (.inl ⟨rfl, r2⟩)
    · exact step_append_grows hgd s x t ho e i z size bytes ht hi hz hsize hby hzs hsz (some ⟨g, 0, none⟩) n cap xs hs (fun hn => by cases hn) hlen
        (fun b hb j u hu => by
          cases hb
          have := hown.cells (g := g) rfl j u hu
          exact this) ad m c news hx hl hnews h1 (by omega) h63 hbytes (fun v' w' h2 h3 => low h2 h3)

theorem own_setFar {w : World} {base size n : Nat} {e : TypeId} {v : Value} {xs : List Value} (h : w.ownsRow base e size v n xs) {p : Addr} (hp : v.ownBlock ≠ some p.block) (u : Value) : (w.setCell p u).ownsRow base e size v n xs :=
  h.kept (row := some p.block) ⟨rfl, rfl, rfl, by simp, fun k _ hk => Below.heap_setCell w p u k (fun e => hk (by rw [e]))⟩ (.inr hp)
theorem own_far {w : World} {base size n : Nat} {e : TypeId} {v : Value} {xs : List Value} (h : w.ownsRow base e size v n xs) {k : Nat} (hk : k < base) : v.ownBlock ≠ some k := fun e => by have := (h.lt k e).1; omega
theorem rows_apart {w : World} {B B' s s' n n' : Nat} {e e' : TypeId} {v v' : Value} {xs ys : List Value} (h : w.ownsRow B e s v n xs) (h' : w.ownsRow B' e' s' v' n' ys) (hne : e ≠ e') : v'.ownBlock = none ∨ v'.ownBlock ≠ v.ownBlock := by
  rcases h'.2 with ⟨rfl, _⟩ | ⟨g', cap', cur', rfl, _, hg', _⟩
  · exact .inl rfl
  · refine .inr fun hk => ?_
    rcases h.2 with ⟨rfl, _⟩ | ⟨g, cap, cur, rfl, _, hg, _⟩
    · simp [Value.ownBlock] at hk
    · simp only [Value.ownBlock, Option.some.injEq] at hk
      subst hk
      rw [hg'] at hg
      exact hne (Obj.cells.inj (Option.some.inj hg)).2.1.symm
theorem strEl : Elem Tryz.prog 22 9 (.string ByteArray.empty) 1 16 := .mk_ (by kernel_rfl) (by kernel_rfl) rfl (by decide)
theorem intEl : Elem Tryz.prog 23 3 (.int .i64 0) 1 8 := .mk_ (by kernel_rfl) (by kernel_rfl) rfl (by decide)
def texts (ts : List Tok) : List ByteArray := ts.map Tok.text
def gaps (ts : List Tok) : List Int := ts.map fun t => t.pos - (ts.head?.getD ⟨⟨#[]⟩, 0, 0, 0, 0⟩).pos
theorem texts_take {ts : List Tok} {k : Nat} {t : Tok} (h : ts[k]? = some t) : strs ((texts ts).take (k + 1)) = strs ((texts ts).take k) ++ [.string t.text] := by
  rw [List.take_add_one]
  simp [texts, strs, h]
theorem gaps_take {ts : List Tok} {k : Nat} {t t0 : Tok} {r : List Tok} (h : ts[k]? = some t) (h0 : ts = t0 :: r) : ints ((gaps ts).take (k + 1)) = ints ((gaps ts).take k) ++ [.int .i64 (t.pos - t0.pos)] := by
  rw [List.take_add_one]
  simp only [gaps, List.getElem?_map, h]
  rw [show ts.head? = some t0 by rw [h0]; rfl]
  simp [ints]
def phC (at_ n : Int) (v1 v2 : Value) : Array Value := #[.int .i64 5, .int .i64 at_, .string ⟨#[]⟩, v1, v2, .int .i64 n, .int .u64 0, .bool false, .bool false, .string ⟨#[]⟩, .bool false, .bool false, .string ⟨#[]⟩, .slice none 0 0, .slice none 0 0]
structure Ph (wS wr : World) (at_ n : Int) (ts : List Tok) (k : Nat) (v1 v2 : Value) : Prop where
  bel : Below wS.heap.size wS wr
  lt : wS.heap.size + 1 ≤ wr.heap.size
  blk : Blk wr wS.heap.size 29 (phC at_ n v1 v2)
  own1 : wr.ownsRow (wS.heap.size + 1) 9 1 v1 k (strs ((texts ts).take k))
  own2 : wr.ownsRow (wS.heap.size + 1) 3 1 v2 k (ints ((gaps ts).take k))
section
variable {wS wr : World} {at_ n : Int} {ts : List Tok} {k : Nat} {v1 v2 : Value}
theorem Ph.start (wS : World) (at_ n : Int) (ts : List Tok) : Ph wS (wS.alloc (.cells (phC at_ n (.slice none 0 0) (.slice none 0 0)) 29)) at_ n ts 0 (.slice none 0 0) (.slice none 0 0) :=
  ⟨by exact Base.bel, by simp, Blk.new wS _ _, World.ownsRow_nil _ _ _ _, World.ownsRow_nil _ _ _ _⟩
theorem Ph.alloc (h : Ph wS wr at_ n ts k v1 v2) (o : Obj) : Ph wS (wr.alloc o) at_ n ts k v1 v2 :=
  ⟨h.bel.alloc (by have := h.lt; omega) o, by have := h.lt; simp; omega, h.blk.alloc o, h.own1.alloc o, h.own2.alloc o⟩
theorem Ph.drew (h : Ph wS wr at_ n ts k v1 v2) : Ph wS wr.drew at_ n ts k v1 v2 := ⟨h.bel.drew, h.lt, h.blk, h.own1, h.own2⟩
theorem Ph.text {w5 : World} {v1' : Value} {t : Tok} (h : Ph wS wr at_ n ts k v1 v2) (ht : ts[k]? = some t) (ho : w5.ownsRow (wS.heap.size + 1) 9 1 v1' (k + 1) (strs ((texts ts).take k) ++ [.string t.text])) (hg : wr.grownBy w5 v1.ownBlock) :
    Below wS.heap.size wS w5 ∧ wS.heap.size + 1 ≤ w5.heap.size ∧ Blk w5 wS.heap.size 29 (phC at_ n v1 v2) ∧ w5.ownsRow (wS.heap.size + 1) 9 1 v1' (k + 1) (strs ((texts ts).take (k + 1))) ∧ w5.ownsRow (wS.heap.size + 1) 3 1 v2 k (ints ((gaps ts).take k)) := by
  have hs := h.lt
  refine ⟨below_own h.bel (own_lower h.own1 (Nat.le_succ _)) (by omega) hg, Nat.le_trans hs hg.size, h.blk.grown hg fun e => own_far h.own1 (Nat.lt_succ_self _) e.symm, ?_, h.own2.kept hg (rows_apart h.own1 h.own2 (by decide))⟩
  rw [texts_take ht]
  exact ho
structure Mid (wS wr : World) (at_ n : Int) (ts : List Tok) (k : Nat) (v1 v2 : Value) : Prop where
  bel : Below wS.heap.size wS wr
  lt : wS.heap.size + 1 ≤ wr.heap.size
  blk : Blk wr wS.heap.size 29 (phC at_ n v1 v2)
  own1 : wr.ownsRow (wS.heap.size + 1) 9 1 v1 (k + 1) (strs ((texts ts).take (k + 1)))
  own2 : wr.ownsRow (wS.heap.size + 1) 3 1 v2 k (ints ((gaps ts).take k))
theorem Mid.alloc (h : Mid wS wr at_ n ts k v1 v2) (o : Obj) : Mid wS (wr.alloc o) at_ n ts k v1 v2 :=
  ⟨h.bel.alloc (by have := h.lt; omega) o, by have := h.lt; simp; omega, h.blk.alloc o, h.own1.alloc o, h.own2.alloc o⟩
theorem Mid.drew (h : Mid wS wr at_ n ts k v1 v2) : Mid wS wr.drew at_ n ts k v1 v2 := ⟨h.bel.drew, h.lt, h.blk, h.own1, h.own2⟩
theorem Mid.of {w5 W6 : World} {v1' : Value} (hw : W6 = w5.setCell ⟨wS.heap.size, 3, none⟩ v1') (b5 : Below wS.heap.size wS w5) (s5 : wS.heap.size + 1 ≤ w5.heap.size) (K5 : Blk w5 wS.heap.size 29 (phC at_ n v1 v2)) (o1 : w5.ownsRow (wS.heap.size + 1) 9 1 v1' (k + 1) (strs ((texts ts).take (k + 1)))) (o2 : w5.ownsRow (wS.heap.size + 1) 3 1 v2 k (ints ((gaps ts).take k))) : Mid wS W6 at_ n ts k v1' v2 := by
  subst hw
  refine ⟨b5.setCell (p := ⟨wS.heap.size, 3, none⟩) (Nat.le_refl _) _, by simpa using s5, ?_, own_setFar o1 (p := ⟨wS.heap.size, 3, none⟩) (own_far o1 (Nat.lt_succ_self _)) _, own_setFar o2 (p := ⟨wS.heap.size, 3, none⟩) (own_far o2 (Nat.lt_succ_self _)) _⟩
  have := K5.set_ 3 v1'
  simpa [phC] using this
theorem Mid.grow {w7 : World} {gg cap : Nat} {t t0 : Tok} {r : List Tok} (h : Mid wS wr at_ n ts k v1 v2) (ht : ts[k]? = some t) (h0 : ts = t0 :: r)
    (ho : w7.ownsRow (wS.heap.size + 1) 3 1 (.slice (some ⟨gg, 0, none⟩) (k + 1) cap) (k + 1) (ints ((gaps ts).take k) ++ [.int .i64 (t.pos - t0.pos)])) (hat : (v2.ownBlock = some gg ∧ wr.grownBy w7 (some gg)) ∨ (wr.heap.size ≤ gg ∧ wr.grownBy w7 none)) :
    Below wS.heap.size wS w7 ∧ wS.heap.size + 1 ≤ w7.heap.size ∧ Blk w7 wS.heap.size 29 (phC at_ n v1 v2) ∧ w7.ownsRow (wS.heap.size + 1) 9 1 v1 (k + 1) (strs ((texts ts).take (k + 1))) ∧
      w7.ownsRow (wS.heap.size + 1) 3 1 (.slice (some ⟨gg, 0, none⟩) (k + 1) cap) (k + 1) (ints ((gaps ts).take (k + 1))) := by
  have hs := h.lt
  rw [gaps_take ht h0]
  rcases hat with ⟨e, hg⟩ | ⟨_, hg⟩
  · rw [← e] at hg
    exact ⟨below_own h.bel (own_lower h.own2 (Nat.le_succ _)) (by omega) hg, Nat.le_trans hs hg.size, h.blk.grown hg fun e => own_far h.own2 (Nat.lt_succ_self _) e.symm, h.own1.kept hg (rows_apart h.own2 h.own1 (by decide)), ho⟩
  · refine ⟨below_own h.bel (World.ownsRow_nil wr wS.heap.size 3 1) (by omega) hg, Nat.le_trans hs hg.size, h.blk.grown hg (by simp), h.own1.kept hg ?_, ho⟩
    cases e : v1.ownBlock with
    | none => exact .inl rfl
    | some k => exact .inr (by simp)
theorem Ph.of {w7 : World} {v2' : Value} (b : Below wS.heap.size wS w7) (s : wS.heap.size + 1 ≤ w7.heap.size) (K : Blk w7 wS.heap.size 29 (phC at_ n v1 v2)) (o1 : w7.ownsRow (wS.heap.size + 1) 9 1 v1 (k + 1) (strs ((texts ts).take (k + 1)))) (o2 : w7.ownsRow (wS.heap.size + 1) 3 1 v2' (k + 1) (ints ((gaps ts).take (k + 1)))) :
    Ph wS (w7.setCell ⟨wS.heap.size, 4, none⟩ v2') at_ n ts (k + 1) v1 v2' := by
  refine ⟨b.setCell (p := ⟨wS.heap.size, 4, none⟩) (Nat.le_refl _) _, by simpa using s, ?_, own_setFar o1 (p := ⟨wS.heap.size, 4, none⟩) (own_far o1 (Nat.lt_succ_self _)) _, own_setFar o2 (p := ⟨wS.heap.size, 4, none⟩) (own_far o2 (Nat.lt_succ_self _)) _⟩
  have := K.set_ 4 v2'
  simpa [phC] using this
end
end Go.Proofs.YtkcfgcdlnojaeaaGreatDoor.PhraseBase

namespace Go.Proofs.YtkcfgcdlnojaeaaGreatDoor.WordsMany
set_option maxRecDepth 100000
open Go.RowKit Go.PlainAid Base Query BindBase NodeTerm NodeTree Binder WordPlain WordsWalk StopsWalk OfText OfAny WordsOne OpenField FieldPlain ChainPlain WordsAny PhraseBase

theorem own15 {w : World} {g : Nat} {base size m : Nat} {e : TypeId} {v : Value} {xs : List Value} {v0 v1 v2 v3 v4 v5 v6 v7 v8 v9 v10 v11 v12 v13 v14 : Value} (h : w.ownsRow base e size v m xs) (hg : g < base) : (((((((((((((((w.setCell ⟨g, 0, none⟩ v0).setCell ⟨g, 1, none⟩ v1).setCell ⟨g, 2, none⟩ v2).setCell ⟨g, 3, none⟩ v3).setCell ⟨g, 4, none⟩ v4).setCell ⟨g, 5, none⟩ v5).setCell ⟨g, 6, none⟩ v6).setCell ⟨g, 7, none⟩ v7).setCell ⟨g, 8, none⟩ v8).setCell ⟨g, 9, none⟩ v9).setCell ⟨g, 10, none⟩ v10).setCell ⟨g, 11, none⟩ v11).setCell ⟨g, 12, none⟩ v12).setCell ⟨g, 13, none⟩ v13).setCell ⟨g, 14, none⟩ v14).ownsRow base e size v m xs := by
  have hne := own_far h hg
  exact (own_setFar (own_setFar (own_setFar (own_setFar (own_setFar (own_setFar (own_setFar (own_setFar (own_setFar (own_setFar (own_setFar (own_setFar (own_setFar (own_setFar (own_setFar h (p := ⟨g, 0, none⟩) hne v0) (p := ⟨g, 1, none⟩) hne v1) (p := ⟨g, 2, none⟩) hne v2) (p := ⟨g, 3, none⟩) hne v3) (p := ⟨g, 4, none⟩) hne v4) (p := ⟨g, 5, none⟩) hne v5) (p := ⟨g, 6, none⟩) hne v6) (p := ⟨g, 7, none⟩) hne v7) (p := ⟨g, 8, none⟩) hne v8) (p := ⟨g, 9, none⟩) hne v9) (p := ⟨g, 10, none⟩) hne v10) (p := ⟨g, 11, none⟩) hne v11) (p := ⟨g, 12, none⟩) hne v12) (p := ⟨g, 13, none⟩) hne v13) (p := ⟨g, 14, none⟩) hne v14)
theorem fit_of {x : Int} (h1 : -9223372036854775808 ≤ x) (h2 : x ≤ 9223372036854775807) : fitI x := by
  show (decide (IntKind.min .i64 ≤ x) && decide (x ≤ IntKind.max .i64)) = true
  rw [decide_eq_true (show IntKind.min .i64 ≤ x from h1), decide_eq_true (show x ≤ IntKind.max .i64 from h2)]
  rfl
theorem own_ne {w : World} {base size n g : Nat} {e t : TypeId} {v : Value} {xs : List Value} {cs : Array Value} (h : w.ownsRow base e size v n xs) (hb : Blk w g t cs) (hne : e ≠ t) : v.ownBlock ≠ some g := by
  intro hk
  rcases h.2 with ⟨rfl, _⟩ | ⟨g', cap, cur, rfl, _, hg, _⟩
  · simp [Value.ownBlock] at hk
  · simp only [Value.ownBlock, Option.some.injEq] at hk
    subst hk
    unfold Blk at hb
    rw [hg] at hb
    exact hne (Obj.cells.inj (Option.some.inj hb)).2.1
theorem own_fresh {W W' : World} {base size m : Nat} {e : TypeId} {v : Value} {xs : List Value} (h : W.ownsRow base e size v m xs) (hk : ∀ k, v.ownBlock = some k → W'.heap[k]? = W.heap[k]?) : W'.ownsRow base e size v m xs := by
  refine ⟨h.1, ?_⟩
  rcases h.2 with hn | ⟨g, cap, cur, rfl, hb, hgg, rest⟩
  · exact .inl hn
  · exact .inr ⟨g, cap, cur, rfl, hb, (hk g rfl).trans hgg, rest⟩
theorem slc_mono_own {W W' : World} {base size m : Nat} {e : TypeId} {A : Option Addr} {c : Nat} {xs : List Value} (h : W.ownsRow base e size (.slice A m c) m xs) (h' : W'.ownsRow base e size (.slice A m c) m xs) : Slc W' W.heap.size A xs := fun hx => by
  obtain ⟨g, o, e, _, hc⟩ := slc_own h' hx
  obtain ⟨g2, o2, e2, hg2, _⟩ := slc_own h hx
  rw [e] at e2
  obtain ⟨rfl, rfl⟩ : g = g2 ∧ o = o2 := by simpa using e2
  exact ⟨g, o, e, hg2, hc⟩
theorem phrase_val {W : World} {at_ n : Int} {N : Nat} {bs nn : Nat} {ts : List Tok} {t0 : Tok} {r : List Tok} {A3 A4 : Option Addr} {c3 c4 : Nat} (h0 : ts = t0 :: r) (hnn : nn ≤ bs) (hat : fitI at_) (hn : fitI n) (hl : ts.length ≤ N + 1) (hN : N ≤ 2097152) (hz : ∀ t ∈ ts, t.text.size ≤ N + 8) (hp : ∀ t ∈ ts, 0 ≤ t.pos ∧ t.pos ≤ N + 1)
    (o1 : W.ownsRow bs 9 1 (.slice A3 ts.length c3) ts.length (strs ((texts ts).take ts.length))) (o2 : W.ownsRow bs 3 1 (.slice A4 ts.length c4) ts.length (ints ((gaps ts).take ts.length))) :
    Fresh nn W (phC at_ n (.slice A3 ts.length c3) (.slice A4 ts.length c4)).toList (phraseQ at_ n ts) := by
  refine ⟨fun k => (Value.slice A3 ts.length c3).ownBlock = some k ∨ (Value.slice A4 ts.length c4).ownBlock = some k, fun k hk => ?_, ?_⟩
  · rcases hk with hk | hk
    · exact ⟨Nat.le_trans hnn (o1.lt k hk).1, (o1.lt k hk).2, fun hb => own_ne o1 hb (by decide) hk⟩
    · exact ⟨Nat.le_trans hnn (o2.lt k hk).1, (o2.lt k hk).2, fun hb => own_ne o2 hb (by decide) hk⟩
  intro W' hW'
  have l1 : (texts ts).length = ts.length := by simp [texts]
  have l2 : (gaps ts).length = ts.length := by simp [gaps]
  rw [List.take_of_length_le (Nat.le_of_eq l1)] at o1
  rw [List.take_of_length_le (Nat.le_of_eq l2)] at o2
  have hpz := hp t0 (by rw [h0]; simp)
  have hml : maxLen = 9223372036854775807 := rfl
  have key := QVal.mk (w := W') (B := W.heap.size) ⟨5, at_, ⟨#[]⟩, texts ts, gaps ts, n, 0, bnd0, bnd0, []⟩ [] A3 A4 none none c3 c4 0 0 (fun _ => [])
    ⟨rfl, hat, hn, rfl, fun o ho => by
        obtain ⟨t, ht, rfl⟩ := List.mem_map.1 ho
        have := hp t ht
        rw [show ts.head? = some t0 by rw [h0]; rfl]
        exact fit_of (by simp only [Option.getD_some]; omega) (by simp only [Option.getD_some]; omega), (fun _ h => by cases h), Nat.zero_le _, fun t ht => by
        obtain ⟨u, hu, rfl⟩ := List.mem_map.1 ht
        have := hz u hu
        omega, by show (texts ts).length ≤ maxLen; omega, by show (gaps ts).length ≤ maxLen; omega, Nat.zero_le _⟩ (Nat.zero_le _)
    (slc_mono_own o1 (own_fresh o1 fun k hk => hW' k (.inl hk))) (slc_mono_own o2 (own_fresh o2 fun k hk => hW' k (.inr hk))) (Slc.nil _) (fun h => absurd rfl h) (fun _ _ h => by cases h)
  simp only [l1, l2] at key
  exact key

set_option maxHeartbeats 4000000 in
theorem words_many (kd : Int) (k n at_ : Int) (fn T nm : ByteArray) (R : NRest) (a b c : Bool) (w : World) (hat : fitI at_) (hs : T.size ≤ 2097152) (hn : fitI n) (hk2 : kd ≠ 2) (hk3 : kd ≠ 3) (ht : Tab w) (h0 : 3 < w.heap.size) (hof : 2 ≤ (ofT kd a b c T).length) :
    Calls Tryz.prog 88 #[.agg (nodeV k fn T n R), .agg #[.string nm, .int .i64 kd, .bool a, .bool b, .bool c], .int .i64 at_] w (IsQ (phraseQ at_ n (ofT kd a b c T)) true w) := by
  obtain ⟨ts, hts⟩ : ∃ ts, ts = ofT kd a b c T := ⟨_, rfl⟩
  have OA := Lib.hid (fun W (hW : Below w.heap.size w W) => of_any nm kd a b c T W (by omega) (tab_below ht hW h0) (Nat.lt_of_lt_of_le h0 hW.size))
  have hsz := fun t (ht : t ∈ ofT kd a b c T) => of_size ht
  have hln : (ofT kd a b c T).length ≤ T.size + 1 := of_len kd a b c T
  have hpos := fun t (ht : t ∈ ofT kd a b c T) => ofF_pos (f := ⟨nm, kd, a, b, c⟩) ht
  rw [← hts] at OA hof hsz hln hpos ⊢
  clear hts
  obtain ⟨q, hq⟩ : ∃ q, q = phraseQ at_ n ts := ⟨_, rfl⟩
  rw [← hq]
  have HQ := Lib.hid hq
  clear hq
  have HSZ := Lib.hid hsz
  clear hsz
  obtain ⟨W3, hW3⟩ : ∃ W, W = ((w.alloc (.cells (nodeV k fn T n R) 39)).alloc (.cells #[.string nm, .int .i64 kd, .bool a, .bool b, .bool c] 67)).alloc (.cells (bareQ 0 0 ⟨#[]⟩) 29) := ⟨_, rfl⟩
  have K1 : Blk W3 w.heap.size 39 (nodeV k fn T n R) := by rw [hW3]; exact ((Blk.new w _ _).alloc _).alloc _
  have K2 : Blk W3 (w.heap.size + 1) 67 #[.string nm, .int .i64 kd, .bool a, .bool b, .bool c] := by
    rw [hW3]
    have := (Blk.new (w.alloc (.cells (nodeV k fn T n R) 39)) 67 #[.string nm, .int .i64 kd, .bool a, .bool b, .bool c]).alloc (.cells (bareQ 0 0 ⟨#[]⟩) 29)
    rwa [World.size_alloc] at this
  have K3 : Blk W3 (w.heap.size + 1 + 1) 29 (bareQ 0 0 ⟨#[]⟩) := by
    rw [hW3]
    have := Blk.new ((w.alloc (.cells (nodeV k fn T n R) 39)).alloc (.cells #[.string nm, .int .i64 kd, .bool a, .bool b, .bool c] 67)) 29 (bareQ 0 0 ⟨#[]⟩)
    rwa [World.size_alloc, World.size_alloc] at this
  have hbW : Below w.heap.size w W3 := by rw [hW3]; exact Base.bel
  have hsz : w.heap.size + 3 = W3.heap.size := by rw [hW3]; simp
  have HW := Lib.hid hW3
  have HZ := Lib.hid hsz
  unfold nodeV at K1 HW
  unfold bareQ at K3 HW
  clear hW3 hsz
  unfold nodeV
  go_enter Tryz.func88, Tryz.ntmps88
  go_upto_region 1 with fail
  rw [← HW.out]
  obtain ⟨z0, z1, z2, z3, z4, z5, z6, z7, z8, z9, z10, z11, z12, z13, z14⟩ := qrow (K3.below (Below.refl W3.heap.size W3) (by have := HZ.out; omega)); obtain ⟨y0, y1, y2, y3, y4, y5, y6, y7, y8, y9, y10, y11, y12, y13, y14⟩ := qfz (K3.below (Below.refl W3.heap.size W3) (by have := HZ.out; omega)); have n2 := (K1.below (Below.refl W3.heap.size W3) (by have := HZ.out; omega)).cell 2; have n3 := (K1.below (Below.refl W3.heap.size W3) (by have := HZ.out; omega)).cell 3; have f0 := (K2.below (Below.refl W3.heap.size W3) (by have := HZ.out; omega)).cell 0; have f1 := (K2.below (Below.refl W3.heap.size W3) (by have := HZ.out; omega)).cell 1; have f2 := (K2.below (Below.refl W3.heap.size W3) (by have := HZ.out; omega)).cell 2; have f3 := (K2.below (Below.refl W3.heap.size W3) (by have := HZ.out; omega)).cell 3; have f4 := (K2.below (Below.refl W3.heap.size W3) (by have := HZ.out; omega)).cell 4
  have d2 : (kd == 2) = false := beq_eq_false_iff_ne.2 hk2
  have d3 : (kd == 3) = false := beq_eq_false_iff_ne.2 hk3
  have l0 : ((ts.length : Int) == 0) = false := beq_eq_false_iff_ne.2 (by omega)
  have l1 : decide ((1 : Int) < (ts.length : Int)) = true := decide_eq_true (by omega)
  have hbt : tokCells ts ≠ [] := by
    cases ts with
    | nil => simp at hof
    | cons t r => simp [tokCells, tokC]
  go_upto_region 8 with (go_at_call 35; refine (OA.out _ hbW).mono ?_; rintro e w2 ⟨A2, c2, rfl, hown, hb2⟩; obtain ⟨z0, z1, z2, z3, z4, z5, z6, z7, z8, z9, z10, z11, z12, z13, z14⟩ := qrow (K3.below hb2 (by have := HZ.out; omega)); obtain ⟨y0, y1, y2, y3, y4, y5, y6, y7, y8, y9, y10, y11, y12, y13, y14⟩ := qfz (K3.below hb2 (by have := HZ.out; omega)); have n2 := (K1.below hb2 (by have := HZ.out; omega)).cell 2; have n3 := (K1.below hb2 (by have := HZ.out; omega)).cell 3; have f0 := (K2.below hb2 (by have := HZ.out; omega)).cell 0; have f1 := (K2.below hb2 (by have := HZ.out; omega)).cell 1; have f2 := (K2.below hb2 (by have := HZ.out; omega)).cell 2; have f3 := (K2.below hb2 (by have := HZ.out; omega)).cell 3; have f4 := (K2.below hb2 (by have := HZ.out; omega)).cell 4; obtain ⟨tg, tq, rfl, htg, htc⟩ := (slc_own hown) hbt)
  have KR := K3.below hb2 (by have := HZ.out; omega)
  have hPos := fun t (ht : t ∈ ts) => hpos t ht
  clear z0 y0 z1 y1 z2 y2 z3 y3 z4 y4 z5 y5 z6 y6 z7 y7 z8 y8 z9 y9 z10 y10 z11 y11 z12 y12 z13 y13 z14 y14 n2 n3 f0 f1 f2 f3 f4
  have hP0 := Ph.start w2 at_ n ts
  unfold phC at hP0
  have HP0 := Lib.hid hP0
  clear hP0
  obtain ⟨tz, tr, hz⟩ : ∃ t r, ts = t :: r := by
    cases ts with
    | nil => simp at hof
    | cons t r => exact ⟨t, r, rfl⟩
  have c0 : w2.cell? ⟨tg, tq + 2, none⟩ = some (.int .i64 tz.pos) := htc 2 _ (by rw [hz]; rfl)
  have HZZ := Lib.hid hz
  have hpz := hPos tz (by rw [hz]; simp)
  clear hz l0 l1 hbt d2 d3
  go_wp2_with fail
  go_loopw [36] (fun i wr => ∃ (k : Nat) (v1 v2 : Value), k ≤ ts.length ∧ i = .int .i64 k ∧ Ph w2 wr at_ n ts k v1 v2) (fun i _ => ts.length - (intOf i).toNat)
  case atStart => exact ⟨0, _, _, Nat.zero_le _, rfl, HP0.out⟩
  case round =>
    obtain ⟨k, v1, v2, hk, rfl, hP⟩ := hrel
    obtain ⟨A3, c3, rfl⟩ := own_slice hP.own1
    obtain ⟨A4, c4, rfl⟩ := own_slice hP.own2
    rcases Nat.lt_or_ge k ts.length with hlt | hge
    · obtain ⟨t, ht⟩ : ∃ t, ts[k]? = some t := ⟨_, List.getElem?_eq_getElem hlt⟩
      have hpt := hPos t (List.mem_of_getElem? ht)
      obtain ⟨x0, x1, x2, x3, x4⟩ := tok_five (w := wr) (B := 0) (fun j u hu => (hP.bel.cell (p := ⟨tg, tq + j, none⟩) htg).trans (htc j u hu)) ht
      obtain ⟨wt, hwt⟩ : ∃ W, W = wr.alloc (.cells (tokRow t) 115) := ⟨_, rfl⟩
      have hPt : Ph w2 wt at_ n ts k (.slice A3 k c3) (.slice A4 k c4) := by rw [hwt]; exact hP.alloc _
      have hT0 : Blk wt wr.heap.size 115 (tokRow t) := by rw [hwt]; exact Blk.new wr _ _
      have i2 : (k : Int) < (ts.length : Int) := by omega
      have i3 : (k : Int) < 9223372036854775807 := by omega
      have hne : (Value.slice A3 k c3).ownBlock ≠ some wr.heap.size := fun e => Nat.lt_irrefl _ (hP.own1.lt _ e).2
      have hsP := hP.lt
      have hsT := hPt.lt
      have hB := hPt.blk
      unfold phC at hB
      unfold tokRow at hwt hT0
      have HWT := Lib.hid hwt
      clear hwt
      have hkl : k ≤ 2097153 := by omega
      go_upto_region 11 with fail
      rw [← HWT.out]
      obtain ⟨z0, z1, z2, z3, z4, z5, z6, z7, z8, z9, z10, z11, z12, z13, z14⟩ := qrow hB
      obtain ⟨y0, y1, y2, y3, y4, y5, y6, y7, y8, y9, y10, y11, y12, y13, y14⟩ := qfz hB
      have tt := hT0.cell 0
      go_upto_region 12 with ((at_builtin; refine wpList_append1 (base := w2.heap.size + 1) rfl _ _ rfl strEl hPt.own1 rfl rfl rfl rfl (by omega) (by unfold maxLen; omega) hsT ?_; intro v1' w5 ho1 hg1 hq5; obtain ⟨b5, s5, K5, o51, o52⟩ := hPt.text ht ho1 hg1; have T5 := hT0.grown hg1 (fun e => hne e.symm); obtain ⟨A5, c5, rfl⟩ := own_slice o51; have y3 : w5.frozen? ⟨w2.heap.size, 3, none⟩ = false := K5.frozen 3; have z3 : w5.cell? ⟨w2.heap.size, 3, none⟩ = some (.slice A3 k c3) := K5.cell 3; have HK5 := Lib.hid K5; have HT5 := Lib.hid T5; clear ho1 hg1 hq5 K5 T5))
      obtain ⟨W6, hW6⟩ : ∃ W, W = w5.setCell ⟨w2.heap.size, 3, none⟩ (.slice A5 (k + 1) c5) := ⟨_, rfl⟩
      rw [← hW6]
      clear z0 z1 z2 z3 z4 z5 z6 z7 z8 z9 z10 z11 z12 z13 z14 y0 y1 y2 y3 y4 y5 y6 y7 y8 y9 y10 y11 y12 y13 y14
      have M6 := Mid.of hW6 b5 s5 HK5.out o51 o52
      have T6 : Blk W6 wr.heap.size 115 (tokRow t) := by rw [hW6]; exact HT5.out.far (p := ⟨w2.heap.size, 3, none⟩) (by show wr.heap.size ≠ w2.heap.size; omega) _
      have z4 : W6.cell? ⟨w2.heap.size, 4, none⟩ = some (.slice A4 k c4) := M6.blk.cell 4
      have y4 : W6.frozen? ⟨w2.heap.size, 4, none⟩ = false := M6.blk.frozen 4
      have z4a : (W6.alloc (.cells #[.int .i64 (t.pos - tz.pos)] 3)).cell? ⟨w2.heap.size, 4, none⟩ = some (.slice A4 k c4) := (M6.alloc _).blk.cell 4
      have q2 : W6.cell? ⟨wr.heap.size, 2, none⟩ = some (.int .i64 t.pos) := T6.cell 2
      have q0 : W6.cell? ⟨tg, tq + 2, none⟩ = some (.int .i64 tz.pos) := (M6.bel.cell (p := ⟨tg, tq + 2, none⟩) htg).trans c0
      have iw : IntKind.i64.wrap (t.pos - tz.pos) = t.pos - tz.pos := IntWalk.i64_in _ (by omega)
      have lp : 0 < ts.length := by omega
      have hnew : ∀ o, (W6.alloc o).drew.heap[W6.heap.size]? = some o := fun o => heap_alloc_new W6 o
      have s6 := M6.lt
      have o62 := M6.own2
      obtain ⟨ie1, ⟨ii, ie2, ie3, ie4, ie5⟩, ie6, ie7⟩ := intEl
      have HM := Lib.hid M6
      have HHT := Lib.hid ht
      clear tt b5 s5 o51 o52 HK5 HT5 hB hP hPt hT0 hsP hsT M6 T6 hW6 HWT ht hne x0 x1 x2 x3 x4
      go_region_law ((refine step_append_kept (by rfl) _ _ _ (by rfl) (w2.heap.size + 1) 3 ii _ 1 8 ie1 ie2 ie3 ie4 ie5 ie6 ie7 (.slice A4 k c4) k _ (by rfl) ((o62.alloc _).drew) ⟨W6.heap.size, 0, none⟩ 1 1 [.int .i64 (t.pos - tz.pos)] (by rfl) (by rfl) (World.news_of_block (cs := #[.int .i64 (t.pos - tz.pos)]) (t := 3) (fr := (0, 0)) (hnew _)) (by simp [Value.oneCell']) (by omega) (by unfold maxLen; omega) (by omega) (by simp only [World.size_drew, World.size_alloc]; omega) ?_; intro gg cap w7 hown7 hat; obtain ⟨b7, s7, K7, o71, o72⟩ := (HM.out.alloc _).drew.grow HHT.out HZZ.out hown7 hat; have z4 : w7.cell? ⟨w2.heap.size, 4, none⟩ = some (.slice A4 k c4) := K7.cell 4; have y4 : w7.frozen? ⟨w2.heap.size, 4, none⟩ = false := K7.frozen 4))
      all_goals
        have hN := Ph.of b7 s7 K7 o71 o72
        go_wp2_with fail
        go_roundw
        case rel => exact ⟨k + 1, _, _, by omega, by go_num, hN⟩
        case measure => simp [intOf]; omega
    · obtain rfl : k = ts.length := by omega
      have hg2 : w.heap.size + 1 + 1 < w2.heap.size := by have := HZ.out; have := hb2.size; omega
      have KW := KR.below hP.bel hg2
      have hB := hP.blk
      unfold phC at hB
      obtain ⟨x0, x1, x2, x3, x4, x5, x6, x7, x8, x9, x10, x11, x12, x13, x14⟩ := qrow hB
      obtain ⟨z0, z1, z2, z3, z4, z5, z6, z7, z8, z9, z10, z11, z12, z13, z14⟩ := qrow KW
      obtain ⟨y0, y1, y2, y3, y4, y5, y6, y7, y8, y9, y10, y11, y12, y13, y14⟩ := qfz KW
      have o1 := own15 (g := w.heap.size + 1 + 1) (v0 := .int .i64 5) (v1 := .int .i64 at_) (v2 := .string ⟨#[]⟩) (v3 := .slice A3 ts.length c3) (v4 := .slice A4 ts.length c4) (v5 := .int .i64 n) (v6 := .int .u64 0) (v7 := .bool false) (v8 := .bool false) (v9 := .string ⟨#[]⟩) (v10 := .bool false) (v11 := .bool false) (v12 := .string ⟨#[]⟩) (v13 := .slice none 0 0) (v14 := .slice none 0 0) hP.own1 (by omega)
      have o2 := own15 (g := w.heap.size + 1 + 1) (v0 := .int .i64 5) (v1 := .int .i64 at_) (v2 := .string ⟨#[]⟩) (v3 := .slice A3 ts.length c3) (v4 := .slice A4 ts.length c4) (v5 := .int .i64 n) (v6 := .int .u64 0) (v7 := .bool false) (v8 := .bool false) (v9 := .string ⟨#[]⟩) (v10 := .bool false) (v11 := .bool false) (v12 := .string ⟨#[]⟩) (v13 := .slice none 0 0) (v14 := .slice none 0 0) hP.own2 (by omega)
      have hbl := below15 (g := w.heap.size + 1 + 1) (B := w.heap.size) (v0 := .int .i64 5) (v1 := .int .i64 at_) (v2 := .string ⟨#[]⟩) (v3 := .slice A3 ts.length c3) (v4 := .slice A4 ts.length c4) (v5 := .int .i64 n) (v6 := .int .u64 0) (v7 := .bool false) (v8 := .bool false) (v9 := .string ⟨#[]⟩) (v10 := .bool false) (v11 := .bool false) (v12 := .string ⟨#[]⟩) (v13 := .slice none 0 0) (v14 := .slice none 0 0) (bchain hbW (bchain hb2 ((hP.bel).mono (Nat.le_refl _)))) (Nat.le_succ_of_le (Nat.le_succ _))
      have hlast := phrase_val (t0 := tz) (nn := w.heap.size) HZZ.out (by have := HZ.out; have := hb2.size; omega) hat hn hln hs (fun t ht => HSZ.out t ht) hPos o1 o2
      clear hpz c0
      go_wp2_with fail
      refine bodyPost_ret (results_blk (p := 6) (u := 7) (ty := 29) (t := 29) (g := w.heap.size + 1 + 1) (cs := phC at_ n (.slice A3 ts.length c3) (.slice A4 ts.length c4)) ?_ ?_ (blk15 KW) Tryz.underlying29 ?_ ?_) ?_ ?_
      · rfl
      · rfl
      · rfl
      · rw [qInfo]; rfl
      · rfl
      · rw [HQ.out]
        exact ⟨(phC at_ n (.slice A3 ts.length c3) (.slice A4 ts.length c4)).toList, rfl, hlast, hbl⟩
end Go.Proofs.YtkcfgcdlnojaeaaGreatDoor.WordsMany
