/-
  The walk of TokensOfs.
-/
import Derived.Test.YtmoahflgcojfcaaDoorMarks
import Derived.Test.YtmoahflgcojfcaaDoorDWords
import Derived.Test.YtmoahflgcojfcaaDoorLives
import Derived.Test.YtmoahflgcojfcaaDoorRefOf
import Derived.IntWalk
namespace Go.Proofs.YtmoahflgcojfcaaDoor.TokensOfsWalk
set_option maxRecDepth 100000
open Go.RowKit Go.PlainAid Go.Shelf WordPlain Base App WordBytes WordsWalk StopsWalk ChainPlain OfText NumPlain OfAny OutRow RefOf SameWalk Lives EachSeq EachList RelIn Marks
attribute [local go_sem] Oper.semAt_some

/-- A slice of these tokens. -/
def TokV (ts : List Tok) (v : Value) (w : World) : Prop := ∃ A c, v = .slice A ts.length c ∧ Slc w w.heap.size A (tokCells ts)
theorem tokV_stable {ts : List Tok} (v : Value) (w w' : World) (hb : Below w.heap.size w w') (h : TokV ts v w) : TokV ts v w' := by
  obtain ⟨A, c, e, hs⟩ := h
  exact ⟨A, c, e, (hs.below hb (Nat.le_refl _)).mono hb.size⟩
theorem slc_take {w : World} {B : Nat} {A : Option Addr} {ts : List Tok} (h : Slc w B A (tokCells ts)) (n : Nat) : Slc w B A (tokCells (ts.take n)) := fun hx => by
  have e : tokCells ts = tokCells (ts.take n) ++ tokCells (ts.drop n) := by rw [← tokCells_append, List.take_append_drop]
  have hne : tokCells ts ≠ [] := by rw [e]; intro h'; exact hx (List.append_eq_nil_iff.1 h').1
  obtain ⟨g, o, e', hg, hc⟩ := h hne
  refine ⟨g, o, e', hg, fun j u hu => hc j u ?_⟩
  rw [e]
  have hlt : j < (tokCells (ts.take n)).length := (List.getElem?_eq_some_iff.1 hu).1
  rw [List.getElem?_append_left hlt]
  exact hu

/-- A slice of n cells of five that reads as these tokens. -/
def TokN (ts : List Tok) (n : Nat) (v : Value) (w : World) : Prop := ∃ A c, v = .slice A n c ∧ Slc w w.heap.size A (tokCells ts)
theorem tokN_stable {ts : List Tok} {n : Nat} (v : Value) (w w' : World) (hb : Below w.heap.size w w') (h : TokN ts n v w) : TokN ts n v w' := by
  obtain ⟨A, c, e, hs⟩ := h
  exact ⟨A, c, e, (hs.below hb (Nat.le_refl _)).mono hb.size⟩
theorem same_n (ts : List Tok) (n : Nat) (hn : ts.length = n) (A1 A2 : Option Addr) (c1 c2 B : Nat) (w : World) (hB : B ≤ w.heap.size) (hl : ts.length ≤ 1099511627776) (h1 : Slc w B A1 (tokCells ts)) (h2 : Slc w B A2 (tokCells ts)) :
    Calls Tryd.prog 18 #[.slice A1 n c1, .slice A2 n c2] w fun e w' => e = .returned (.bool true) ∧ Below w.heap.size w w' := by
  subst hn; exact same_eq ts A1 A2 c1 c2 B w hB hl h1 h2

/-- 'each' as a value of a kind. -/
theorem each_kind (nm : ByteArray) (kd : Int) (a b c : Bool) (s : ByteArray) (m : Nat) (w : World) (hs : s.size ≤ 1099511627775) (hm : m ≤ 1099511627778) (ht : Tab w) (h0 : 0 < w.heap.size) :
    Calls Tryd.prog 19 #[.agg #[.string nm, .int .i64 kd, .bool a, .bool b, .bool c], .string s, .int .i64 (m : Nat)] w fun e w' =>
      ∃ v, e = .returned v ∧ TokV ((ofT kd a b c s).take m) v w' ∧ Below w.heap.size w w' :=
  (each_list nm kd a b c s m w hs hm ht h0).mono fun e w' ⟨v, bb, he, ho, hb⟩ => by
    obtain ⟨A, cp, rfl⟩ := ho.slice
    exact ⟨_, he, ⟨A, cp, rfl, ho.slc rfl⟩, hb⟩

/-- Between two rounds of the inner loop. -/
def Inv2 (w6 : World) (nb tb t : Nat) (ds : List Deferred) (N : Nat) (pre : List Tok) (W : World) : Prop :=
  Blk W nb 3 #[.int .i64 (pre.length : Nat)] ∧ Blk W tb 3 #[.int .i64 (t : Nat)] ∧ Below w6.heap.size w6 W ∧ Marks W ds nb ∧ nb < W.heap.size ∧ pre.length ≤ N
theorem inv2_own (w6 : World) (nb tb t : Nat) (ds : List Deferred) (N B : Nat) (hB : w6.heap.size ≤ B) (hn : nb ≤ B) : OwnFrom B (Inv2 w6 nb tb t ds N) := by
  rintro pre X Y row ⟨h1, h2, h3, h4, h5, h6⟩ hg hr
  have hr' := fun r e => (hr r e).2
  exact ⟨blk_kept h1 hg hr', blk_kept h2 hg hr', h3.grown hg h3.size (fun k e => by have := (hr k e).1; omega), h4.from hn hg (fun r e => (hr r e).1), Nat.lt_of_lt_of_le h5 hg.size, h6⟩
/-- The inner loop left early: in the first turn alone. -/
def Inv2X (w6 : World) (nb tb t : Nat) (ds : List Deferred) (TS : List Tok) (st : Int) (c : Code) (pre : List Tok) (W : World) : Prop :=
  (c = .exit 2 ∧ t = 0 ∧ st < (pre.length : Int) ∧ Inv2 w6 nb tb t ds TS.length pre W) ∨ ¬ pre <+: TS
theorem inv2X_own (w6 : World) (nb tb t : Nat) (ds : List Deferred) (TS : List Tok) (st : Int) (B : Nat) (hB : w6.heap.size ≤ B) (hn : nb ≤ B) (c : Code) : OwnFrom B (Inv2X w6 nb tb t ds TS st c) := by
  rintro pre X Y row hs hg hr
  rcases hs with ⟨h1, h2, h3, h4⟩ | h
  · exact .inl ⟨h1, h2, h3, inv2_own w6 nb tb t ds TS.length B hB hn pre X Y row h4 hg hr⟩
  · exact .inr h

theorem kf_below {B : Nat} {W W' : World} (h : Below W.heap.size W W') : KeepsFrom B W W' := ⟨h.size, fun k _ _ hk _ => (h.block k (heap_lt hk)).trans hk⟩
theorem pre_last {pre TS : List Tok} {x tk : Tok} (h : pre ++ [x] <+: TS) (ht : TS[pre.length]? = some tk) : x = tk := by
  obtain ⟨r, rfl⟩ := h
  simpa using ht

theorem keep_belowE {a b : Nat} {W W' : World} (h : Below W.heap.size W W') : Keep (fun _ k => k = a ∨ k = b) W W' := Keep.below (m := W.heap.size) (fun _ _ _ _ h => h) h (Nat.le_refl _)
theorem keep_setE {a b : Nat} (W : World) (u : Value) : Keep (fun _ k => k = a ∨ k = b) W (W.setCell ⟨a, 0, none⟩ u) :=
  ⟨by simp, fun k _ hk _ hE => (Below.heap_setCell W ⟨a, 0, none⟩ u k (fun e => hE (.inl e))).trans hk, fun _ _ h => h⟩
/-- One token more has come. -/
theorem inv2_step {w6 W1 wx : World} {nb tb t : Nat} {ds : List Deferred} {N : Nat} {pre : List Tok} {x : Tok} (bN : Blk wx nb 3 #[.int .i64 (pre.length : Nat)]) (bT : Blk wx tb 3 #[.int .i64 (t : Nat)]) (h1 : Below w6.heap.size w6 W1) (hx : Below W1.heap.size W1 wx)
    (hM : Marks W1 ds nb) (hn : nb < W1.heap.size) (hl : pre.length < N) (hbt : tb ≠ nb) (h6 : w6.heap.size ≤ nb) : Inv2 w6 nb tb t ds N (pre ++ [x]) (wx.setCell ⟨nb, 0, none⟩ (.int .i64 ((pre.length : Int) + 1))) := by
  have hs := hx.size
  refine ⟨?_, bT.far hbt _, (h1.trans (hx.mono h1.size)).setCell (p := ⟨nb, 0, none⟩) h6 _, (hM.below hx (Nat.le_of_lt hn)).others (KeepsOthers.setCell _ _ _), by simp only [World.size_setCell]; omega, by simp only [List.length_append, List.length_cons, List.length_nil]; omega⟩
  have := bN.set_ 0 (.int .i64 ((pre.length : Int) + 1))
  simpa only [List.setIfInBounds_toArray, List.set_cons_zero, List.length_append, List.length_cons, List.length_nil, Int.natCast_add, Nat.zero_add, Int.natCast_one] using this

theorem load_bool {W : World} {p : Addr} {v : Value} (h : W.cell? p = some v) : (loadVar 4 p).run Tryd.prog W = .ok v W := by
  have e : (isAgg 4).run Tryd.prog W = .ok false W := rfl
  simp only [loadVar, Sem.run_bind, e, Result.andThen_ok, load]
  simp [Sem.run, h]
theorem blk_turn (W : World) (t : Nat) : Blk (W.alloc (.cells #[.int .i64 ((t : Int) + 1)] 3)) W.heap.size 3 #[.int .i64 ((t + 1 : Nat) : Int)] := by
  have := Blk.new W 3 #[.int .i64 ((t : Int) + 1)]
  simpa only [Int.natCast_add, Int.natCast_one] using this
theorem marks_push {W : World} {ds : List Deferred} {b D : Nat} (h : Marks W ds b) (hb : b ≤ D) (hD : W.heap[D]? = some (.deferred (some []))) : Marks W ({ target := .collected D, args := #[] } :: ds) W.heap.size :=
  (h.push hb hD).mono (heap_lt hD)
theorem marks_from {ds : List Deferred} {D m : Nat} (h : ∀ d ∈ ds, ∀ D, d.target = .collected D → m ≤ D) (hD : m ≤ D) : ∀ d ∈ ({ target := .collected D, args := #[] } :: ds : List Deferred), ∀ D, d.target = .collected D → m ≤ D := by
  intro d hd D' he
  rcases List.mem_cons.1 hd with rfl | hd
  · cases he; exact hD
  · exact h d hd D' he

/-- Is it the token, or not? -/
def NeB (x y : Tok) (v : Value) (_ : World) : Prop := ∃ b : Bool, v = .bool b ∧ (x = y → b = false)
theorem neB_stable {x y : Tok} (v : Value) (w w' : World) (_ : Below w.heap.size w w') (h : NeB x y v w) : NeB x y v w' := h

set_option maxHeartbeats 16000000 in
theorem walk (nm : ByteArray) (kd : Int) (a b c : Bool) (s : ByteArray) (st : Int) (w : World) (hst : (Lit.int .i64 st).wf = true) (hs : s.size ≤ 1048576) (ht : Tab w) (h0 : 0 < w.heap.size) :
    Calls Tryd.prog 5 #[.agg #[.string nm, .int .i64 kd, .bool a, .bool b, .bool c], .string s, .int .i64 st] w fun e w' => e = .returned (.bool true) ∧ Below w.heap.size w w' := by
  have hTS0 := of_len kd a b c s
  obtain ⟨TS, hts⟩ : ∃ TS, TS = ofT kd a b c s := ⟨_, rfl⟩
  have hTS : TS.length ≤ 1099511627776 := by rw [hts]; omega
  have HTS := Lib.hid hts
  clear hts hTS0
  have FN := func_nil
  refine callsIn_wide (n := 8).1 (callsIn_of_wp_marks Tryd.func5 rfl trivial ?_ rfl)
  simp only [Tryd.ntmps5, List.size_toArray, List.length_cons, List.length_nil, Nat.reduceAdd, Nat.reduceSub, Array.replicate_succ, Array.replicate_zero, List.push_toArray, List.append_toArray, List.nil_append, List.cons_append]
  refine wpIn_wide.2 ?_
  go_wp2_with fail
  go_at_call 12
  refine (lives_any _).mono ?_
  rintro e w1 ⟨rfl, hb1⟩
  have hb1' : Below w.heap.size w w1 := bchain (by (repeat (first | exact Below.refl _ _ | assumption | refine balloc ?_ _ | refine bdrew ?_ | refine bdrewN ?_ _ | refine bchain ?_ (by assumption)))) hb1
  have bF1 := (((Blk.new w 26 #[.string nm, .int .i64 kd, .bool a, .bool b, .bool c]).alloc (.cells #[.int .i64 st] 3)).alloc (.cells #[.bool false] 4)).below hb1 (by simp only [World.size_alloc]; omega)
  have bS1 := ((Blk.new (w.alloc (.cells #[.string nm, .int .i64 kd, .bool a, .bool b, .bool c] 26)) 3 #[.int .i64 st]).alloc (.cells #[.bool false] 4)).below hb1 (by simp only [World.size_alloc]; omega)
  have bR1 := (Blk.new ((w.alloc (.cells #[.string nm, .int .i64 kd, .bool a, .bool b, .bool c] 26)).alloc (.cells #[.int .i64 st] 3)) 4 #[.bool false]).below hb1 (by simp only [World.size_alloc]; omega)
  simp only [World.size_alloc] at bS1 bR1
  have f0 := bF1.cell 0
  have f1 := bF1.cell 1
  have f2 := bF1.cell 2
  have f3 := bF1.cell 3
  have f4 := bF1.cell 4
  simp only [List.getElem?_toArray, List.getElem?_cons_zero, List.getElem?_cons_succ] at f0 f1 f2 f3 f4
  go_wp2_with fail
  go_at_call 17
  refine (refOf_anyC nm kd a b c s _ (by omega)).mono ?_
  rw [← HTS.out]
  rintro e w2 ⟨A3, c3, rfl, sl3, hb2, hcap⟩
  clear f0 f1 f2 f3 f4
  have hb2' := bchain hb1' hb2
  have bF2 := bF1.below hb2 bF1.lt
  have bS2 := bS1.below hb2 bS1.lt
  have bR2 := bR1.below hb2 bR1.lt
  have slW := sl3.slc.below (balloc (Below.refl w2.heap.size w2) (.cells #[.slice A3 TS.length c3] 28)) (Nat.le_refl _)
  obtain ⟨w3, hw3⟩ : ∃ w3, w3 = w2.alloc (.cells #[.slice A3 TS.length c3] 28) := ⟨_, rfl⟩
  have hb3 : Below w2.heap.size w2 w3 := by rw [hw3]; exact balloc (Below.refl _ _) _
  have hz3 : w2.heap.size < w3.heap.size := by rw [hw3]; simp only [World.size_alloc]; omega
  have bF3 := bF2.below hb3 bF2.lt
  have bS3 := bS2.below hb3 bS2.lt
  have bR3 := bR2.below hb3 bR2.lt
  have bW3 : Blk w3 w2.heap.size 28 #[.slice A3 TS.length c3] := by rw [hw3]; exact Blk.new _ _ _
  rw [← hw3] at slW
  have hb3' := bchain hb2' hb3
  go_wp2_with fail
  rw [← hw3]
  clear hw3 bF1 bS1 bR1 bF2 bS2 bR2 sl3 hb3
  have F0 := Lib.hid (fun (wx : World) (hx : Below w3.heap.size w3 wx) => (show wx.cell? ⟨w.heap.size, 0, none⟩ = some (.string nm) from ((bF3.below hx bF3.lt).cell 0).trans rfl))
  have F1 := Lib.hid (fun (wx : World) (hx : Below w3.heap.size w3 wx) => (show wx.cell? ⟨w.heap.size, 1, none⟩ = some (.int .i64 kd) from ((bF3.below hx bF3.lt).cell 1).trans rfl))
  have F2 := Lib.hid (fun (wx : World) (hx : Below w3.heap.size w3 wx) => (show wx.cell? ⟨w.heap.size, 2, none⟩ = some (.bool a) from ((bF3.below hx bF3.lt).cell 2).trans rfl))
  have F3 := Lib.hid (fun (wx : World) (hx : Below w3.heap.size w3 wx) => (show wx.cell? ⟨w.heap.size, 3, none⟩ = some (.bool b) from ((bF3.below hx bF3.lt).cell 3).trans rfl))
  have F4 := Lib.hid (fun (wx : World) (hx : Below w3.heap.size w3 wx) => (show wx.cell? ⟨w.heap.size, 4, none⟩ = some (.bool c) from ((bF3.below hx bF3.lt).cell 4).trans rfl))
  have F5 := Lib.hid (fun (wx : World) (hx : Below w3.heap.size w3 wx) => (show wx.cell? ⟨w2.heap.size, 0, none⟩ = some (.slice A3 TS.length c3) from ((bW3.below hx bW3.lt).cell 0).trans rfl))
  have SW := Lib.hid (fun (wx : World) (hx : Below w3.heap.size w3 wx) => (slW.below (hx.mono (Nat.le_of_lt hz3)) (Nat.le_refl _)).mono (Nat.le_trans (Nat.le_of_lt hz3) hx.size))
  have hs3 := hb3'.size
  have OA := Lib.hid (fun (wx : World) (hx : Below w3.heap.size w3 wx) => of_any nm kd a b c s wx (by omega) (tab_below ht (bchain hb3' hx) h0) (by have := hx.size; omega))
  obtain ⟨m1, hm1⟩ : ∃ m1 : Nat, m1 = TS.length + 1 := ⟨_, rfl⟩
  have iw : IntKind.i64.wrap ((TS.length : Int) + 1) = (m1 : Int) := by rw [IntWalk.i64_in _ (by omega)]; omega
  have EA := Lib.hid (fun (wx : World) (hx : Below w3.heap.size w3 wx) => each_kind nm kd a b c s m1 wx (by omega) (by omega) (tab_below ht (bchain hb3' hx) h0) (by have := hx.size; omega))
  have hta : TS.take m1 = TS := List.take_of_length_le (by omega)
  rw [← HTS.out, hta] at EA
  rw [← HTS.out] at OA
  clear hta hm1
  refine Rel.wp_region_rel (fun wx => Below w3.heap.size w3 wx) (fun wa wb => Below wa.heap.size wa wb) (by kernel_rfl) (by kernel_rfl) (bdrew (Below.refl _ _)) (fun _ => Below.refl _ _) ?_
  apply Rel.rel_one2 1 [] rfl (by kernel_rfl) (by kernel_rfl)
  case hs =>
    intro wx hx
    have f0 := F0.out wx hx
    have f1 := F1.out wx hx
    have f2 := F2.out wx hx
    have f3 := F3.out wx hx
    have f4 := F4.out wx hx
    have f5 := F5.out wx hx
    try simp only [Act.put, List.setIfInBounds_toArray, List.set_cons_zero, List.set_cons_succ]
    intro KK hK
    go_simp
    exact hK _ _ hx (Below.refl _ _) rfl
  apply Rel.rel_one2 2 [] rfl (by kernel_rfl) (by kernel_rfl)
  case hs =>
    intro wx hx
    try simp only [Act.put, List.setIfInBounds_toArray, List.set_cons_zero, List.set_cons_succ]
    intro KK hK
    go_simp
    exact hK _ _ hx (Below.refl _ _) rfl
  apply Rel.rel_kind2 3 [(0, 18), (1, 19)] (TokV TS) rfl (by kernel_rfl) (by kernel_rfl) (tokV_stable)
  case hs =>
    intro wx hx
    rintro _ rfl _ rfl
    have f0 := F0.out wx hx
    have f1 := F1.out wx hx
    have f2 := F2.out wx hx
    have f3 := F3.out wx hx
    have f4 := F4.out wx hx
    have f5 := F5.out wx hx
    try simp only [Act.put, List.setIfInBounds_toArray, List.set_cons_zero, List.set_cons_succ]
    intro KK hK
    go_simp
    go_at_call 13
    refine (OA.out wx hx).mono ?_
    rintro e wy ⟨A', c', rfl, own, hby⟩
    exact hK _ _ (bchain hx hby) hby ⟨A', c', rfl, slc_own own⟩
  apply Rel.rel_one2 4 [] rfl (by kernel_rfl) (by kernel_rfl)
  case hs =>
    intro wx hx
    have f0 := F0.out wx hx
    have f1 := F1.out wx hx
    have f2 := F2.out wx hx
    have f3 := F3.out wx hx
    have f4 := F4.out wx hx
    have f5 := F5.out wx hx
    try simp only [Act.put, List.setIfInBounds_toArray, List.set_cons_zero, List.set_cons_succ]
    intro KK hK
    go_simp
    exact hK _ _ hx (Below.refl _ _) rfl
  apply Rel.rel_one2 5 [(2, 20), (3, 21)] rfl (by kernel_rfl) (by kernel_rfl)
  case hs =>
    intro wx hx
    rintro _ ⟨A20, c20, rfl, s20⟩ _ rfl
    have f0 := F0.out wx hx
    have f1 := F1.out wx hx
    have f2 := F2.out wx hx
    have f3 := F3.out wx hx
    have f4 := F4.out wx hx
    have f5 := F5.out wx hx
    try simp only [Act.put, List.setIfInBounds_toArray, List.set_cons_zero, List.set_cons_succ]
    intro KK hK
    go_simp
    go_at_call 18
    refine (same_eq TS _ _ _ _ _ wx (Nat.le_refl _) hTS s20 (SW.out wx hx)).mono ?_
    rintro e wy ⟨rfl, hby⟩
    exact hK _ _ (bchain hx hby) hby rfl
  apply Rel.rel_one2 6 [(4, 22)] rfl (by kernel_rfl) (by kernel_rfl)
  case hs =>
    intro wx hx
    rintro _ rfl
    try simp only [Act.put, List.setIfInBounds_toArray, List.set_cons_zero, List.set_cons_succ]
    intro KK hK
    go_simp
    exact hK _ _ hx (Below.refl _ _) rfl
  apply Rel.rel_one2 7 [(5, 23)] rfl (by kernel_rfl) (by kernel_rfl)
  case hs =>
    intro wx hx
    rintro _ rfl
    try simp only [Act.put, List.setIfInBounds_toArray, List.set_cons_zero, List.set_cons_succ]
    intro KK hK
    go_simp
    exact hK _ _ hx (Below.refl _ _) rfl
  apply Rel.rel_one2 8 [(6, 24)] rfl (by kernel_rfl) (by kernel_rfl)
  case hs =>
    intro wx hx
    rintro _ rfl
    have f0 := F0.out wx hx
    have f1 := F1.out wx hx
    have f2 := F2.out wx hx
    have f3 := F3.out wx hx
    have f4 := F4.out wx hx
    have f5 := F5.out wx hx
    try simp only [Act.put, List.setIfInBounds_toArray, List.set_cons_zero, List.set_cons_succ]
    intro KK hK
    go_simp
    exact hK _ _ hx (Below.refl _ _) rfl
  apply Rel.rel_one2 9 [(6, 24)] rfl (by kernel_rfl) (by kernel_rfl)
  case hs =>
    intro wx hx
    rintro _ rfl
    try simp only [Act.put, List.setIfInBounds_toArray, List.set_cons_zero, List.set_cons_succ]
    intro KK hK
    go_simp
    exact hK _ _ hx (Below.refl _ _) rfl
  apply Rel.rel_one2 10 [(6, 24)] rfl (by kernel_rfl) (by kernel_rfl)
  case hs =>
    intro wx hx
    rintro _ rfl
    have f0 := F0.out wx hx
    have f1 := F1.out wx hx
    have f2 := F2.out wx hx
    have f3 := F3.out wx hx
    have f4 := F4.out wx hx
    have f5 := F5.out wx hx
    try simp only [Act.put, List.setIfInBounds_toArray, List.set_cons_zero, List.set_cons_succ]
    intro KK hK
    go_simp
    exact hK _ _ hx (Below.refl _ _) rfl
  apply Rel.rel_one2 11 [(6, 24), (9, 27)] rfl (by kernel_rfl) (by kernel_rfl)
  case hs =>
    intro wx hx
    rintro _ rfl _ rfl
    have f0 := F0.out wx hx
    have f1 := F1.out wx hx
    have f2 := F2.out wx hx
    have f3 := F3.out wx hx
    have f4 := F4.out wx hx
    have f5 := F5.out wx hx
    try simp only [Act.put, List.setIfInBounds_toArray, List.set_cons_zero, List.set_cons_succ]
    intro KK hK
    go_simp
    exact hK _ _ hx (Below.refl _ _) rfl
  apply Rel.rel_one2 12 [(6, 24), (10, 28)] rfl (by kernel_rfl) (by kernel_rfl)
  case hs =>
    intro wx hx
    rintro _ rfl _ rfl
    try simp only [Act.put, List.setIfInBounds_toArray, List.set_cons_zero, List.set_cons_succ]
    intro KK hK
    go_simp
    exact hK _ _ hx (Below.refl _ _) rfl
  apply Rel.rel_kind2 13 [(6, 24), (7, 25), (8, 26), (11, 29)] (TokV TS) rfl (by kernel_rfl) (by kernel_rfl) (tokV_stable)
  case hs =>
    intro wx hx
    rintro _ rfl _ rfl _ rfl _ rfl
    have f0 := F0.out wx hx
    have f1 := F1.out wx hx
    have f2 := F2.out wx hx
    have f3 := F3.out wx hx
    have f4 := F4.out wx hx
    have f5 := F5.out wx hx
    try simp only [Act.put, List.setIfInBounds_toArray, List.set_cons_zero, List.set_cons_succ]
    intro KK hK
    go_simp
    go_at_call 19
    refine (EA.out wx hx).mono ?_
    rintro e wy ⟨v, rfl, hkd, hby⟩
    exact hK _ _ (bchain hx hby) hby hkd
  apply Rel.rel_one2 14 [(6, 24)] rfl (by kernel_rfl) (by kernel_rfl)
  case hs =>
    intro wx hx
    rintro _ rfl
    have f0 := F0.out wx hx
    have f1 := F1.out wx hx
    have f2 := F2.out wx hx
    have f3 := F3.out wx hx
    have f4 := F4.out wx hx
    have f5 := F5.out wx hx
    try simp only [Act.put, List.setIfInBounds_toArray, List.set_cons_zero, List.set_cons_succ]
    intro KK hK
    go_simp
    exact hK _ _ hx (Below.refl _ _) rfl
  apply Rel.rel_one2 15 [(6, 24), (12, 30), (13, 31)] rfl (by kernel_rfl) (by kernel_rfl)
  case hs =>
    intro wx hx
    rintro _ rfl _ ⟨A30, c30, rfl, s30⟩ _ rfl
    have f0 := F0.out wx hx
    have f1 := F1.out wx hx
    have f2 := F2.out wx hx
    have f3 := F3.out wx hx
    have f4 := F4.out wx hx
    have f5 := F5.out wx hx
    try simp only [Act.put, List.setIfInBounds_toArray, List.set_cons_zero, List.set_cons_succ]
    intro KK hK
    go_simp
    go_at_call 18
    refine (same_eq TS _ _ _ _ _ wx (Nat.le_refl _) hTS s30 (SW.out wx hx)).mono ?_
    rintro e wy ⟨rfl, hby⟩
    exact hK _ _ (bchain hx hby) hby rfl
  apply Rel.rel_one2 16 [(6, 24), (14, 32)] rfl (by kernel_rfl) (by kernel_rfl)
  case hs =>
    intro wx hx
    rintro _ rfl _ rfl
    try simp only [Act.put, List.setIfInBounds_toArray, List.set_cons_zero, List.set_cons_succ]
    intro KK hK
    go_simp
    exact hK _ _ hx (Below.refl _ _) rfl
  apply Rel.rel_one2 17 [(6, 24), (15, 33)] rfl (by kernel_rfl) (by kernel_rfl)
  case hs =>
    intro wx hx
    rintro _ rfl _ rfl
    try simp only [Act.put, List.setIfInBounds_toArray, List.set_cons_zero, List.set_cons_succ]
    intro KK hK
    go_simp
    exact hK _ _ hx (Below.refl _ _) rfl
  refine Rel.rel_end [(0, 18), (1, 19), (2, 20), (3, 21), (4, 22), (5, 23), (6, 24), (7, 25), (8, 26), (9, 27), (10, 28), (11, 29), (12, 30), (13, 31), (14, 32), (15, 33), (16, 34)] (by kernel_rfl) (by kernel_rfl) ?_
  intro wx hx
  rintro _ rfl _ rfl _ ⟨A20, c20, rfl, s20⟩ _ rfl _ rfl _ rfl _ rfl _ rfl _ rfl _ rfl _ rfl _ rfl _ ⟨A30, c30, rfl, s30⟩ _ rfl _ rfl _ rfl _ rfl
  try simp only [Act.put, List.setIfInBounds_toArray, List.set_cons_zero, List.set_cons_succ]
  refine Rel.valsD_ret ?_
  clear s20 s30 EA F0 F1 F2 F3 F4 F5 OA
  have hb4' := bchain hb3' hx
  have bF4 := bF3.below hx bF3.lt
  have bS4 := bS3.below hx bS3.lt
  have bR4 := bR3.below hx bR3.lt
  have bW4 := bW3.below hx bW3.lt
  have sl4 := SW.out _ hx
  have hl4 := bW4.lt
  clear SW bF3 bS3 bR3 bW3 slW hx
  have e0 := bS4.cell 0
  have e1 := bW4.cell 0
  simp only [List.getElem?_toArray, List.getElem?_cons_zero] at e0 e1
  go_wp2_with fail
  clear e0 e1
  obtain ⟨w4, rfl⟩ : ∃ w4, w4 = wx := ⟨_, rfl⟩
  obtain ⟨M, hM, hMl⟩ : ∃ M : Nat, min (max st 0) (TS.length : Int) = (M : Int) ∧ M ≤ TS.length := ⟨(min (max st 0) (TS.length : Int)).toNat, by omega, by omega⟩
  rw [hM]
  have HM := Lib.hid hM
  have hTM : (TS.take M).length ≤ 1099511627776 := by rw [List.length_take]; omega
  have hml : (TS.take M).length = M := by rw [List.length_take]; omega
  clear hM
  have m0 : (0 : Int) ≤ (M : Int) := by omega
  have m2 : (M : Int) ≤ (c3 : Int) := by omega
  have m3 : M ≤ c3 := by omega
  have G0 := Lib.hid (fun (wx : World) (hx : Below w4.heap.size w4 wx) => (show wx.cell? ⟨w.heap.size, 0, none⟩ = some (.string nm) from ((bF4.below hx bF4.lt).cell 0).trans rfl))
  have G1 := Lib.hid (fun (wx : World) (hx : Below w4.heap.size w4 wx) => (show wx.cell? ⟨w.heap.size, 1, none⟩ = some (.int .i64 kd) from ((bF4.below hx bF4.lt).cell 1).trans rfl))
  have G2 := Lib.hid (fun (wx : World) (hx : Below w4.heap.size w4 wx) => (show wx.cell? ⟨w.heap.size, 2, none⟩ = some (.bool a) from ((bF4.below hx bF4.lt).cell 2).trans rfl))
  have G3 := Lib.hid (fun (wx : World) (hx : Below w4.heap.size w4 wx) => (show wx.cell? ⟨w.heap.size, 3, none⟩ = some (.bool b) from ((bF4.below hx bF4.lt).cell 3).trans rfl))
  have G4 := Lib.hid (fun (wx : World) (hx : Below w4.heap.size w4 wx) => (show wx.cell? ⟨w.heap.size, 4, none⟩ = some (.bool c) from ((bF4.below hx bF4.lt).cell 4).trans rfl))
  have G5 := Lib.hid (fun (wx : World) (hx : Below w4.heap.size w4 wx) => (show wx.cell? ⟨w2.heap.size, 0, none⟩ = some (.slice A3 TS.length c3) from ((bW4.below hx bW4.lt).cell 0).trans rfl))
  have hs4 := hb4'.size
  have SV := Lib.hid (fun (wx : World) (hx : Below w4.heap.size w4 wx) => slc_take ((sl4.below hx (Nat.le_refl _)).mono hx.size) M)
  have EM := Lib.hid (fun (wx : World) (hx : Below w4.heap.size w4 wx) => each_kind nm kd a b c s M wx (by omega) (by omega) (tab_below ht (bchain hb4' hx) h0) (by have := hx.size; omega))
  rw [← HTS.out] at EM
  have EN := Lib.hid (fun (wx : World) (hx : Below w4.heap.size w4 wx) => (EM.out wx hx).mono (R' := fun e w' => ∃ v, e = .returned v ∧ TokN (TS.take M) M v w' ∧ Below wx.heap.size wx w') (fun e w' ⟨v, he, ⟨A, cp, hv, hsl⟩, hb⟩ => ⟨v, he, ⟨A, cp, by rw [hv, hml], hsl⟩, hb⟩))
  clear EM
  refine Rel.wp_region_rel (fun wx => Below w4.heap.size w4 wx) (fun wa wb => Below wa.heap.size wa wb) (by kernel_rfl) (by kernel_rfl) (bdrew (Below.refl _ _)) (fun _ => Below.refl _ _) ?_
  apply Rel.rel_one2 1 [] rfl (by kernel_rfl) (by kernel_rfl)
  case hs =>
    intro wx hx
    have f0 := G0.out wx hx
    have f1 := G1.out wx hx
    have f2 := G2.out wx hx
    have f3 := G3.out wx hx
    have f4 := G4.out wx hx
    have f5 := G5.out wx hx
    try simp only [Act.put, List.setIfInBounds_toArray, List.set_cons_zero, List.set_cons_succ]
    intro KK hK
    go_simp
    exact hK _ _ hx (Below.refl _ _) rfl
  apply Rel.rel_one2 2 [] rfl (by kernel_rfl) (by kernel_rfl)
  case hs =>
    intro wx hx
    try simp only [Act.put, List.setIfInBounds_toArray, List.set_cons_zero, List.set_cons_succ]
    intro KK hK
    go_simp
    exact hK _ _ hx (Below.refl _ _) rfl
  apply Rel.rel_one2 3 [] rfl (by kernel_rfl) (by kernel_rfl)
  case hs =>
    intro wx hx
    try simp only [Act.put, List.setIfInBounds_toArray, List.set_cons_zero, List.set_cons_succ]
    intro KK hK
    go_simp
    exact hK _ _ hx (Below.refl _ _) rfl
  apply Rel.rel_kind2 4 [(0, 40), (1, 41), (2, 42)] (TokN (TS.take M) M) rfl (by kernel_rfl) (by kernel_rfl) (tokN_stable)
  case hs =>
    intro wx hx
    rintro _ rfl _ rfl _ rfl
    have f0 := G0.out wx hx
    have f1 := G1.out wx hx
    have f2 := G2.out wx hx
    have f3 := G3.out wx hx
    have f4 := G4.out wx hx
    have f5 := G5.out wx hx
    try simp only [Act.put, List.setIfInBounds_toArray, List.set_cons_zero, List.set_cons_succ]
    intro KK hK
    go_simp
    go_at_call 19
    refine (EN.out wx hx).mono ?_
    rintro e wy ⟨v, rfl, hkd, hby⟩
    exact hK _ _ (bchain hx hby) hby hkd
  apply Rel.rel_one2 5 [] rfl (by kernel_rfl) (by kernel_rfl)
  case hs =>
    intro wx hx
    have f0 := G0.out wx hx
    have f1 := G1.out wx hx
    have f2 := G2.out wx hx
    have f3 := G3.out wx hx
    have f4 := G4.out wx hx
    have f5 := G5.out wx hx
    try simp only [Act.put, List.setIfInBounds_toArray, List.set_cons_zero, List.set_cons_succ]
    intro KK hK
    go_simp
    exact hK _ _ hx (Below.refl _ _) rfl
  apply Rel.rel_one2 6 [] rfl (by kernel_rfl) (by kernel_rfl)
  case hs =>
    intro wx hx
    try simp only [Act.put, List.setIfInBounds_toArray, List.set_cons_zero, List.set_cons_succ]
    intro KK hK
    go_simp
    exact hK _ _ hx (Below.refl _ _) rfl
  apply Rel.rel_one2 7 [(4, 44), (5, 45)] rfl (by kernel_rfl) (by kernel_rfl)
  case hs =>
    intro wx hx
    rintro _ rfl _ rfl
    try simp only [Act.put, List.setIfInBounds_toArray, List.set_cons_zero, List.set_cons_succ]
    intro KK hK
    go_simp
    exact hK _ _ hx (Below.refl _ _) rfl
  apply Rel.rel_one2 8 [(3, 43), (6, 46)] rfl (by kernel_rfl) (by kernel_rfl)
  case hs =>
    intro wx hx
    rintro _ ⟨A43, c43, rfl, s43⟩ _ rfl
    have f0 := G0.out wx hx
    have f1 := G1.out wx hx
    have f2 := G2.out wx hx
    have f3 := G3.out wx hx
    have f4 := G4.out wx hx
    have f5 := G5.out wx hx
    try simp only [Act.put, List.setIfInBounds_toArray, List.set_cons_zero, List.set_cons_succ]
    intro KK hK
    go_simp
    go_at_call 18
    refine (same_n (TS.take M) M hml _ _ _ _ _ wx (Nat.le_refl _) hTM s43 (SV.out wx hx)).mono ?_
    rintro e wy ⟨rfl, hby⟩
    exact hK _ _ (bchain hx hby) hby rfl
  apply Rel.rel_one2 9 [(7, 47)] rfl (by kernel_rfl) (by kernel_rfl)
  case hs =>
    intro wx hx
    rintro _ rfl
    try simp only [Act.put, List.setIfInBounds_toArray, List.set_cons_zero, List.set_cons_succ]
    intro KK hK
    go_simp
    exact hK _ _ hx (Below.refl _ _) rfl
  refine Rel.rel_end [(0, 40), (1, 41), (2, 42), (3, 43), (4, 44), (5, 45), (6, 46), (7, 47), (8, 48)] (by kernel_rfl) (by kernel_rfl) ?_
  intro wx hx
  rintro _ rfl _ rfl _ rfl _ ⟨A43, c43, rfl, s43⟩ _ rfl _ rfl _ rfl _ rfl _ rfl
  try simp only [Act.put, List.setIfInBounds_toArray, List.set_cons_zero, List.set_cons_succ]
  refine Rel.valsD_ret ?_
  clear s43 EN G0 G1 G2 G3 G4 G5
  have hb5' := bchain hb4' hx
  have bF5 := bF4.below hx bF4.lt
  have bS5 := bS4.below hx bS4.lt
  have bR5 := bR4.below hx bR4.lt
  have bW5 := bW4.below hx bW4.lt
  have sl5 := (sl4.below hx (Nat.le_refl _)).mono hx.size
  clear SV bF4 bS4 bR4 bW4 sl4 hx
  obtain ⟨w5, rfl⟩ : ∃ w5, w5 = wx := ⟨_, rfl⟩
  have f0 := bF5.cell 0
  have f1 := bF5.cell 1
  have f2 := bF5.cell 2
  have f3 := bF5.cell 3
  have f4 := bF5.cell 4
  simp only [List.getElem?_toArray, List.getElem?_cons_zero, List.getElem?_cons_succ] at f0 f1 f2 f3 f4
  go_wp2_with (go_at_call 20; refine (each_any nm kd a b c s _).mono ?_; rintro e w' ⟨rfl, rfl⟩)
  have hz6 : ((w5.alloc (.cells #[.string nm, .int .i64 kd, .bool a, .bool b, .bool c] 26)).alloc (.cells #[.string s] 9)).heap.size = w5.heap.size + 1 + 1 := by simp only [World.size_alloc]
  have bF6 := (Blk.new w5 26 #[.string nm, .int .i64 kd, .bool a, .bool b, .bool c]).alloc (.cells #[.string s] 9)
  have bT6 := Blk.new (w5.alloc (.cells #[.string nm, .int .i64 kd, .bool a, .bool b, .bool c] 26)) 9 #[.string s]
  have hb6 : Below w5.heap.size w5 ((w5.alloc (.cells #[.string nm, .int .i64 kd, .bool a, .bool b, .bool c] 26)).alloc (.cells #[.string s] 9)) := by (repeat (first | exact Below.refl _ _ | assumption | refine balloc ?_ _ | refine bdrew ?_ | refine bdrewN ?_ _ | refine bchain ?_ (by assumption)))
  simp only [World.size_alloc] at bT6
  obtain ⟨w6, hw6⟩ : ∃ w6, w6 = (w5.alloc (.cells #[.string nm, .int .i64 kd, .bool a, .bool b, .bool c] 26)).alloc (.cells #[.string s] 9) := ⟨_, rfl⟩
  rw [← hw6] at hz6 bF6 bT6 hb6 ⊢
  clear hw6 f0 f1 f2 f3 f4
  have hb6' := bchain hb5' hb6
  have bS6 := bS5.below hb6 bS5.lt
  have bR6 := bR5.below hb6 bR5.lt
  have bW6 := bW5.below hb6 bW5.lt
  have sl6 := (sl5.below hb6 (Nat.le_refl _)).mono hb6.size
  clear bF5 bS5 bR5 bW5 sl5
  obtain ⟨I, hI⟩ : ∃ I : Act → World → Prop, I = fun a' W => ∃ (t tb : Nat) (x11 x54 x55 x56 x57 x58 x81 x82 x83 x84 x85 x86 x87 x88 x89 x90 x91 x92 x93 x94 : Value) (ds : List Deferred), a' = { tmps := #[.agg #[.string nm, .int .i64 kd, .bool a, .bool b, .bool c], .string s, .int .i64 st, .pointer (some ⟨w.heap.size, 0, none⟩), undef, .pointer (some ⟨w.heap.size + 1, 0, none⟩), .pointer (some ⟨w.heap.size + 1 + 1, 0, none⟩), .pointer (some ⟨w2.heap.size, 0, none⟩), .int .i64 (M : Nat), .func (.func 46) #[] #[.pointer (some ⟨w5.heap.size, 0, none⟩), .pointer (some ⟨w5.heap.size + 1, 0, none⟩)], .pointer (some ⟨tb, 0, none⟩), x11, undef, .bool true, .bool false, .agg #[.string nm, .int .i64 kd, .bool a, .bool b, .bool c], .string s, .slice A3 TS.length c3, .agg #[.string nm, .int .i64 kd, .bool a, .bool b, .bool c], .string s, .slice A20 TS.length c20, .slice A3 TS.length c3, .bool true, .bool false, .bool false, .agg #[.string nm, .int .i64 kd, .bool a, .bool b, .bool c], .string s, .slice A3 TS.length c3, .int .i64 (TS.length : Nat), .int .i64 (m1 : Nat), .slice A30 TS.length c30, .slice A3 TS.length c3, .bool true, .bool false, .bool false, .int .i64 st, .int .i64 (max st 0), .slice A3 TS.length c3, .int .i64 (TS.length : Nat), .int .i64 (M : Nat), .agg #[.string nm, .int .i64 kd, .bool a, .bool b, .bool c], .string s, .int .i64 (M : Nat), .slice A43 M c43, .slice A3 TS.length c3, .int .i64 (M : Nat), .slice A3 M c3, .bool true, .bool false, .agg #[.string nm, .int .i64 kd, .bool a, .bool b, .bool c], .string s, .func (.func 46) #[] #[.pointer (some ⟨w5.heap.size, 0, none⟩), .pointer (some ⟨w5.heap.size + 1, 0, none⟩)], .func (.func 46) #[] #[.pointer (some ⟨w5.heap.size, 0, none⟩), .pointer (some ⟨w5.heap.size + 1, 0, none⟩)], .bool false, x54, x55, x56, x57, x58, undef, undef, undef, undef, undef, undef, undef, undef, undef, undef, undef, undef, undef, undef, undef, undef, undef, undef, undef, undef, undef, undef, x81, x82, x83, x84, x85, x86, x87, x88, x89, x90, x91, x92, x93, x94], defers := ds } ∧ t ≤ 2 ∧ ds.length = t ∧ w6.heap.size ≤ tb ∧
      Blk W tb 3 #[.int .i64 (t : Nat)] ∧ Marks W ds W.heap.size ∧ (∀ d ∈ ds, ∀ D, d.target = .collected D → w6.heap.size ≤ D) ∧ Below w6.heap.size w6 W := ⟨_, rfl⟩
  have HZ6 := Lib.hid hz6
  have HI := Lib.hid hI
  clear hI
  refine wp_loop I (fun a' _ => 2 - a'.defers.length) ?start ?round
  case start =>
    rw [HI.out]
    exact ⟨0, w6.heap.size, undef, undef, undef, undef, undef, undef, undef, undef, undef, undef, undef, undef, undef, undef, undef, undef, undef, undef, undef, undef, [], by rw [hz6], Nat.zero_le _, rfl, Nat.le_refl _, Blk.new w6 _ _, trivial, (fun d hd => by cases hd), balloc (Below.refl _ _) _⟩
  case round =>
    clear hz6
    intro a' W hIa
    rw [HI.out] at hIa
    obtain ⟨t, tb, x11, x54, x55, x56, x57, x58, x81, x82, x83, x84, x85, x86, x87, x88, x89, x90, x91, x92, x93, x94, ds, rfl, ht2, hds, htb, bTb, hMk, hdn, hbl⟩ := hIa
    have cT := bTb.cell 0
    simp only [List.getElem?_toArray, List.getElem?_cons_zero] at cT
    have hlb := hbl.size
    by_cases hlt : t < 2
    · go_wp2_with fail
      have bN := Blk.new W 3 #[.int .i64 0]
      have bTl := bTb.alloc (.cells #[.int .i64 0] 3)
      have hMl := hMk.below (balloc (Below.refl W.heap.size W) (.cells #[.int .i64 0] 3)) (Nat.le_refl _)
      have hbll : Below w6.heap.size w6 (W.alloc (.cells #[.int .i64 0] 3)) := hbl.trans ((balloc (Below.refl W.heap.size W) _).mono hlb)
      have htbW := bTb.lt
      obtain ⟨Wl, hWl⟩ : ∃ Wl, Wl = W.alloc (.cells #[.int .i64 0] 3) := ⟨_, rfl⟩
      have hzl : Wl.heap.size = W.heap.size + 1 := by rw [hWl]; simp only [World.size_alloc]
      rw [← hWl] at bN bTl hMl hbll ⊢
      clear hWl
      have hRb := bR6.lt
      have hz6 := HZ6.out
      have hseq := each_stops (E := fun _ k => k = W.heap.size ∨ k = w.heap.size + 1 + 1) (m := Wl.heap.size) (fun _ _ _ _ h => h) nm kd a b c s w5.heap.size (w5.heap.size + 1) 7 Wl (by omega) (by omega) (Nat.le_refl _)
        (fun k he => by rcases he with he | he <;> omega) (tab_below ht (bchain hb6' hbll) h0) (by omega) (bF6.below hbll bF6.lt) (bT6.below hbll bT6.lt)
      rw [← HTS.out] at hseq
      clear hz6
      refine (wpIn_wide (n := 8)).1 ?_
      refine wpIn_rangeFunc_ownH rfl (by omega) (gf := 46) (lb := #[.pointer (some ⟨w5.heap.size, 0, none⟩), .pointer (some ⟨w5.heap.size + 1, 0, none⟩)]) rfl trivial (enters_of Tryd.func46 (by kernel_rfl) rfl)
        hseq Keep.trans (keep_b (m := Wl.heap.size) (fun _ _ _ _ h => h) (Nat.le_refl _)) (Below.refl _ _) (fun _ => rfl)
        (Inv2 w6 W.heap.size tb t ds TS.length) (Inv2X w6 W.heap.size tb t ds TS st) (inv2_own _ _ _ _ _ _ _ (by omega) (by omega)) (fun c => inv2X_own _ _ _ _ _ _ _ _ (by omega) (by omega) c)
        ⟨bN, bTl, hbll, hMl, by omega, Nat.zero_le _⟩
        (fun x a' W' => ∃ Bx, Wl.heap.size ≤ Bx ∧ Blk W' Bx 32 (tokRow x) ∧ a' = { tmps := #[.agg #[.string nm, .int .i64 kd, .bool a, .bool b, .bool c], .string s, .int .i64 st, .pointer (some ⟨w.heap.size, 0, none⟩), undef, .pointer (some ⟨w.heap.size + 1, 0, none⟩), .pointer (some ⟨w.heap.size + 1 + 1, 0, none⟩), .pointer (some ⟨w2.heap.size, 0, none⟩), .int .i64 (M : Nat), .func (.func 46) #[] #[.pointer (some ⟨w5.heap.size, 0, none⟩), .pointer (some ⟨w5.heap.size + 1, 0, none⟩)], .pointer (some ⟨tb, 0, none⟩), .pointer (some ⟨W.heap.size, 0, none⟩), .pointer (some ⟨Bx, 0, none⟩), .bool true, .bool false, .agg #[.string nm, .int .i64 kd, .bool a, .bool b, .bool c], .string s, .slice A3 TS.length c3, .agg #[.string nm, .int .i64 kd, .bool a, .bool b, .bool c], .string s, .slice A20 TS.length c20, .slice A3 TS.length c3, .bool true, .bool false, .bool false, .agg #[.string nm, .int .i64 kd, .bool a, .bool b, .bool c], .string s, .slice A3 TS.length c3, .int .i64 (TS.length : Nat), .int .i64 (m1 : Nat), .slice A30 TS.length c30, .slice A3 TS.length c3, .bool true, .bool false, .bool false, .int .i64 st, .int .i64 (max st 0), .slice A3 TS.length c3, .int .i64 (TS.length : Nat), .int .i64 (M : Nat), .agg #[.string nm, .int .i64 kd, .bool a, .bool b, .bool c], .string s, .int .i64 (M : Nat), .slice A43 M c43, .slice A3 TS.length c3, .int .i64 (M : Nat), .slice A3 M c3, .bool true, .bool false, .agg #[.string nm, .int .i64 kd, .bool a, .bool b, .bool c], .string s, .func (.func 46) #[] #[.pointer (some ⟨w5.heap.size, 0, none⟩), .pointer (some ⟨w5.heap.size + 1, 0, none⟩)], .func (.func 46) #[] #[.pointer (some ⟨w5.heap.size, 0, none⟩), .pointer (some ⟨w5.heap.size + 1, 0, none⟩)], .bool false, .int .i64 (t : Nat), .bool true, x56, x57, .func (.func 46) #[] #[.pointer (some ⟨w5.heap.size, 0, none⟩), .pointer (some ⟨w5.heap.size + 1, 0, none⟩)], .agg #[.string x.text, .int .i64 x.value, .int .i64 x.pos, .int .i64 x.start, .int .i64 x.stop], undef, undef, undef, undef, undef, undef, undef, undef, undef, undef, undef, undef, undef, undef, undef, undef, undef, undef, undef, undef, undef, x81, x82, x83, x84, x85, x86, x87, x88, x89, x90, x91, x92, x93, x94], defers := [] })
        (fun x a' _ X Y row hs hg hr => by obtain ⟨Bx, h1, h2, h3⟩ := hs; exact ⟨Bx, h1, blk_kept h2 hg (fun r e => (hr r e).2), h3⟩)
        ?assign ?body ?done ?stop
      case assign =>
        rintro l pre x W1 K hi hK
        have hW0 := hi.2.2.2.2.1
        unfold tokV
        gi_wp2_with fail
        refine hK _ _ ((KeepsOthers.alloc _ _).from _) (Keep.below (m := Wl.heap.size) (fun _ _ _ _ h => h) (balloc (Below.refl _ _) _) (by omega)) (inv2_own w6 W.heap.size tb t ds TS.length Wl.heap.size (by omega) (by omega) pre W1 _ none hi (World.grownBy_alloc W1 _ none) (fun r e => by cases e)) ⟨W1.heap.size, by omega, Blk.new W1 _ _, rfl⟩
      case body =>
        rintro l pre x a' W1 hl _ hi ⟨Bx, hBx, bX, rfl⟩ hlt2
        obtain ⟨bN1, bT1, hb1x, hM1, hnb1, hpl⟩ := hi
        obtain ⟨tk, htk⟩ : ∃ tk, TS[pre.length]? = some tk := ⟨_, List.getElem?_eq_getElem hlt2⟩
        have hne : tokCells TS ≠ [] := by
          intro h
          have := tokCells_len TS
          rw [h] at this
          simp at this
          omega
        obtain ⟨g3, o3, rfl, hg3, hc3⟩ := (sl6.below hb1x (Nat.le_refl _)) hne
        obtain ⟨q0, q1, q2, q3, q4⟩ := tok_five (B := 0) hc3 htk
        have hs1x := hb1x.size
        have hg3' : g3 < W1.heap.size := by omega
        have bW1 := bW6.below hb1x bW6.lt
        have bR1 := bR6.below hb1x bR6.lt
        have bS1 := bS6.below hb1x bS6.lt
        unfold tokRow at bX
        have N0 := Lib.hid (fun (wx : World) (hx : Below W1.heap.size W1 wx) => (show wx.cell? ⟨W.heap.size, 0, none⟩ = some (.int .i64 (pre.length : Nat)) from ((bN1.below hx bN1.lt).cell 0).trans rfl))
        have N1 := Lib.hid (fun (wx : World) (hx : Below W1.heap.size W1 wx) => (show wx.cell? ⟨w2.heap.size, 0, none⟩ = some (.slice (some ⟨g3, o3, none⟩) TS.length c3) from ((bW1.below hx bW1.lt).cell 0).trans rfl))
        have Y0 := Lib.hid (fun (wx : World) (hx : Below W1.heap.size W1 wx) => (show wx.cell? ⟨Bx, 0, none⟩ = some (.string x.text) from ((bX.below hx bX.lt).cell 0).trans rfl))
        have Y1 := Lib.hid (fun (wx : World) (hx : Below W1.heap.size W1 wx) => (show wx.cell? ⟨Bx, 1, none⟩ = some (.int .i64 x.value) from ((bX.below hx bX.lt).cell 1).trans rfl))
        have Y2 := Lib.hid (fun (wx : World) (hx : Below W1.heap.size W1 wx) => (show wx.cell? ⟨Bx, 2, none⟩ = some (.int .i64 x.pos) from ((bX.below hx bX.lt).cell 2).trans rfl))
        have Y3 := Lib.hid (fun (wx : World) (hx : Below W1.heap.size W1 wx) => (show wx.cell? ⟨Bx, 3, none⟩ = some (.int .i64 x.start) from ((bX.below hx bX.lt).cell 3).trans rfl))
        have Y4 := Lib.hid (fun (wx : World) (hx : Below W1.heap.size W1 wx) => (show wx.cell? ⟨Bx, 4, none⟩ = some (.int .i64 x.stop) from ((bX.below hx bX.lt).cell 4).trans rfl))
        have Q0 := Lib.hid (fun (wx : World) (hx : Below W1.heap.size W1 wx) => (hx.cell (p := ⟨g3, o3 + pre.length * 5, none⟩) hg3').trans q0)
        have Q1 := Lib.hid (fun (wx : World) (hx : Below W1.heap.size W1 wx) => (hx.cell (p := ⟨g3, o3 + pre.length * 5 + 1, none⟩) hg3').trans q1)
        have Q2 := Lib.hid (fun (wx : World) (hx : Below W1.heap.size W1 wx) => (hx.cell (p := ⟨g3, o3 + pre.length * 5 + 2, none⟩) hg3').trans q2)
        have Q3 := Lib.hid (fun (wx : World) (hx : Below W1.heap.size W1 wx) => (hx.cell (p := ⟨g3, o3 + pre.length * 5 + 3, none⟩) hg3').trans q3)
        have Q4 := Lib.hid (fun (wx : World) (hx : Below W1.heap.size W1 wx) => (hx.cell (p := ⟨g3, o3 + pre.length * 5 + 4, none⟩) hg3').trans q4)
        clear q0 q1 q2 q3 q4 hc3 hne
        have hgeF : decide ((TS.length : Int) ≤ (pre.length : Int)) = false := decide_eq_false (by omega)
        have hgeN : decide (TS.length ≤ pre.length) = false := decide_eq_false (by omega)
        have hp0 : (0 : Int) ≤ (pre.length : Int) := by omega
        have hp1 : (pre.length : Int) < (TS.length : Int) := by omega
        gi_wp2_with fail
        refine wpIn_region_rel (fun wx => Below W1.heap.size W1 wx) (fun wa wb => Below wa.heap.size wa wb) (by kernel_rfl) (by kernel_rfl) (by kernel_rfl) (fun ⟨_, _, h⟩ => h) (bdrew (Below.refl _ _)) (fun _ => Below.refl _ _) ?_
        apply Rel.rel_one2 1 [] rfl (by kernel_rfl) (by kernel_rfl)
        case hs =>
          intro wx hx
          have n0 := N0.out wx hx
          have n1 := N1.out wx hx
          have y0 := Y0.out wx hx
          have y1 := Y1.out wx hx
          have y2 := Y2.out wx hx
          have y3 := Y3.out wx hx
          have y4 := Y4.out wx hx
          have q0 := Q0.out wx hx
          have q1 := Q1.out wx hx
          have q2 := Q2.out wx hx
          have q3 := Q3.out wx hx
          have q4 := Q4.out wx hx
          try simp only [Act.put, List.setIfInBounds_toArray, List.set_cons_zero, List.set_cons_succ]
          intro KK hK
          go_simp
          exact hK _ _ hx (Below.refl _ _) rfl
        apply Rel.rel_one2 2 [] rfl (by kernel_rfl) (by kernel_rfl)
        case hs =>
          intro wx hx
          have n0 := N0.out wx hx
          have n1 := N1.out wx hx
          have y0 := Y0.out wx hx
          have y1 := Y1.out wx hx
          have y2 := Y2.out wx hx
          have y3 := Y3.out wx hx
          have y4 := Y4.out wx hx
          have q0 := Q0.out wx hx
          have q1 := Q1.out wx hx
          have q2 := Q2.out wx hx
          have q3 := Q3.out wx hx
          have q4 := Q4.out wx hx
          try simp only [Act.put, List.setIfInBounds_toArray, List.set_cons_zero, List.set_cons_succ]
          intro KK hK
          go_simp
          exact hK _ _ hx (Below.refl _ _) rfl
        apply Rel.rel_one2 3 [(1, 61)] rfl (by kernel_rfl) (by kernel_rfl)
        case hs =>
          intro wx hx
          rintro _ rfl
          have n0 := N0.out wx hx
          have n1 := N1.out wx hx
          have y0 := Y0.out wx hx
          have y1 := Y1.out wx hx
          have y2 := Y2.out wx hx
          have y3 := Y3.out wx hx
          have y4 := Y4.out wx hx
          have q0 := Q0.out wx hx
          have q1 := Q1.out wx hx
          have q2 := Q2.out wx hx
          have q3 := Q3.out wx hx
          have q4 := Q4.out wx hx
          try simp only [Act.put, List.setIfInBounds_toArray, List.set_cons_zero, List.set_cons_succ]
          intro KK hK
          go_simp
          exact hK _ _ hx (Below.refl _ _) rfl
        apply Rel.rel_one2 4 [(0, 60), (2, 62)] rfl (by kernel_rfl) (by kernel_rfl)
        case hs =>
          intro wx hx
          rintro _ rfl _ rfl
          try simp only [Act.put, List.setIfInBounds_toArray, List.set_cons_zero, List.set_cons_succ]
          intro KK hK
          go_simp
          exact hK _ _ hx (Below.refl _ _) rfl
        apply Rel.rel_one2 5 [(3, 63)] rfl (by kernel_rfl) (by kernel_rfl)
        case hs =>
          intro wx hx
          rintro _ rfl
          try simp only [Act.put, List.setIfInBounds_toArray, List.set_cons_zero, List.set_cons_succ]
          intro KK hK
          go_simp
          exact hK _ _ hx (Below.refl _ _) rfl
        apply Rel.rel_one2 6 [(4, 64)] rfl (by kernel_rfl) (by kernel_rfl)
        case hs =>
          intro wx hx
          rintro _ rfl
          have n0 := N0.out wx hx
          have n1 := N1.out wx hx
          have y0 := Y0.out wx hx
          have y1 := Y1.out wx hx
          have y2 := Y2.out wx hx
          have y3 := Y3.out wx hx
          have y4 := Y4.out wx hx
          have q0 := Q0.out wx hx
          have q1 := Q1.out wx hx
          have q2 := Q2.out wx hx
          have q3 := Q3.out wx hx
          have q4 := Q4.out wx hx
          try simp only [Act.put, List.setIfInBounds_toArray, List.set_cons_zero, List.set_cons_succ]
          intro KK hK
          go_simp
          exact hK _ _ hx (Below.refl _ _) rfl
        apply Rel.rel_one2 7 [(4, 64)] rfl (by kernel_rfl) (by kernel_rfl)
        case hs =>
          intro wx hx
          rintro _ rfl
          have n0 := N0.out wx hx
          have n1 := N1.out wx hx
          have y0 := Y0.out wx hx
          have y1 := Y1.out wx hx
          have y2 := Y2.out wx hx
          have y3 := Y3.out wx hx
          have y4 := Y4.out wx hx
          have q0 := Q0.out wx hx
          have q1 := Q1.out wx hx
          have q2 := Q2.out wx hx
          have q3 := Q3.out wx hx
          have q4 := Q4.out wx hx
          try simp only [Act.put, List.setIfInBounds_toArray, List.set_cons_zero, List.set_cons_succ]
          intro KK hK
          go_simp
          exact hK _ _ hx (Below.refl _ _) rfl
        apply Rel.rel_one2 8 [(4, 64)] rfl (by kernel_rfl) (by kernel_rfl)
        case hs =>
          intro wx hx
          rintro _ rfl
          have n0 := N0.out wx hx
          have n1 := N1.out wx hx
          have y0 := Y0.out wx hx
          have y1 := Y1.out wx hx
          have y2 := Y2.out wx hx
          have y3 := Y3.out wx hx
          have y4 := Y4.out wx hx
          have q0 := Q0.out wx hx
          have q1 := Q1.out wx hx
          have q2 := Q2.out wx hx
          have q3 := Q3.out wx hx
          have q4 := Q4.out wx hx
          try simp only [Act.put, List.setIfInBounds_toArray, List.set_cons_zero, List.set_cons_succ]
          intro KK hK
          go_simp
          exact hK _ _ hx (Below.refl _ _) rfl
        apply Rel.rel_one2 9 [(4, 64), (6, 66), (7, 67)] rfl (by kernel_rfl) (by kernel_rfl)
        case hs =>
          intro wx hx
          rintro _ rfl _ rfl _ rfl
          try simp only [Act.put, List.setIfInBounds_toArray, List.set_cons_zero, List.set_cons_succ]
          intro KK hK
          go_simp
          exact hK _ _ hx (Below.refl _ _) rfl
        apply Rel.rel_one2 10 [(4, 64), (8, 68)] rfl (by kernel_rfl) (by kernel_rfl)
        case hs =>
          intro wx hx
          rintro _ rfl _ rfl
          have n0 := N0.out wx hx
          have n1 := N1.out wx hx
          have y0 := Y0.out wx hx
          have y1 := Y1.out wx hx
          have y2 := Y2.out wx hx
          have y3 := Y3.out wx hx
          have y4 := Y4.out wx hx
          have q0 := Q0.out wx hx
          have q1 := Q1.out wx hx
          have q2 := Q2.out wx hx
          have q3 := Q3.out wx hx
          have q4 := Q4.out wx hx
          try simp only [Act.put, List.setIfInBounds_toArray, List.set_cons_zero, List.set_cons_succ]
          intro KK hK
          go_simp
          exact hK _ _ hx (Below.refl _ _) rfl
        apply Rel.rel_kind2 11 [(4, 64), (5, 65), (9, 69)] (NeB x tk) rfl (by kernel_rfl) (by kernel_rfl) (neB_stable)
        case hs =>
          intro wx hx
          rintro _ rfl _ rfl _ rfl
          try simp only [Act.put, List.setIfInBounds_toArray, List.set_cons_zero, List.set_cons_succ]
          intro KK hK
          go_simp
          by_cases exy : x = tk
          · subst exy; simp only [↓reduceIte, Oper.upon_value]; exact hK _ _ hx (Below.refl _ _) ⟨false, rfl, fun _ => rfl⟩
          repeat' split
          all_goals (simp only [Oper.upon_value])
          all_goals (exact hK _ _ hx (Below.refl _ _) ⟨_, rfl, fun h => absurd h exy⟩)
        apply Rel.rel_kind2 12 [(4, 64), (10, 70)] (NeB x tk) rfl (by kernel_rfl) (by kernel_rfl) (neB_stable)
        case hs =>
          intro wx hx
          rintro _ rfl _ ⟨b70, rfl, i70⟩
          try simp only [Act.put, List.setIfInBounds_toArray, List.set_cons_zero, List.set_cons_succ]
          intro KK hK
          go_simp
          exact hK _ _ hx (Below.refl _ _) ⟨b70, rfl, i70⟩
        refine Rel.rel_end [(0, 60), (1, 61), (2, 62), (3, 63), (4, 64), (5, 65), (6, 66), (7, 67), (8, 68), (9, 69), (10, 70), (11, 71)] (by kernel_rfl) (by kernel_rfl) ?_
        intro wx hx
        rintro _ rfl _ rfl _ rfl _ rfl _ rfl _ rfl _ rfl _ rfl _ rfl _ rfl _ ⟨b70, rfl, i70⟩ _ ⟨b71, rfl, i71⟩
        try simp only [Act.put, List.setIfInBounds_toArray, List.set_cons_zero, List.set_cons_succ]
        refine Rel.valsD_ret ?_
        have bNx := bN1.below hx bN1.lt
        have bTx := bT1.below hx bT1.lt
        have bRx := bR1.below hx bR1.lt
        have bSx := bS1.below hx bS1.lt
        have n0 := bNx.cell 0
        have n1 := bNx.frozen 0
        have t0 := bTx.cell 0
        have r0 := bRx.cell 0
        have r1 := bRx.frozen 0
        have s0 := bSx.cell 0
        simp only [List.getElem?_toArray, List.getElem?_cons_zero] at n0 t0 r0 s0
        clear N0 N1 Y0 Y1 Y2 Y3 Y4 Q0 Q1 Q2 Q3 Q4 bN1 bT1 bR1 bS1 bW1
        cases b71 with
        | true =>
          gi_wp2_with fail
          refine ⟨(kf_below hx).trans ((KeepsOthers.setCell _ _ _).from _), .inr fun hpre => ?_⟩
          have hxe := i71 (pre_last hpre htk)
          cases hxe
        | false =>
          have hbt : tb ≠ W.heap.size := by omega
          by_cases hst0 : t = 0 ∧ st < (pre.length : Int) + 1
          · obtain ⟨ht0, hgt⟩ := hst0
            gi_wp2_with fail
            all_goals subst ht0
            all_goals exact ⟨(kf_below hx).trans ((KeepsOthers.setCell _ _ _).from _), .inl ⟨rfl, rfl, by simp only [List.length_append, List.length_cons, List.length_nil]; omega, inv2_step bNx bTx hb1x hx hM1 hnb1 hlt2 hbt (by omega)⟩⟩
          · have hk : ¬ (t = 0) ∨ (pre.length : Int) + 1 ≤ st := by omega
            gi_wp2_with fail
            all_goals first | exact ⟨(kf_below hx).trans ((KeepsOthers.setCell _ _ _).from _), (keep_belowE hx).trans (keep_setE wx _), inv2_step bNx bTx hb1x hx hM1 hnb1 hlt2 hbt (by omega)⟩ | (obtain rfl : t = 0 := (by assumption); exact ⟨(kf_below hx).trans ((KeepsOthers.setCell _ _ _).from _), (keep_belowE hx).trans (keep_setE wx _), inv2_step bNx bTx hb1x hx hM1 hnb1 hlt2 hbt (by omega)⟩)
      case done =>
        rintro D ys W1 hD hS ⟨bN1, bT1, hb1x, hM1, hnb1, hpl⟩ hK
        rw [hS] at bN1
        clear hS hpl ys
        have bW1 := bW6.below hb1x bW6.lt
        have bS1 := bS6.below hb1x bS6.lt
        have n0 := bN1.cell 0
        have t0 := bT1.cell 0
        have s0 := bS1.cell 0
        have w0 := bW1.cell 0
        simp only [List.getElem?_toArray, List.getElem?_cons_zero] at n0 t0 s0 w0
        have hnl : ¬ ((TS.length : Int) < (TS.length : Int)) := by omega
        go_wp2_with fail
        have hz1 := hb1x.size
        rw [HI.out]
        refine ⟨⟨t + 1, W1.heap.size, _, _, _, _, _, _, _, _, _, _, _, _, _, _, _, _, _, _, _, _, { target := .collected D, args := #[] } :: ds, rfl, by omega, by rw [List.length_cons, hds], hz1, blk_turn W1 t, ((marks_push hM1 (by omega) hK).others (KeepsOthers.alloc _ _)).mono (by simp only [World.size_alloc]; omega), marks_from hdn (by omega), hb1x.trans ((balloc (Below.refl W1.heap.size W1) _).mono hz1)⟩, ?_⟩
        (try simp only [List.length_cons]) <;> omega
      case stop =>
        rintro D cc pre W1 hD hpre hix hK
        rcases hix with ⟨rfl, ht0, hgt, bN1, bT1, hb1x, hM1, hnb1, hpl⟩ | hno
        · have bW1 := bW6.below hb1x bW6.lt
          have bS1 := bS6.below hb1x bS6.lt
          have n0 := bN1.cell 0
          have t0 := bT1.cell 0
          have s0 := bS1.cell 0
          have w0 := bW1.cell 0
          simp only [List.getElem?_toArray, List.getElem?_cons_zero] at n0 t0 s0 w0
          subst ht0
          refine wpIn_wide.2 ?_
          have hz1 := hb1x.size
          by_cases hnl : pre.length < TS.length
          · go_wp2_with fail
            rw [HI.out]
            refine ⟨⟨1, W1.heap.size, _, _, _, _, _, _, _, _, _, _, _, _, _, _, _, _, _, _, _, _, { target := .collected D, args := #[] } :: ds, rfl, by omega, by rw [List.length_cons, hds], hz1, blk_turn W1 0, ((marks_push hM1 (by omega) hK).others (KeepsOthers.alloc _ _)).mono (by simp only [World.size_alloc]; omega), marks_from hdn (by omega), hb1x.trans ((balloc (Below.refl W1.heap.size W1) _).mono hz1)⟩, ?_⟩
            (try simp only [List.length_cons]) <;> omega
          · go_wp2_with fail
            rw [HI.out]
            refine ⟨⟨1, W1.heap.size, _, _, _, _, _, _, _, _, _, _, _, _, _, _, _, _, _, _, _, _, { target := .collected D, args := #[] } :: ds, rfl, by omega, by rw [List.length_cons, hds], hz1, blk_turn W1 0, ((marks_push hM1 (by omega) hK).others (KeepsOthers.alloc _ _)).mono (by simp only [World.size_alloc]; omega), marks_from hdn (by omega), hb1x.trans ((balloc (Below.refl W1.heap.size W1) _).mono hz1)⟩, ?_⟩
            (try simp only [List.length_cons]) <;> omega
        · exact absurd hpre hno
    · obtain rfl : t = 2 := by omega
      have bRx := bR6.below hbl bR6.lt
      have r0 := bRx.cell 0
      have r1 := bRx.frozen 0
      simp only [List.getElem?_toArray, List.getElem?_cons_zero] at r0
      go_wp2_with fail
      have hz6 := HZ6.out
      have hzw := hb6'.size
      refine leaves_marks (n0 := w.heap.size) ds _ _ (hMk.others (KeepsOthers.setCell _ _ _)) (by simp only [World.size_setCell]; omega) (fun d hd D he => by have := hdn d hd D he; omega) fun W' hb' hc' => ?_
      have hbr := (bRx.set_ 0 (.bool true))
      have hR' : W'.cell? ⟨w.heap.size + 1 + 1, 0, none⟩ = some (.bool true) := by
        have h1 := hc' _ _ (show (W.setCell ⟨w.heap.size + 1 + 1, 0, none⟩ (.bool true)).heap[w.heap.size + 1 + 1]? = _ from hbr) rfl
        exact (Blk.cell (show Blk W' (w.heap.size + 1 + 1) 4 _ from h1) 0).trans rfl
      exact ⟨_, results_cell rfl rfl (load_bool hR'), rfl, ((bchain hb6' hbl).setCell (p := ⟨w.heap.size + 1 + 1, 0, none⟩) (by show w.heap.size ≤ w.heap.size + 1 + 1; omega) _).trans hb'⟩
end Go.Proofs.YtmoahflgcojfcaaDoor.TokensOfsWalk
