/-
  The walk of TokensOwns.
-/
import Derived.Test.YtmoahflgcojfcaaDoorOwnsBase
import Derived.Test.YtmoahflgcojfcaaDoorOwnsLI
import Derived.Test.YtmoahflgcojfcaaDoorOwnTokWalk
import Derived.Test.YtmoahflgcojfcaaDoorRelbT
import Derived.Test.YtmoahflgcojfcaaDoorFieldAny
import Derived.Test.YtmoahflgcojfcaaDoorDWords
import Derived.Test.YtmoahflgcojfcaaDoorLives
import Derived.IntWalk
import Derived.Deep.RegionLawGrows
namespace Go.Proofs.YtmoahflgcojfcaaDoor.TokensOwnsWalk
set_option maxRecDepth 100000
open Go.RowKit Go.PlainAid WordPlain Base App WordBytes WordsWalk StopsWalk ChainPlain OfText NumPlain OfAny OutRow OpenField FieldPlain RefOf FieldWalk RefField FieldAny SameWalk Lives TokRows OwnTokens OwnTokWalk OwnsBase OwnsLI

def spareV : Val := ⟨⟨#[115, 112, 97, 114, 101]⟩, ⟨#[114, 111, 111, 109]⟩⟩
def spareF : Fld := ⟨⟨#[115, 112, 97, 114, 101]⟩, 0, false, false, false⟩

theorem slc_pre {w : World} {B : Nat} {A : Option Addr} {xs ys : List Value} (h : Slc w B A (xs ++ ys)) : Slc w B A xs := fun hx => by
  obtain ⟨g, o, e, hg, hc⟩ := h (fun h' => hx (List.append_eq_nil_iff.1 h').1)
  exact ⟨g, o, e, hg, fun j u hu => hc j u (by rw [List.getElem?_append_left (List.getElem?_eq_some_iff.1 hu).1]; exact hu)⟩

theorem post_at {xs ys : List Value} {k j : Nat} {u : Value} (h : xs.length = k) (hy : ys[j]? = some u) : (xs ++ ys)[k + j]? = some u := by
  rw [List.getElem?_append_right (by omega), h, Nat.add_sub_cancel_left]; exact hy
theorem pre_at {xs ys : List Value} {k : Nat} {u : Value} {o : Option Value} (h : xs[k]? = o) (ho : o = some u) : (xs ++ ys)[k]? = some u := by
  rw [List.getElem?_append_left (List.getElem?_eq_some_iff.1 (h.trans ho)).1, h, ho]

def oneB : ByteArray := ⟨#[111, 110, 101, 32]⟩
def oneV (v : Val) : Val := ⟨v.nm, oneB ++ v.text⟩
def onV (i : Nat) (l : List Val) : List Val := (l.take i).map oneV ++ l.drop i
theorem onV_zero (l : List Val) : onV 0 l = l := by simp [onV]
theorem onV_all (l : List Val) : onV l.length l = l.map oneV := by simp [onV]
theorem onV_at {l : List Val} {i : Nat} {v : Val} (h : l[i]? = some v) : (onV i l)[i]? = some v := by
  have hi := (List.getElem?_eq_some_iff.1 h).1
  unfold onV
  rw [List.getElem?_append_right (by simp; omega)]
  simp [h, Nat.min_eq_left (Nat.le_of_lt hi)]
theorem onV_set {l : List Val} {i : Nat} {v : Val} (h : l[i]? = some v) : (onV i l).set i (oneV v) = onV (i + 1) l := by
  have hi := (List.getElem?_eq_some_iff.1 h).1
  unfold onV
  have hl : ((l.take i).map oneV).length = i := by simp; omega
  rw [List.set_append_right _ _ (by omega), hl, Nat.sub_self, List.drop_eq_getElem_cons hi, List.set_cons_zero, List.take_add_one, h]
  have : l[i] = v := (List.getElem?_eq_some_iff.1 h).2
  simp
theorem valCells_set : ∀ (l : List Val) (i : Nat) (x : ByteArray) (v : Val), l[i]? = some v → (valCells l).set (i * 2 + 1) (.string x) = valCells (l.set i ⟨v.nm, x⟩)
  | [], _, _, _, h => by simp at h
  | y :: r, 0, x, v, h => by
    simp only [List.getElem?_cons_zero, Option.some.injEq] at h
    subst h
    rfl
  | y :: r, i + 1, x, v, h => by
    simp only [List.getElem?_cons_succ] at h
    show (valC y ++ valCells r).set ((i + 1) * 2 + 1) _ = valC y ++ valCells (r.set i ⟨v.nm, x⟩)
    rw [List.set_append_right _ _ (by simp [valC]; omega), ← valCells_set r i x v h]
    congr 2
    simp [valC]; omega

theorem onV_store {l : List Val} {i : Nat} {v : Val} {ys : List Value} (h : l[i]? = some v) : (valCells (onV i l) ++ ys).set (i * 2 + 1) (.string (oneB ++ v.text)) = valCells (onV (i + 1) l) ++ ys := by
  have hi := (List.getElem?_eq_some_iff.1 h).1
  have hl : (onV i l).length = l.length := by unfold onV; simp; omega
  rw [List.set_append_left _ _ (by rw [valCells_len, hl]; omega), valCells_set _ _ _ _ (onV_at h)]
  have e : (⟨v.nm, oneB ++ v.text⟩ : Val) = oneV v := rfl
  rw [e, onV_set h]
theorem one_sum (l : List Val) : vsum (l.map oneV) = vsum l + 4 * l.length := by
  induction l with
  | nil => rfl
  | cons v r ih =>
    have e : (oneB ++ v.text).size = 4 + v.text.size := by rw [ByteArray.size_append]; rfl
    simp only [List.map_cons, vsum, ih, oneV, List.length_cons, e]
    omega
/-- An empty block. -/
def EmpV (v : Value) (wx : World) : Prop := ∃ g, v = .slice (some ⟨g, 0, none⟩) 0 0 ∧ Blk wx g 48 #[]
theorem empV_stable (v : Value) (w w' : World) (hb : Below w.heap.size w w') (h : EmpV v w) : EmpV v w' := by
  obtain ⟨g, e, hk⟩ := h
  exact ⟨g, e, hk.below hb hk.lt⟩
def ValV (xs : List Val) (n : Nat) (v : Value) (wx : World) : Prop := ∃ A c, v = .slice A n c ∧ Slc wx wx.heap.size A (valCells xs)
theorem valV_stable {xs : List Val} {n : Nat} (v : Value) (w w' : World) (hb : Below w.heap.size w w') (h : ValV xs n v w) : ValV xs n v w' := by
  obtain ⟨A, c, e, hs⟩ := h
  exact ⟨A, c, e, (hs.below hb (Nat.le_refl _)).mono hb.size⟩
theorem rd_pre {W : World} {B g n c : Nat} {xs ys : List Value} {e : TypeId} {s : Nat} (h : W.ownsRow B e s (.slice (some ⟨g, 0, none⟩) n c) n (xs ++ ys)) (j : Nat) (u : Value) (hu : xs[j]? = some u) : W.cell? ⟨g, 0 + j, none⟩ = some u := by
  have := h.cells (g := g) rfl j u (by rw [List.getElem?_append_left (List.getElem?_eq_some_iff.1 hu).1]; exact hu)
  rw [Addr.add_lit] at this
  exact this
theorem app_val {ops : Array Oper} {o : Oper} {a : Act} {w : World} {K : Act → World → Prop} {Q : Exit → Act → World → Prop} {E : Prop} {xs : List Val} (n : Nat) {g gv c : Nat} (hl : (valCells xs).length = n * 2) (h1 : ∀ u ∈ valCells xs, u.oneCell' = true) (hgd : o.guard = none) (s x : Operand)
    (ho : o.op = .call { callee := .builtin .append, args := #[s, x], argTypes := #[44, 44] }) (hs : a.eval s = .slice (some ⟨g, 0, none⟩) 0 0) (hx : a.eval x = .slice (some ⟨gv, 0, none⟩) n c)
    (hc : ∀ j u, (valCells xs)[j]? = some u → w.cell? ⟨gv, 0 + j, none⟩ = some u) (hn : n ≤ 1048576)
    (hK : ∀ v' w', ValV xs n v' w' → Below w.heap.size w w' → K (a.put o.dst v') w') : if Region.wanted o (yielded ops a.tmps) = true then Oper.wp Tryd.prog o a w K Q else E := by
  obtain ⟨ht, ⟨i, hi, hz, hsz, hby⟩, hzs, hpos⟩ := valElem
  rcases Nat.eq_zero_or_pos n with h0 | h0
  · subst h0
    have : valCells xs = [] := List.length_eq_zero_iff.1 (by simpa using hl)
    refine step_append_none hgd s x _ _ i ho ht hi hs hx (hK _ _ ⟨_, _, rfl, ?_⟩ (Below.refl _ _))
    rw [this]; exact Slc.nil _
  · refine step_append_grows hgd s x _ ho _ i _ 2 32 ht hi hz hsz hby hzs hpos (some ⟨g, 0, none⟩) 0 0 [] hs (fun h => by cases h) rfl (fun b hb j u hu => by simp at hu) ⟨gv, 0, none⟩ n c (valCells xs) hx hl (fun j u hu => by rw [Addr.add_lit]; exact hc j u hu) h1 (by omega) (by unfold maxLen; omega) (by omega) ?_
    intro v' w' h2 h3
    simp only [Nat.zero_add, List.nil_append] at h2
    obtain ⟨A, c', rfl⟩ := own_slice h2
    exact hK _ _ ⟨A, c', rfl, slc_own h2⟩ ⟨h3.os, h3.tape, h3.output, h3.size, fun k hk => h3.block k hk (fun e => by cases e)⟩
theorem field_n (fs : List Fld) (k0 : Nat) (vl : List Val) (A1 A2 : Option Addr) (c1 c2 B : Nat) (w : World) (hB : B ≤ w.heap.size) (ht : Tab w) (h0 : 0 < w.heap.size) (hfl : fs.length ≤ 1048576) (hvs : vsum (vl.map oneV) ≤ 1099511627) (h1 : Slc w B A1 (fldCells fs)) (h2 : Slc w B A2 (valCells (vl.map oneV))) :
    Calls Tryd.prog 21 #[.agg #[.slice A1 fs.length c1], .int .i64 (k0 : Nat), .slice A2 vl.length c2] w (Toks (fieldT fs k0 (vl.map oneV)) w) := by
  have := field_any fs k0 (vl.map oneV) A1 A2 c1 c2 B w hB ht h0 hfl hvs h1 h2
  rwa [List.length_map] at this
theorem refField_n (fs : List Fld) (k0 : Nat) (vl : List Val) (A1 A2 : Option Addr) (c1 c2 B : Nat) (w : World) (hB : B ≤ w.heap.size) (ht : Tab w) (h0 : 0 < w.heap.size) (hfl : fs.length ≤ 1048576) (hvs : vsum (vl.map oneV) ≤ 1099511627) (h1 : Slc w B A1 (fldCells fs)) (h2 : Slc w B A2 (valCells (vl.map oneV))) :
    Calls Tryd.prog 22 #[.agg #[.slice A1 fs.length c1], .int .i64 (k0 : Nat), .slice A2 vl.length c2] w (RToks (fieldT fs k0 (vl.map oneV)) w) := by
  have := refField_any fs k0 (vl.map oneV) A1 A2 c1 c2 B w hB ht h0 hfl hvs h1 h2
  rwa [List.length_map] at this

/-- The last two lists, and the call of ownTokens. -/
theorem li_fin {w7 w16 w17 : World} {lB g cap s : Nat} {lv va vb : Value} {LS : List Value} {ff : Nat → List Tok} {TS : List Tok} {o : Obj} (rowL : w16.ownsRow lB 28 1 lv LS.length LS) (lstL : Lst w16 w7.heap.size LS ff) (hbnd : ∀ a, (ff a).length ≤ 1099511627776)
    (hs : ∀ (i : Nat) (u : Value) (k : Nat), LS[i]? = some u → u.ownBlock = some k → k < s) (h7 : w7.heap.size ≤ s) (h7b : w7.heap.size ≤ w16.heap.size) (oa : w16.ownsRow s 32 5 va TS.length (tokCells TS)) (ob : w16.ownsRow s 32 5 vb TS.length (tokCells TS)) (ha : Away [va] vb)
    (hT : TS.length ≤ 1099511627776) (hLS : LS.length ≤ 4194304)
    (own17 : w17.ownsRow lB 28 1 (.slice (some ⟨g, 0, none⟩) (LS.length + 2) cap) (LS.length + 2) (LS ++ [va, vb])) (hg : (w16.alloc o).grownBy w17 lv.ownBlock) :
    ∃ f2, Lst w16 w7.heap.size (LS ++ [va, vb]) f2 ∧ Calls Tryd.prog 23 #[.slice (some ⟨g, 0, none⟩) (LS.length + 2) cap] w17 fun e w' => e = .returned (.bool true) ∧ Foot w16 w' (fun k => lv.ownBlock ≠ some k ∧ Off (LS ++ [va, vb]) k) := by
  have L1 := lst_more (l := []) (K := TS) (by rw [List.append_nil]; exact lstL) hs h7 (Nat.le_refl s) oa (away_nil _)
  rw [List.append_nil] at L1
  have L2 := lst_more (l := [va]) (K := TS) L1 hs h7 (Nat.le_refl s) ob ha
  rw [List.append_assoc] at L2
  have hlen : (LS ++ [va, vb]).length = LS.length + 2 := by simp
  have hf17 : Foot w16 w17 (fun k => lv.ownBlock ≠ some k) := ((Foot.refl w16 _).alloc o).grown hg (fun k _ e hk => hk e)
  have L3 := L2.foot hf17 fun i v k hv hk => row_off rowL (L2.own i v hv) hk
  have hc := own_tokens (LS ++ [va, vb]) _ g 0 cap w7.heap.size w17 (by rw [hlen]; omega) (by rw [hlen]; omega) (fun a => ?_) L3 (Nat.le_trans h7b hf17.size) (own17.lt g rfl).2 (fun i v hv e => row_off own17 (L3.own i v hv) e rfl) (fun j v hv => ?_)
  · rw [hlen] at hc
    refine ⟨_, L2, hc.mono fun e w' ⟨he, hf⟩ => ⟨he, (hf17.imp fun k _ hk => hk.1).trans (hf.imp fun k _ hk => hk.2)⟩⟩
  · show (if _ then _ else _ : List Tok).length ≤ _
    split
    · exact hT
    · split
      · exact hT
      · exact hbnd a
  · have hj := (List.getElem?_eq_some_iff.1 hv).1
    rw [hlen] at hj
    rw [Nat.zero_add, own17.cellAt j (by omega)]
    exact hv

set_option maxHeartbeats 16000000 in
theorem walk_in (fs : List Fld) (k0 : Nat) (f : Fld) (vl : List Val) (A1 A2 : Option Addr) (c1 c2 : Nat) (w : World) (ht : Tab w) (h0 : 0 < w.heap.size) (hf : fs[k0]? = some f) (hfl : fs.length ≤ 1048576) (hvs : vsum vl ≤ 1048576)
    (h1 : Slc w w.heap.size A1 (fldCells fs)) (h2 : Slc w w.heap.size A2 (valCells vl)) (n2 : A2 = none → vl.length = 0 ∧ c2 = 0) :
    Calls Tryd.prog 8 #[.agg #[.slice A1 fs.length c1], .int .i64 (k0 : Nat), .slice A2 vl.length c2] w fun e w' => e = .returned (.bool true) ∧ Below w.heap.size w w' := by
  have hk0 : k0 < fs.length := (List.getElem?_eq_some_iff.1 hf).1
  have hvl := vsum_len vl
  have hfne : fldCells fs ≠ [] := by
    intro h
    have := fldCells_len fs
    rw [h] at this
    simp at this
    omega
  obtain ⟨gF, oF, rfl, hgF, hcF⟩ := h1 hfne
  have hkz : ¬ ((k0 : Int) < 0) := by omega
  have hkd : decide ((k0 : Int) < 0) = false := decide_eq_false hkz
  have hkl : decide ((fs.length : Int) ≤ (k0 : Int)) = false := decide_eq_false (by omega)
  have hkn : decide (fs.length ≤ k0) = false := decide_eq_false (by omega)
  go_enter Tryd.func8, Tryd.ntmps8
  go_wp2_with fail
  go_at_call 12
  refine (lives_any _).mono ?_
  rintro e w1 ⟨rfl, hb1⟩
  have hb1' : Below w.heap.size w w1 := bchain (by (repeat (first | exact Below.refl _ _ | assumption | refine balloc ?_ _ | refine bdrew ?_ | refine bdrewN ?_ _ | refine bchain ?_ (by assumption)))) hb1
  have bS1 := (Blk.new w 43 #[.slice (some ⟨gF, oF, none⟩) fs.length c1]).below hb1 (by simp only [World.size_alloc]; omega)
  have cS1 := bS1.cell 0
  simp only [List.getElem?_toArray, List.getElem?_cons_zero] at cS1
  have hs1 := hb1'.size
  have slV1 := (h2.below hb1' (Nat.le_refl _))
  have slF1 : Slc w1 w.heap.size (some ⟨gF, oF, none⟩) (fldCells fs) := Slc.below (fun _ => ⟨gF, oF, rfl, hgF, hcF⟩) hb1' (Nat.le_refl _)
  go_wp2_with (at_builtin; refine wpList_append_all rfl _ _ rfl valElem rfl rfl (valCells_len vl) slV1 hs1 n2 (val_one vl) (by unfold maxLen; omega) (by omega) ?_)
  intro v1 w2 own2 hb2
  obtain ⟨A3, c3, rfl⟩ := own_slice own2
  have hb2' := bchain hb1' hb2
  go_wp2_with (at_builtin; refine wpList_append1L (base := w1.heap.size) rfl _ _ rfl valElem (.inl own2) rfl rfl rfl rfl (by omega) (by unfold maxLen; omega) hb2.size ?_)
  intro v3 w3 own3 hg3 hl3
  obtain ⟨gv, cv, rfl, hgv, hgv3⟩ := own3.form (by omega)
  have hb3 : Below w1.heap.size w1 w3 := hb2.grown hg3 hb2.size (fun k hk => (own2.lt k hk).1)
  have hb3' := bchain hb1' hb3
  have bS3 := bS1.below hb3 bS1.lt
  have slF3 := slF1.below (hb3.mono hs1) (Nat.le_refl _)
  have hs3 := hb3'.size
  have hcv := own_cap own3
  have m0 : (0 : Int) ≤ (vl.length : Int) := by omega
  have m1 : (vl.length : Int) ≤ (cv : Int) := by omega
  have m2 : vl.length ≤ cv := by omega
  have cS3 := bS3.cell 0
  have cS3a := (bS3.alloc (.cells #[] 26)).cell 0
  simp only [List.getElem?_toArray, List.getElem?_cons_zero] at cS3 cS3a
  clear cS1 hg3 hl3 own2 hb2 hb2'
  go_wp2_with (at_builtin; refine wpList_append_all rfl _ _ rfl fldElem rfl rfl (fldCells_len fs) slF3 hs3 (fun h => by cases h) (fld_one fs) (by unfold maxLen; omega) (by omega) ?_)
  intro v4 w4 own4 hb4
  obtain ⟨A5, c5, rfl⟩ := own_slice own4
  go_wp2_with (at_builtin; refine wpList_append1L (base := w3.heap.size) rfl _ _ rfl fldElem (.inl own4) rfl rfl rfl rfl (by omega) (by unfold maxLen; omega) hb4.size ?_)
  intro v6 w5 own5 hg5 hl5
  obtain ⟨gf, cf, rfl, hgf, hgf5⟩ := own5.form (by omega)
  have hb5 : Below w3.heap.size w3 w5 := hb4.grown hg5 hb4.size (fun k hk => (own4.lt k hk).1)
  have hb5' := bchain hb3' hb5
  have own3' := own_below own3 hb5
  have bS5 := bS3.below hb5 bS3.lt
  have hcf := own_cap own5
  have q0 : (0 : Int) ≤ (fs.length : Int) := by omega
  have q1 : (fs.length : Int) ≤ (cf : Int) := by omega
  have q2 : fs.length ≤ cf := by omega
  have cS5 := bS5.cell 0
  simp only [List.getElem?_toArray, List.getElem?_cons_zero] at cS5
  clear cS3 cS3a hg5 hl5 own4 hb4 own3
  go_wp2_with fail
  have bO7 := (Blk.new w5 43 #[.slice (some ⟨gf, 0, none⟩) fs.length cf]).alloc (.cells #[] 28)
  have hb57 : Below w5.heap.size w5 ((w5.alloc (.cells #[.slice (some ⟨gf, 0, none⟩) fs.length cf] 43)).alloc (.cells #[] 28)) := by (repeat (first | exact Below.refl _ _ | assumption | refine balloc ?_ _ | refine bdrew ?_ | refine bdrewN ?_ _ | refine bchain ?_ (by assumption)))
  have ol7 : ((w5.alloc (.cells #[.slice (some ⟨gf, 0, none⟩) fs.length cf] 43)).alloc (.cells #[] 28)).ownsRow (w5.heap.size + 1) 28 1 (.slice (some ⟨w5.heap.size + 1, 0, none⟩) 0 0) 0 [] := by
    have := World.ownsRow_lit (e := 28) (size := 1) (base := w5.heap.size + 1) (w5.alloc (.cells #[.slice (some ⟨gf, 0, none⟩) fs.length cf] 43)) #[] 0 (by simp only [World.size_alloc]; omega) (by decide) rfl
    simp only [World.size_alloc] at this
    exact this
  have hz7 : ((w5.alloc (.cells #[.slice (some ⟨gf, 0, none⟩) fs.length cf] 43)).alloc (.cells #[] 28)).heap.size = w5.heap.size + 2 := by simp only [World.size_alloc]
  obtain ⟨w7, hw7⟩ : ∃ w7, w7 = (w5.alloc (.cells #[.slice (some ⟨gf, 0, none⟩) fs.length cf] 43)).alloc (.cells #[] 28) := ⟨_, rfl⟩
  rw [← hw7] at bO7 hb57 ol7 hz7 ⊢
  have hb7' := bchain hb5' hb57
  have bS7 := bS5.below hb57 bS5.lt
  have rV7 := own_below own3' hb57
  have rF7 := own_below own5 hb57
  have HZ7 := Lib.hid hz7
  clear hw7 hz7 cS5 own3' own5
  go_loopw [11, 60] (fun lv i wr => ∃ (j : Nat) (LS : List Value) (ff : Nat → List Tok), j ≤ vl.length ∧ i = .int .i64 j ∧ LI w7 wr (w5.heap.size + 1) j lv LS ff) (fun _ i _ => vl.length - (intOf i).toNat)
  case atStart => exact ⟨0, [], fun _ => [], Nat.zero_le _, rfl, LI.start ol7⟩
  case round =>
    obtain ⟨j, LS, ff, hj, rfl, hLI⟩ := hrel
    obtain ⟨Al, cl, rfl⟩ := own_slice hLI.row
    by_cases hlt : j < vl.length
    · obtain ⟨v, hv⟩ : ∃ v, vl[j]? = some v := ⟨_, List.getElem?_eq_getElem hlt⟩
      have hne2 : valCells vl ≠ [] := by
        intro h
        have := valCells_len vl
        rw [h] at this
        simp at this
        omega
      have hz7 := HZ7.out
      have hbr : Below w.heap.size w wr := hb7'.trans (hLI.foot.toBelow (fun k hk => by have := hb5'.size; omega) hb7'.size)
      have bSr := hLI.foot.blk bS7 (by have := bS5.lt; omega)
      obtain ⟨g2, o2, rfl, hg2, hc2⟩ := (h2.below hbr (Nat.le_refl _)) hne2
      have y0 : wr.cell? ⟨g2, o2 + j * 2, none⟩ = some (.string v.nm) := by have := hc2 (j * 2 + 0) _ (valCells_at vl j 0 v hv (by omega)); exact this
      have y1 : wr.cell? ⟨g2, o2 + j * 2 + 1, none⟩ = some (.string v.text) := by have := hc2 (j * 2 + 1) _ (valCells_at vl j 1 v hv (by omega)); rwa [← Nat.add_assoc] at this
      have htx := vsum_text hv
      have hsr := hbr.size
      clear hc2 hz7
      go_wp2_with fail
      have bV := Blk.new wr 48 #[.string v.nm, .string v.text]
      have hbq := balloc (Below.refl wr.heap.size wr) (.cells #[.string v.nm, .string v.text] 48)
      have hzq : (wr.alloc (.cells #[.string v.nm, .string v.text] 48)).heap.size = wr.heap.size + 1 := by simp only [World.size_alloc]
      obtain ⟨wq, hwq⟩ : ∃ wq, wq = wr.alloc (.cells #[.string v.nm, .string v.text] 48) := ⟨_, rfl⟩
      rw [← hwq] at bV hbq hzq ⊢
      clear hwq y0 y1
      have bSq := bSr.below hbq bSr.lt
      have hbwq := bchain hbr hbq
      have hsq := hbwq.size
      have hgq : gF < wq.heap.size := by omega
      have P1 := Lib.hid (fun (wx : World) (hx : Below wq.heap.size wq wx) => (show wx.cell? ⟨wr.heap.size, 1, none⟩ = some (.string v.text) from ((bV.below hx bV.lt).cell 1).trans rfl))
      have S1 := Lib.hid (fun (wx : World) (hx : Below wq.heap.size wq wx) => (show wx.cell? ⟨w.heap.size, 0, none⟩ = some (.slice (some ⟨gF, oF, none⟩) fs.length c1) from ((bSq.below hx bSq.lt).cell 0).trans rfl))
      have fcell : ∀ (wx : World) (hx : Below wq.heap.size wq wx) (m : Nat) (u : Value), m < 5 → (fldC f)[m]? = some u → wx.cell? ⟨gF, oF + (k0 * 5 + m), none⟩ = some u := fun wx hx m u hm hu =>
        ((bchain hbwq hx).cell (p := ⟨gF, oF + (k0 * 5 + m), none⟩) hgF).trans (hcF (k0 * 5 + m) u ((fldCells_at fs k0 m f hf hm).trans hu))
      have F0 := Lib.hid (fun (wx : World) (hx : Below wq.heap.size wq wx) => (show wx.cell? ⟨gF, oF + k0 * 5, none⟩ = some (.string f.nm) from fcell wx hx 0 _ (by omega) rfl))
      have F1 := Lib.hid (fun (wx : World) (hx : Below wq.heap.size wq wx) => (show wx.cell? ⟨gF, oF + k0 * 5 + 1, none⟩ = some (.int .i64 f.kd) from fcell wx hx 1 _ (by omega) rfl))
      have F2 := Lib.hid (fun (wx : World) (hx : Below wq.heap.size wq wx) => (show wx.cell? ⟨gF, oF + k0 * 5 + 2, none⟩ = some (.bool f.fold) from fcell wx hx 2 _ (by omega) rfl))
      have F3 := Lib.hid (fun (wx : World) (hx : Below wq.heap.size wq wx) => (show wx.cell? ⟨gF, oF + k0 * 5 + 3, none⟩ = some (.bool f.stop) from fcell wx hx 3 _ (by omega) rfl))
      have F4 := Lib.hid (fun (wx : World) (hx : Below wq.heap.size wq wx) => (show wx.cell? ⟨gF, oF + k0 * 5 + 4, none⟩ = some (.bool f.stem) from fcell wx hx 4 _ (by omega) rfl))
      have WA := Lib.hid (fun (wx : World) (_ : Below wq.heap.size wq wx) => words_any v.text wx (by omega))
      have OA := Lib.hid (fun (wx : World) (hx : Below wq.heap.size wq wx) => of_any f.nm f.kd f.fold f.stop f.stem v.text wx (by omega) (tab_below ht (bchain hbwq hx) h0) (by have := hx.size; omega))
      have e0 : (0 : Int) ≤ (k0 : Int) := by omega
      have e1 : (k0 : Int) < (fs.length : Int) := by omega
      clear fcell
      refine RelbT.wp_region_relbt 24 (fun wx => Below wq.heap.size wq wx) (fun wa wb => Below wa.heap.size wa wb) (by kernel_rfl) (by kernel_rfl) (by kernel_rfl) (by simp) (bdrew (Below.refl _ _)) ?_
      simp only [List.take_succ_cons, List.take_zero, List.drop_succ_cons, List.drop_zero]
      apply Relb.relb_one [] [] (by kernel_rfl) (by kernel_rfl) (by kernel_rfl)
      case hs =>
        intro vv wx hx hf
        clear hf
        try simp only [Relb.putD, Act.put, List.setIfInBounds_toArray, List.set_cons_zero, List.set_cons_succ]
        intro KK hK
        go_simp
        exact hK _ _ hx (Below.refl _ _) rfl
      apply Relb.relb_one [] [] (by kernel_rfl) (by kernel_rfl) (by kernel_rfl)
      case hs =>
        intro vv wx hx hf
        clear hf
        try simp only [Relb.putD, Act.put, List.setIfInBounds_toArray, List.set_cons_zero, List.set_cons_succ]
        intro KK hK
        go_simp
        exact hK _ _ hx (Below.refl _ _) rfl
      apply Relb.relb_one [(1, 65)] [1] (by kernel_rfl) (by kernel_rfl) (by kernel_rfl)
      case hs =>
        intro vv wx hx hf
        have e65 : vv 1 = _ := hf 1 (by simp)
        clear hf
        have p1 := P1.out wx hx
        have s1 := S1.out wx hx
        have f0 := F0.out wx hx
        have f1 := F1.out wx hx
        have f2 := F2.out wx hx
        have f3 := F3.out wx hx
        have f4 := F4.out wx hx
        try simp only [Relb.putD, e65, Act.put, List.setIfInBounds_toArray, List.set_cons_zero, List.set_cons_succ]
        intro KK hK
        go_simp
        exact hK _ _ hx (Below.refl _ _) rfl
      apply Relb.relb_kind [(2, 66)] [] [2] (OwnT wq.heap.size (words v.text)) (by kernel_rfl) (by kernel_rfl) (by kernel_rfl) (by kernel_rfl) (ownT_stable)
      case hs =>
        intro vv wx hx hf
        have e66 : vv 2 = _ := hf 2 (by simp)
        clear hf
        have p1 := P1.out wx hx
        have s1 := S1.out wx hx
        have f0 := F0.out wx hx
        have f1 := F1.out wx hx
        have f2 := F2.out wx hx
        have f3 := F3.out wx hx
        have f4 := F4.out wx hx
        try simp only [Relb.putD, e66, Act.put, List.setIfInBounds_toArray, List.set_cons_zero, List.set_cons_succ]
        intro KK hK
        go_simp
        go_at_call 14
        refine (WA.out wx hx).mono ?_
        rintro e wy ⟨A', c', rfl, own, hby⟩
        exact hK _ _ (bchain hx hby) hby ⟨A', c', rfl, own_low own hx.size, away_nil _⟩
      apply Relb.relb_one [] [] (by kernel_rfl) (by kernel_rfl) (by kernel_rfl)
      case hs =>
        intro vv wx hx hf
        clear hf
        try simp only [Relb.putD, Act.put, List.setIfInBounds_toArray, List.set_cons_zero, List.set_cons_succ]
        intro KK hK
        go_simp
        exact hK _ _ hx (Below.refl _ _) rfl
      apply Relb.relb_one [(4, 68)] [4] (by kernel_rfl) (by kernel_rfl) (by kernel_rfl)
      case hs =>
        intro vv wx hx hf
        have e68 : vv 4 = _ := hf 4 (by simp)
        clear hf
        have p1 := P1.out wx hx
        have s1 := S1.out wx hx
        have f0 := F0.out wx hx
        have f1 := F1.out wx hx
        have f2 := F2.out wx hx
        have f3 := F3.out wx hx
        have f4 := F4.out wx hx
        try simp only [Relb.putD, e68, Act.put, List.setIfInBounds_toArray, List.set_cons_zero, List.set_cons_succ]
        intro KK hK
        go_simp
        exact hK _ _ hx (Below.refl _ _) rfl
      apply Relb.relb_kind [(5, 69)] [3] [3, 5] (OwnT wq.heap.size (words v.text)) (by kernel_rfl) (by kernel_rfl) (by kernel_rfl) (by kernel_rfl) (ownT_stable)
      case hs =>
        intro vv wx hx hf
        obtain ⟨A67, c67, e67, o67, w67⟩ := hf 3 (by simp)
        replace e67 : vv 3 = _ := e67
        have e69 : vv 5 = _ := hf 5 (by simp)
        clear hf
        have p1 := P1.out wx hx
        have s1 := S1.out wx hx
        have f0 := F0.out wx hx
        have f1 := F1.out wx hx
        have f2 := F2.out wx hx
        have f3 := F3.out wx hx
        have f4 := F4.out wx hx
        try simp only [Relb.putD, e67, e69, Act.put, List.setIfInBounds_toArray, List.set_cons_zero, List.set_cons_succ]
        intro KK hK
        go_simp
        go_at_call 14
        refine (WA.out wx hx).mono ?_
        rintro e wy ⟨A', c', rfl, own, hby⟩
        exact hK _ _ (bchain hx hby) hby ⟨A', c', rfl, own_low own hx.size, away_cons o67 own (away_nil _)⟩
      apply Relb.relb_one [] [] (by kernel_rfl) (by kernel_rfl) (by kernel_rfl)
      case hs =>
        intro vv wx hx hf
        clear hf
        try simp only [Relb.putD, Act.put, List.setIfInBounds_toArray, List.set_cons_zero, List.set_cons_succ]
        intro KK hK
        go_simp
        exact hK _ _ hx (Below.refl _ _) rfl
      apply Relb.relb_one [(7, 71)] [7] (by kernel_rfl) (by kernel_rfl) (by kernel_rfl)
      case hs =>
        intro vv wx hx hf
        have e71 : vv 7 = _ := hf 7 (by simp)
        clear hf
        have p1 := P1.out wx hx
        have s1 := S1.out wx hx
        have f0 := F0.out wx hx
        have f1 := F1.out wx hx
        have f2 := F2.out wx hx
        have f3 := F3.out wx hx
        have f4 := F4.out wx hx
        try simp only [Relb.putD, e71, Act.put, List.setIfInBounds_toArray, List.set_cons_zero, List.set_cons_succ]
        intro KK hK
        go_simp
        exact hK _ _ hx (Below.refl _ _) rfl
      apply Relb.relb_one [] [] (by kernel_rfl) (by kernel_rfl) (by kernel_rfl)
      case hs =>
        intro vv wx hx hf
        clear hf
        try simp only [Relb.putD, Act.put, List.setIfInBounds_toArray, List.set_cons_zero, List.set_cons_succ]
        intro KK hK
        go_simp
        exact hK _ _ hx (Below.refl _ _) rfl
      apply Relb.relb_one [(8, 72), (9, 73)] [8, 9] (by kernel_rfl) (by kernel_rfl) (by kernel_rfl)
      case hs =>
        intro vv wx hx hf
        have e72 : vv 8 = _ := hf 8 (by simp)
        have e73 : vv 9 = _ := hf 9 (by simp)
        clear hf
        try simp only [Relb.putD, e72, e73, Act.put, List.setIfInBounds_toArray, List.set_cons_zero, List.set_cons_succ]
        intro KK hK
        go_simp
        exact hK _ _ hx (Below.refl _ _) rfl
      apply Relb.relb_one [(10, 74)] [10] (by kernel_rfl) (by kernel_rfl) (by kernel_rfl)
      case hs =>
        intro vv wx hx hf
        have e74 : vv 10 = _ := hf 10 (by simp)
        clear hf
        have p1 := P1.out wx hx
        have s1 := S1.out wx hx
        have f0 := F0.out wx hx
        have f1 := F1.out wx hx
        have f2 := F2.out wx hx
        have f3 := F3.out wx hx
        have f4 := F4.out wx hx
        try simp only [Relb.putD, e74, Act.put, List.setIfInBounds_toArray, List.set_cons_zero, List.set_cons_succ]
        intro KK hK
        go_simp
        exact hK _ _ hx (Below.refl _ _) rfl
      apply Relb.relb_one [] [] (by kernel_rfl) (by kernel_rfl) (by kernel_rfl)
      case hs =>
        intro vv wx hx hf
        clear hf
        try simp only [Relb.putD, Act.put, List.setIfInBounds_toArray, List.set_cons_zero, List.set_cons_succ]
        intro KK hK
        go_simp
        exact hK _ _ hx (Below.refl _ _) rfl
      apply Relb.relb_one [(12, 76)] [12] (by kernel_rfl) (by kernel_rfl) (by kernel_rfl)
      case hs =>
        intro vv wx hx hf
        have e76 : vv 12 = _ := hf 12 (by simp)
        clear hf
        have p1 := P1.out wx hx
        have s1 := S1.out wx hx
        have f0 := F0.out wx hx
        have f1 := F1.out wx hx
        have f2 := F2.out wx hx
        have f3 := F3.out wx hx
        have f4 := F4.out wx hx
        try simp only [Relb.putD, e76, Act.put, List.setIfInBounds_toArray, List.set_cons_zero, List.set_cons_succ]
        intro KK hK
        go_simp
        exact hK _ _ hx (Below.refl _ _) rfl
      apply Relb.relb_kind [(11, 75), (13, 77)] [3, 6] [3, 6, 11, 13] (OwnT wq.heap.size (ofF f v.text)) (by kernel_rfl) (by kernel_rfl) (by kernel_rfl) (by kernel_rfl) (ownT_stable)
      case hs =>
        intro vv wx hx hf
        obtain ⟨A67, c67, e67, o67, w67⟩ := hf 3 (by simp)
        replace e67 : vv 3 = _ := e67
        obtain ⟨A70, c70, e70, o70, w70⟩ := hf 6 (by simp)
        replace e70 : vv 6 = _ := e70
        have e75 : vv 11 = _ := hf 11 (by simp)
        have e77 : vv 13 = _ := hf 13 (by simp)
        clear hf
        have p1 := P1.out wx hx
        have s1 := S1.out wx hx
        have f0 := F0.out wx hx
        have f1 := F1.out wx hx
        have f2 := F2.out wx hx
        have f3 := F3.out wx hx
        have f4 := F4.out wx hx
        try simp only [Relb.putD, e67, e70, e75, e77, Act.put, List.setIfInBounds_toArray, List.set_cons_zero, List.set_cons_succ]
        intro KK hK
        go_simp
        go_at_call 13
        refine (OA.out wx hx).mono ?_
        rintro e wy ⟨A', c', rfl, own, hby⟩
        exact hK _ _ (bchain hx hby) hby ⟨A', c', rfl, own_low own hx.size, away_cons o67 own (away_cons o70 own (away_nil _))⟩
      apply Relb.relb_one [] [] (by kernel_rfl) (by kernel_rfl) (by kernel_rfl)
      case hs =>
        intro vv wx hx hf
        clear hf
        try simp only [Relb.putD, Act.put, List.setIfInBounds_toArray, List.set_cons_zero, List.set_cons_succ]
        intro KK hK
        go_simp
        exact hK _ _ hx (Below.refl _ _) rfl
      apply Relb.relb_one [(15, 79)] [15] (by kernel_rfl) (by kernel_rfl) (by kernel_rfl)
      case hs =>
        intro vv wx hx hf
        have e79 : vv 15 = _ := hf 15 (by simp)
        clear hf
        have p1 := P1.out wx hx
        have s1 := S1.out wx hx
        have f0 := F0.out wx hx
        have f1 := F1.out wx hx
        have f2 := F2.out wx hx
        have f3 := F3.out wx hx
        have f4 := F4.out wx hx
        try simp only [Relb.putD, e79, Act.put, List.setIfInBounds_toArray, List.set_cons_zero, List.set_cons_succ]
        intro KK hK
        go_simp
        exact hK _ _ hx (Below.refl _ _) rfl
      apply Relb.relb_one [] [] (by kernel_rfl) (by kernel_rfl) (by kernel_rfl)
      case hs =>
        intro vv wx hx hf
        clear hf
        try simp only [Relb.putD, Act.put, List.setIfInBounds_toArray, List.set_cons_zero, List.set_cons_succ]
        intro KK hK
        go_simp
        exact hK _ _ hx (Below.refl _ _) rfl
      apply Relb.relb_one [(16, 80), (17, 81)] [16, 17] (by kernel_rfl) (by kernel_rfl) (by kernel_rfl)
      case hs =>
        intro vv wx hx hf
        have e80 : vv 16 = _ := hf 16 (by simp)
        have e81 : vv 17 = _ := hf 17 (by simp)
        clear hf
        try simp only [Relb.putD, e80, e81, Act.put, List.setIfInBounds_toArray, List.set_cons_zero, List.set_cons_succ]
        intro KK hK
        go_simp
        exact hK _ _ hx (Below.refl _ _) rfl
      apply Relb.relb_one [(18, 82)] [18] (by kernel_rfl) (by kernel_rfl) (by kernel_rfl)
      case hs =>
        intro vv wx hx hf
        have e82 : vv 18 = _ := hf 18 (by simp)
        clear hf
        have p1 := P1.out wx hx
        have s1 := S1.out wx hx
        have f0 := F0.out wx hx
        have f1 := F1.out wx hx
        have f2 := F2.out wx hx
        have f3 := F3.out wx hx
        have f4 := F4.out wx hx
        try simp only [Relb.putD, e82, Act.put, List.setIfInBounds_toArray, List.set_cons_zero, List.set_cons_succ]
        intro KK hK
        go_simp
        exact hK _ _ hx (Below.refl _ _) rfl
      apply Relb.relb_one [] [] (by kernel_rfl) (by kernel_rfl) (by kernel_rfl)
      case hs =>
        intro vv wx hx hf
        clear hf
        try simp only [Relb.putD, Act.put, List.setIfInBounds_toArray, List.set_cons_zero, List.set_cons_succ]
        intro KK hK
        go_simp
        exact hK _ _ hx (Below.refl _ _) rfl
      apply Relb.relb_one [(20, 84)] [20] (by kernel_rfl) (by kernel_rfl) (by kernel_rfl)
      case hs =>
        intro vv wx hx hf
        have e84 : vv 20 = _ := hf 20 (by simp)
        clear hf
        have p1 := P1.out wx hx
        have s1 := S1.out wx hx
        have f0 := F0.out wx hx
        have f1 := F1.out wx hx
        have f2 := F2.out wx hx
        have f3 := F3.out wx hx
        have f4 := F4.out wx hx
        try simp only [Relb.putD, e84, Act.put, List.setIfInBounds_toArray, List.set_cons_zero, List.set_cons_succ]
        intro KK hK
        go_simp
        exact hK _ _ hx (Below.refl _ _) rfl
      apply Relb.relb_kind [(19, 83), (21, 85)] [3, 6, 14] [3, 6, 14, 19, 21] (OwnT wq.heap.size (ofF f v.text)) (by kernel_rfl) (by kernel_rfl) (by kernel_rfl) (by kernel_rfl) (ownT_stable)
      case hs =>
        intro vv wx hx hf
        obtain ⟨A67, c67, e67, o67, w67⟩ := hf 3 (by simp)
        replace e67 : vv 3 = _ := e67
        obtain ⟨A70, c70, e70, o70, w70⟩ := hf 6 (by simp)
        replace e70 : vv 6 = _ := e70
        obtain ⟨A78, c78, e78, o78, w78⟩ := hf 14 (by simp)
        replace e78 : vv 14 = _ := e78
        have e83 : vv 19 = _ := hf 19 (by simp)
        have e85 : vv 21 = _ := hf 21 (by simp)
        clear hf
        have p1 := P1.out wx hx
        have s1 := S1.out wx hx
        have f0 := F0.out wx hx
        have f1 := F1.out wx hx
        have f2 := F2.out wx hx
        have f3 := F3.out wx hx
        have f4 := F4.out wx hx
        try simp only [Relb.putD, e67, e70, e78, e83, e85, Act.put, List.setIfInBounds_toArray, List.set_cons_zero, List.set_cons_succ]
        intro KK hK
        go_simp
        go_at_call 13
        refine (OA.out wx hx).mono ?_
        rintro e wy ⟨A', c', rfl, own, hby⟩
        exact hK _ _ (bchain hx hby) hby ⟨A', c', rfl, own_low own hx.size, away_cons o67 own (away_cons o70 own (away_cons o78 own (away_nil _)))⟩
      apply Relb.relb_kind [(3, 67), (6, 70), (14, 78), (22, 86)] [3, 6, 14, 22] [3, 6, 14, 22] (RowT) (by kernel_rfl) (by kernel_rfl) (by kernel_rfl) (by kernel_rfl) (rowT_stable)
      case hs =>
        intro vv wx hx hf
        obtain ⟨A67, c67, e67, o67, w67⟩ := hf 3 (by simp)
        replace e67 : vv 3 = _ := e67
        obtain ⟨A70, c70, e70, o70, w70⟩ := hf 6 (by simp)
        replace e70 : vv 6 = _ := e70
        obtain ⟨A78, c78, e78, o78, w78⟩ := hf 14 (by simp)
        replace e78 : vv 14 = _ := e78
        obtain ⟨A86, c86, e86, o86, w86⟩ := hf 22 (by simp)
        replace e86 : vv 22 = _ := e86
        clear hf
        try simp only [Relb.putD, e67, e70, e78, e86, Act.put, List.setIfInBounds_toArray, List.set_cons_zero, List.set_cons_succ]
        intro KK hK
        go_simp
        exact hK _ _ (balloc hx _) (balloc (Below.refl _ _) _) ⟨wx.heap.size, rfl, by simp only [List.map, e67, e70, e78, e86]; exact Blk.new _ _ _⟩
      refine RelbT.relbt_end [(0, 64), (1, 65), (2, 66), (3, 67), (4, 68), (5, 69), (6, 70), (7, 71), (8, 72), (9, 73), (10, 74), (11, 75), (12, 76), (13, 77), (14, 78), (15, 79), (16, 80), (17, 81), (18, 82), (19, 83), (20, 84), (21, 85), (22, 86), (23, 87)] (by kernel_rfl) (by kernel_rfl) ?_
      intro vv wx hx hf
      have e64 : vv 0 = _ := hf 0 (by decide)
      have e65 : vv 1 = _ := hf 1 (by decide)
      have e66 : vv 2 = _ := hf 2 (by decide)
      obtain ⟨A67, c67, e67, o67, w67⟩ := hf 3 (by decide)
      replace e67 : vv 3 = _ := e67
      have e68 : vv 4 = _ := hf 4 (by decide)
      have e69 : vv 5 = _ := hf 5 (by decide)
      obtain ⟨A70, c70, e70, o70, w70⟩ := hf 6 (by decide)
      replace e70 : vv 6 = _ := e70
      have e71 : vv 7 = _ := hf 7 (by decide)
      have e72 : vv 8 = _ := hf 8 (by decide)
      have e73 : vv 9 = _ := hf 9 (by decide)
      have e74 : vv 10 = _ := hf 10 (by decide)
      have e75 : vv 11 = _ := hf 11 (by decide)
      have e76 : vv 12 = _ := hf 12 (by decide)
      have e77 : vv 13 = _ := hf 13 (by decide)
      obtain ⟨A78, c78, e78, o78, w78⟩ := hf 14 (by decide)
      replace e78 : vv 14 = _ := e78
      have e79 : vv 15 = _ := hf 15 (by decide)
      have e80 : vv 16 = _ := hf 16 (by decide)
      have e81 : vv 17 = _ := hf 17 (by decide)
      have e82 : vv 18 = _ := hf 18 (by decide)
      have e83 : vv 19 = _ := hf 19 (by decide)
      have e84 : vv 20 = _ := hf 20 (by decide)
      have e85 : vv 21 = _ := hf 21 (by decide)
      obtain ⟨A86, c86, e86, o86, w86⟩ := hf 22 (by decide)
      replace e86 : vv 22 = _ := e86
      obtain ⟨g87, e87, k87⟩ := hf 23 (by decide)
      replace e87 : vv 23 = _ := e87
      clear hf
      simp only [Relb.putD, e64, e65, e66, e67, e68, e69, e70, e71, e72, e73, e74, e75, e76, e77, e78, e79, e80, e81, e82, e83, e84, e85, e86, e87, Act.put, List.setIfInBounds_toArray, List.set_cons_zero, List.set_cons_succ]
      have rowx := own_below (own_below hLI.row hbq) hx
      have hsx := hx.size
      have hlbx : w5.heap.size + 1 ≤ wx.heap.size := by have := HZ7.out; have := hLI.foot.size; omega
      have hllb : LS.length ≤ 4194304 := by have := hLI.len; omega
      obtain ⟨i0, hi0, hz0, hz1, hz2⟩ := info_parts lstInfo
      simp only [List.map, e67, e70, e78, e86] at k87
      clear e64 e65 e66 e68 e69 e71 e72 e73 e74 e75 e76 e77 e79 e80 e81 e82 e83 e84 e85 P1 S1 F0 F1 F2 F3 F4 WA OA
      go_wp2_with (at_builtin; refine wpList_append_lies _ rfl _ _ 49 rfl (w5.heap.size + 1) 28 i0 (.slice none 0 0) 1 24 Tryd.underlying49 hi0 hz0 hz1 hz2 rfl (by decide) _ LS.length LS rfl rowx ⟨g87, 0, none⟩ 4 4 [.slice A67 (words v.text).length c67, .slice A70 (words v.text).length c70, .slice A78 (ofF f v.text).length c78, .slice A86 (ofF f v.text).length c86] rfl rfl (World.news_of_block k87) (by simp [Value.oneCell']) (by decide) (by unfold maxLen; omega) (by omega) (by omega) wx.heap.size rfl ?_)
      intro g9 cap9 w9 own9 hg9 hat9 hlt9
      have hwl := words_len v.text
      have hol : (ofF f v.text).length ≤ v.text.size + 1 := of_len f.kd f.fold f.stop f.stem v.text
      rw [e67] at o67
      rw [e70] at o70
      rw [e78] at o78
      rw [e86] at o86
      obtain ⟨ff', hst⟩ := LI.step hLI (bchain hbq hx) (n0 := wq.heap.size) (by omega) o67 o70 o78 o86 (by simpa only [List.map, e67, e70] using w70) (by simpa only [List.map, e67, e70, e78] using w78) (by simpa only [List.map, e67, e70, e78, e86] using w86) (by omega) (by omega) (by omega) (by omega) own9 hg9 hat9
      have hl4 : (LS ++ [Value.slice A67 (words v.text).length c67, .slice A70 (words v.text).length c70, .slice A78 (ofF f v.text).length c78, .slice A86 (ofF f v.text).length c86]).length = LS.length + 4 := by simp
      rw [hl4] at hst
      clear own9 hg9 hat9 hlt9 rowx
      go_wp2_with fail
      go_roundw
      case rel => exact ⟨j + 1, _, ff', by omega, by go_num, hst⟩
      case measure => simp [intOf]; omega
    · obtain rfl : j = vl.length := by omega
      have hz7 := HZ7.out
      have hbr : Below w.heap.size w wr := hb7'.trans (hLI.foot.toBelow (fun k hk => by have := hb5'.size; omega) hb7'.size)
      have bSr := hLI.foot.blk bS7 (by have := bS5.lt; omega)
      have bOr := hLI.foot.blk bO7 (by omega)
      have hg3s := hb5.size
      have rVr := hLI.foot.own rV7 (fun g hg => by simp [Value.ownBlock] at hg; omega)
      have rFr := hLI.foot.own rF7 (fun g hg => by simp [Value.ownBlock] at hg; omega)
      have slVr := slc_pre (slc_own rVr)
      have slFr := slc_pre (slc_own rFr)
      have hsr := hbr.size
      have hwl7 := hLI.foot.size
      obtain ⟨TS, hts⟩ : ∃ TS, TS = fieldT fs k0 vl := ⟨_, rfl⟩
      have hTS0 := fieldT_len fs k0 vl (by omega)
      have hTS : TS.length ≤ 1099511627776 := by rw [hts]; omega
      have HTS := Lib.hid hts
      clear hts hTS0 hz7 bO7 bS7 rV7 rF7
      have FA1 := Lib.hid (fun (wx : World) (hx : Below wr.heap.size wr wx) => field_any fs k0 vl (some ⟨gf, 0, none⟩) (some ⟨gv, 0, none⟩) cf cv wr.heap.size wx hx.size (tab_below ht (bchain hbr hx) h0) (by have := hx.size; omega) hfl (by omega) (slFr.below hx (Nat.le_refl _)) (slVr.below hx (Nat.le_refl _)))
      have RA1 := Lib.hid (fun (wx : World) (hx : Below wr.heap.size wr wx) => refField_any fs k0 vl (some ⟨gF, oF, none⟩) A2 c1 c2 w.heap.size wx (by have := hx.size; omega) (tab_below ht (bchain hbr hx) h0) (by have := hx.size; omega) hfl (by omega) (h1.below (bchain hbr hx) (Nat.le_refl _)) (h2.below (bchain hbr hx) (Nat.le_refl _)))
      rw [← HTS.out] at FA1 RA1
      have cO := bOr.cell 0
      have cS := bSr.cell 0
      simp only [List.getElem?_toArray, List.getElem?_cons_zero] at cO cS
      go_wp2_with fail
      go_at_call 21
      refine (FA1.out _ (Below.refl _ _)).mono ?_
      rintro e w10 ⟨A14, c14, rfl, own14, hb10⟩
      have bO10 := bOr.below hb10 bOr.lt
      have cO10 := bO10.cell 0
      simp only [List.getElem?_toArray, List.getElem?_cons_zero] at cO10
      go_wp2_with fail
      go_at_call 21
      refine (FA1.out _ hb10).mono ?_
      rintro e w11 ⟨A15, c15, rfl, own15, hb11⟩
      have hA15 := away_cons own14 own15 (away_nil _)
      have hb11r := bchain hb10 hb11
      have bS11 := bSr.below hb11r bSr.lt
      have cS11 := bS11.cell 0
      simp only [List.getElem?_toArray, List.getElem?_cons_zero] at cS11
      go_wp2_with fail
      go_at_call 22
      refine (RA1.out _ hb11r).mono ?_
      rintro e w12 ⟨A16, c16, rfl, sl16, hb12⟩
      have hb12r := bchain hb11r hb12
      have own14' := own_below own14 (bchain hb11 hb12)
      have own15' := own_below own15 hb12
      have s14 := slc_own own14'
      have s15 := slc_own own15'
      have s16 := sl16.slc
      clear cO cS cO10 cS11 FA1 RA1 own14 own15
      go_wp2_with fail
      go_at_call 18
      refine (same_eq TS _ _ _ _ _ w12 (Nat.le_refl _) hTS s14 s16).mono ?_
      rintro e w13 ⟨rfl, hb13⟩
      have s15' := (s15.below hb13 (Nat.le_refl _)).mono hb13.size
      have s16' := (s16.below hb13 (Nat.le_refl _)).mono hb13.size
      go_wp2_with fail
      go_at_call 18
      refine (same_eq TS _ _ _ _ _ w13 (Nat.le_refl _) hTS s15' s16').mono ?_
      rintro e w14 ⟨rfl, hb14⟩
      have hb14r := bchain hb12r (bchain hb13 hb14)
      have own14 := own_below own14' (bchain hb13 hb14)
      have own15 := own_below own15' (bchain hb13 hb14)
      have bS14 := bSr.below hb14r bSr.lt
      have bO14 := bOr.below hb14r bOr.lt
      have rV14 := own_below rVr hb14r
      have rF14 := own_below rFr hb14r
      have hbw14 := bchain hbr hb14r
      clear own14' own15' s14 s15 s16 s15' s16' bS11 bO10 bSr bOr slVr slFr
      go_wp2_with fail
      go_loopw [114] (fun i wq => ∃ i' : Nat, i' ≤ vl.length ∧ i = .int .i64 i' ∧ Below w14.heap.size w14 wq) (fun i _ => vl.length - (intOf i).toNat)
      case atStart => exact ⟨0, Nat.zero_le _, rfl, Below.refl _ _⟩
      case round =>
        obtain ⟨i, hi, rfl, hbi⟩ := hrel
        by_cases hlt2 : i < vl.length
        · obtain ⟨v, hv⟩ : ∃ v, vl[i]? = some v := ⟨_, List.getElem?_eq_getElem hlt2⟩
          have hne2 : valCells vl ≠ [] := by
            intro h
            have := valCells_len vl
            rw [h] at this
            simp at this
            omega
          obtain ⟨g2, o2, rfl, hg2, hc2⟩ := (h2.below (bchain hbw14 hbi) (Nat.le_refl _)) hne2
          have y0 : wr.cell? ⟨g2, o2 + i * 2, none⟩ = some (.string v.nm) := by have := hc2 (i * 2 + 0) _ (valCells_at vl i 0 v hv (by omega)); exact this
          have y1 : wr.cell? ⟨g2, o2 + i * 2 + 1, none⟩ = some (.string v.text) := by have := hc2 (i * 2 + 1) _ (valCells_at vl i 1 v hv (by omega)); rwa [← Nat.add_assoc] at this
          have rVi := own_below rV14 hbi
          have x0 : wr.cell? ⟨gv, i * 2, none⟩ = some (.string v.nm) := by rw [rVi.cellAt (i * 2) (by omega)]; exact (pre_at (valCells_at vl i 0 v hv (by omega)) rfl)
          have x1 : wr.cell? ⟨gv, i * 2 + 1, none⟩ = some (.string v.text) := by rw [rVi.cellAt (i * 2 + 1) (by omega)]; exact (pre_at (valCells_at vl i 1 v hv (by omega)) rfl)
          have i0' : (0 : Int) ≤ (i : Int) := by omega
          have i1' : (i : Int) < (vl.length : Int) := by omega
          have i2' : (i : Int) < ((vl.length : Int) + 1) := by omega
          clear hc2 rVi
          go_wp2_with fail
          go_quiet (fail)
          go_wp2
          go_roundw
          case rel => exact ⟨i + 1, by omega, by go_num, hbi.trans ⟨rfl, rfl, rfl, Nat.le_refl _, fun _ _ => rfl⟩⟩
          case measure => simp [intOf]; omega
        · obtain rfl : i = vl.length := by omega
          have bSl := bS14.below hbi bS14.lt
          have cSl := bSl.cell 0
          simp only [List.getElem?_toArray, List.getElem?_cons_zero] at cSl
          obtain ⟨w15, hw15⟩ : ∃ w15, w15 = wr := ⟨_, rfl⟩
          rw [← hw15] at hbi bSl cSl ⊢
          have hbw15 := bchain hbw14 hbi
          have own14b := own_below own14 hbi
          have own15b := own_below own15 hbi
          have bO15 := bO14.below hbi bO14.lt
          have rV15 := own_below rV14 hbi
          have rF15 := own_below rF14 hbi
          have hbr15 := bchain hb14r hbi
          clear own14 own15 bS14 bO14 rV14 rF14 hw15 hbi
          go_wp2_with fail
          go_loopw [130] (fun i wq => ∃ i' : Nat, i' ≤ fs.length ∧ i = .int .i64 i' ∧ Below w15.heap.size w15 wq) (fun i _ => fs.length - (intOf i).toNat)
          case atStart => exact ⟨0, Nat.zero_le _, rfl, Below.refl _ _⟩
          case round =>
            obtain ⟨i, hi, rfl, hbi⟩ := hrel
            by_cases hlt3 : i < fs.length
            · obtain ⟨v, hv⟩ : ∃ v, fs[i]? = some v := ⟨_, List.getElem?_eq_getElem hlt3⟩
              have hbwi := bchain hbw15 hbi
              have rFi := own_below rF15 hbi
              have cSi := (bSl.below hbi bSl.lt).cell 0
              simp only [List.getElem?_toArray, List.getElem?_cons_zero] at cSi
              have ycell : ∀ (m : Nat) (u : Value), m < 5 → (fldC v)[m]? = some u → wr.cell? ⟨gF, oF + (i * 5 + m), none⟩ = some u := fun m u hm hu =>
                (hbwi.cell (p := ⟨gF, oF + (i * 5 + m), none⟩) hgF).trans (hcF (i * 5 + m) u ((fldCells_at fs i m v hv hm).trans hu))
              have y0 : wr.cell? ⟨gF, oF + i * 5, none⟩ = some (.string v.nm) := ycell 0 _ (by omega) rfl
              have y1 : wr.cell? ⟨gF, oF + i * 5 + 1, none⟩ = some (.int .i64 v.kd) := ycell 1 _ (by omega) rfl
              have y2 : wr.cell? ⟨gF, oF + i * 5 + 2, none⟩ = some (.bool v.fold) := ycell 2 _ (by omega) rfl
              have y3 : wr.cell? ⟨gF, oF + i * 5 + 3, none⟩ = some (.bool v.stop) := ycell 3 _ (by omega) rfl
              have y4 : wr.cell? ⟨gF, oF + i * 5 + 4, none⟩ = some (.bool v.stem) := ycell 4 _ (by omega) rfl
              have x0 : wr.cell? ⟨gf, i * 5, none⟩ = some (.string v.nm) := by rw [rFi.cellAt (i * 5) (by omega)]; exact (pre_at (fldCells_at fs i 0 v hv (by omega)) rfl)
              have x1 : wr.cell? ⟨gf, i * 5 + 1, none⟩ = some (.int .i64 v.kd) := by rw [rFi.cellAt (i * 5 + 1) (by omega)]; exact (pre_at (fldCells_at fs i 1 v hv (by omega)) rfl)
              have x2 : wr.cell? ⟨gf, i * 5 + 2, none⟩ = some (.bool v.fold) := by rw [rFi.cellAt (i * 5 + 2) (by omega)]; exact (pre_at (fldCells_at fs i 2 v hv (by omega)) rfl)
              have x3 : wr.cell? ⟨gf, i * 5 + 3, none⟩ = some (.bool v.stop) := by rw [rFi.cellAt (i * 5 + 3) (by omega)]; exact (pre_at (fldCells_at fs i 3 v hv (by omega)) rfl)
              have x4 : wr.cell? ⟨gf, i * 5 + 4, none⟩ = some (.bool v.stem) := by rw [rFi.cellAt (i * 5 + 4) (by omega)]; exact (pre_at (fldCells_at fs i 4 v hv (by omega)) rfl)
              have i0' : (0 : Int) ≤ (i : Int) := by omega
              have i1' : (i : Int) < (fs.length : Int) := by omega
              have i2' : (i : Int) < ((fs.length : Int) + 1) := by omega
              clear ycell rFi
              go_wp2_with fail
              go_quiet (fail)
              go_wp2
              go_roundw
              case rel => exact ⟨i + 1, by omega, by go_num, hbi.trans ⟨rfl, rfl, rfl, Nat.le_refl _, fun _ _ => rfl⟩⟩
              case measure => simp [intOf]; omega
            · obtain rfl : i = fs.length := by omega
              have hbr16 := bchain hbr15 hbi
              have bSm := bSl.below hbi bSl.lt
              have bO16 := bO15.below hbi bO15.lt
              have rV16 := own_below rV15 hbi
              have rF16 := own_below rF15 hbi
              have hbw16 := bchain hbw15 hbi
              have own14c := own_below own14b hbi
              have own15c := own_below own15b hbi
              have rowL := own_below hLI.row hbr16
              have lstL := hLI.lst.below hbr16
              have hllb : LS.length ≤ 4194304 := by have := hLI.len; omega
              have hbl16 := hbr16.size
              obtain ⟨w16, hw16⟩ : ∃ w16, w16 = wr := ⟨_, rfl⟩
              rw [← hw16] at hbr16 bSm bO16 rV16 rF16 hbw16 own14c own15c rowL lstL hbl16 ⊢
              clear hw16 hbi bSl bO15 rV15 rF15 own14b own15b
              have cSm := bSm.cell 0
              simp only [List.getElem?_toArray, List.getElem?_cons_zero] at cSm
              have x0 : w16.cell? ⟨gv, vl.length * 2, none⟩ = some (.string ⟨#[115, 112, 97, 114, 101]⟩) := by rw [rV16.cellAt (vl.length * 2) (by omega)]; exact post_at (valCells_len vl) (j := 0) rfl
              have x1 : w16.cell? ⟨gv, vl.length * 2 + 1, none⟩ = some (.string ⟨#[114, 111, 111, 109]⟩) := by rw [rV16.cellAt (vl.length * 2 + 1) (by omega)]; exact post_at (valCells_len vl) (j := 1) rfl
              have x2 : w16.cell? ⟨gf, fs.length * 5, none⟩ = some (.string ⟨#[115, 112, 97, 114, 101]⟩) := by rw [rF16.cellAt (fs.length * 5) (by omega)]; exact post_at (fldCells_len fs) (j := 0) rfl
              have n0 : (0 : Int) ≤ (vl.length : Int) := by omega
              have n1 : (vl.length : Int) < ((vl.length : Int) + 1) := by omega
              have n3 : (fs.length : Int) < ((fs.length : Int) + 1) := by omega
              obtain ⟨i0, hi0, hz0, hz1, hz2⟩ := info_parts lstInfo
              have hlow := fun (i : Nat) (u : Value) (k : Nat) (hu : LS[i]? = some u) (hk : u.ownBlock = some k) => (hLI.lst.lt hu hk).2
              have hb0 := hLI.bnd
              have h7s := hLI.foot.size
              have hlbx : w5.heap.size + 1 ≤ w16.heap.size := by have := HZ7.out; omega
              have own15d := own_low own15c hb10.size
              go_wp2_with (at_builtin; refine wpList_append_liesG (by rfl) _ _ 49 rfl (w5.heap.size + 1) 28 i0 (.slice none 0 0) 1 24 Tryd.underlying49 hi0 hz0 hz1 hz2 rfl (by decide) _ LS.length LS rfl (rowL.alloc _) ⟨w16.heap.size, 0, none⟩ 2 2 [.slice A14 TS.length c14, .slice A15 TS.length c15] rfl rfl (World.news_of_block (cs := #[.slice A14 TS.length c14, .slice A15 TS.length c15]) (t := 28) (fr := (0, 0)) (heap_alloc_new w16 _)) (by simp [Value.oneCell']) (by decide) (by unfold maxLen; omega) (by omega) (by simp only [World.size_alloc]; omega) ?_)
              intro g17 cap17 w17 own17 hg17 hat17 hlt17
              obtain ⟨f2, hL2, hcall⟩ := li_fin rowL lstL hb0 hlow h7s (by omega) own14c own15d hA15 hTS hllb own17 hg17
              have HC := Lib.hid hcall
              clear hcall own17 hg17 hat17 hlt17 hb0 hlow
              go_wp2_with fail
              refine HC.out.mono ?_
              rintro e w18 ⟨rfl, hf18⟩
              have rV18 := hf18.own rV16 (fun g hg => ⟨own_off rowL rV16 (by decide) hg, fun i v hv => own_off (hL2.own i v hv) rV16 (by decide) hg⟩)
              have rF18 := hf18.own rF16 (fun g hg => ⟨own_off rowL rF16 (by decide) hg, fun i v hv => own_off (hL2.own i v hv) rF16 (by decide) hg⟩)
              have bO18 := hf18.blk bO16 ⟨own_blk_ne rowL bO16 (by decide), fun i v hv => own_blk_ne (hL2.own i v hv) bO16 (by decide)⟩
              have hbw18 : Below w.heap.size w w18 := hbw16.trans (hf18.toBelow (fun k hk => ⟨fun e => by have := (rowL.lt k e).1; have := hb5'.size; omega, fun i v hv e => by have := (hL2.lt hv e).1; have := hb7'.size; omega⟩) hbw16.size)
              clear HC hf18 rV16 rF16 bO16 hL2 rowL lstL own14c own15c own15d bSm cSm x0 x1 x2 hLI
              go_wp2_with fail
              go_loopw [172] (fun i wq => ∃ i' : Nat, i' ≤ vl.length ∧ i = .int .i64 i' ∧ wq.ownsRow w1.heap.size 48 2 (.slice (some ⟨gv, 0, none⟩) (vl.length + 1) cv) (vl.length + 1) (valCells (onV i' vl) ++ valC spareV) ∧ Foot w18 wq (fun k => k ≠ gv)) (fun i _ => vl.length - (intOf i).toNat)
              case atStart => exact ⟨0, Nat.zero_le _, rfl, by rw [onV_zero]; exact rV18, Foot.refl _ _⟩
              case round =>
                obtain ⟨i, hi, rfl, rVi, hfi⟩ := hrel
                by_cases hlt4 : i < vl.length
                · obtain ⟨v, hv⟩ : ∃ v, vl[i]? = some v := ⟨_, List.getElem?_eq_getElem hlt4⟩
                  have hvi := onV_at hv
                  have x1 : wr.cell? ⟨gv, i * 2 + 1, none⟩ = some (.string v.text) := by rw [rVi.cellAt (i * 2 + 1) (by omega)]; exact (pre_at (valCells_at (onV i vl) i 1 v hvi (by omega)) rfl)
                  have z1 := rVi.frozenAt (i * 2 + 1)
                  have htx := vsum_text hv
                  have i0' : (0 : Int) ≤ (i : Int) := by omega
                  have i1' : (i : Int) < (vl.length : Int) := by omega
                  go_wp2_with fail
                  go_roundw
                  case rel =>
                    obtain ⟨hst, _⟩ := rVi.stored (i * 2 + 1) (.string (oneB ++ v.text))
                    rw [onV_store hv] at hst
                    exact ⟨i + 1, by omega, by go_num, hst, hfi.set_ (p := ⟨gv, i * 2 + 1, none⟩) (fun _ h => h rfl) _⟩
                  case measure => simp [intOf]; omega
                · obtain rfl : i = vl.length := by omega
                  rw [onV_all] at rVi
                  have bO20 := hfi.blk bO18 (by have := bO18.lt; omega)
                  have rF20 := hfi.own rF18 (fun g hg => by simp [Value.ownBlock] at hg; omega)
                  have hbw20 : Below w.heap.size w wr := hbw18.trans (hfi.toBelow (fun k hk => by omega) hbw18.size)
                  obtain ⟨w20, hw20⟩ : ∃ w20, w20 = wr := ⟨_, rfl⟩
                  rw [← hw20] at bO20 rF20 hbw20 rVi ⊢
                  clear hw20 hfi rV18 rF18 bO18
                  have hlen2 : (valCells (vl.map oneV)).length = vl.length * 2 := by rw [valCells_len, List.length_map]
                  have vone := val_one (vl.map oneV)
                  have hvn : vl.length ≤ 1048576 := by omega
                  have hvs2 := one_sum vl
                  have slF := slc_pre (slc_own rF20)
                  have slV := slc_pre (slc_own rVi)
                  have hgv20 := (rVi.lt gv rfl).2
                  obtain ⟨TS2, hts⟩ : ∃ TS2, TS2 = fieldT fs k0 (vl.map oneV) := ⟨_, rfl⟩
                  have hTS0 := fieldT_len fs k0 (vl.map oneV) (by omega)
                  have hTS2 : TS2.length ≤ 1099511627776 := by rw [hts]; omega
                  have HT2 := Lib.hid hts
                  clear hts hTS0
                  have hs20 := hbw20.size
                  have O0 := Lib.hid (fun (wx : World) (hx : Below w20.heap.size w20 wx) => (show wx.cell? ⟨w5.heap.size, 0, none⟩ = some (.slice (some ⟨gf, 0, none⟩) fs.length cf) from ((bO20.below hx bO20.lt).cell 0).trans rfl))
                  have FA2 := Lib.hid (fun (wx : World) (hx : Below w20.heap.size w20 wx) => field_n fs k0 vl (some ⟨gf, 0, none⟩) (some ⟨gv, 0, none⟩) cf cv w20.heap.size wx hx.size (tab_below ht (bchain hbw20 hx) h0) (by have := hx.size; omega) hfl (by omega) (slF.below hx (Nat.le_refl _)) (slV.below hx (Nat.le_refl _)))
                  have RA2 := Lib.hid (fun (wx : World) (hx : Below w20.heap.size w20 wx) (A : Option Addr) (c : Nat) (hS : Slc wx wx.heap.size A (valCells (vl.map oneV))) => refField_n fs k0 vl (some ⟨gf, 0, none⟩) A cf c wx.heap.size wx (Nat.le_refl _) (tab_below ht (bchain hbw20 hx) h0) (by have := hx.size; omega) hfl (by omega) ((slF.below hx (Nat.le_refl _)).mono hx.size) hS)
                  have SV2 := Lib.hid (fun (wx : World) (hx : Below w20.heap.size w20 wx) => (fun j u hu => (hx.cell (p := ⟨gv, 0 + j, none⟩) hgv20).trans (rd_pre rVi j u hu) : ∀ j u, (valCells (vl.map oneV))[j]? = some u → wx.cell? ⟨gv, 0 + j, none⟩ = some u))
                  rw [← HT2.out] at FA2 RA2
                  go_wp2_with fail
                  refine Rel.wp_region_rel (fun wx => Below w20.heap.size w20 wx) (fun wa wb => Below wa.heap.size wa wb) (by kernel_rfl) (by kernel_rfl) (bdrew (Below.refl _ _)) (fun _ => Below.refl _ _) ?_
                  apply Rel.rel_one2 1 [] rfl (by kernel_rfl) (by kernel_rfl)
                  case hs =>
                    intro wx hx
                    have o0 := O0.out wx hx
                    try simp only [Act.put, List.setIfInBounds_toArray, List.set_cons_zero, List.set_cons_succ]
                    intro KK hK
                    go_simp
                    exact hK _ _ hx (Below.refl _ _) rfl
                  apply Rel.rel_one2 2 [] rfl (by kernel_rfl) (by kernel_rfl)
                  case hs =>
                    intro wx hx
                    try simp only [Act.put, List.setIfInBounds_toArray, List.set_cons_zero, List.set_cons_succ]
                    intro KK hK
                    go_simp
                    exact hK _ _ hx (Below.refl _ _) rfl
                  apply Rel.rel_one2 3 [] rfl (by kernel_rfl) (by kernel_rfl)
                  case hs =>
                    intro wx hx
                    try simp only [Act.put, List.setIfInBounds_toArray, List.set_cons_zero, List.set_cons_succ]
                    intro KK hK
                    go_simp
                    exact hK _ _ hx (Below.refl _ _) rfl
                  apply Rel.rel_kind2 4 [(0, 186), (1, 187), (2, 188)] (TokV TS2) rfl (by kernel_rfl) (by kernel_rfl) (tokV_stable)
                  case hs =>
                    intro wx hx
                    rintro _ rfl _ rfl _ rfl
                    have o0 := O0.out wx hx
                    try simp only [Act.put, List.setIfInBounds_toArray, List.set_cons_zero, List.set_cons_succ]
                    intro KK hK
                    go_simp
                    go_at_call 21
                    refine (FA2.out wx hx).mono ?_
                    rintro e wy ⟨A', c', rfl, own, hby⟩
                    exact hK _ _ (bchain hx hby) hby ⟨A', c', rfl, slc_own own⟩
                  apply Rel.rel_one2 5 [] rfl (by kernel_rfl) (by kernel_rfl)
                  case hs =>
                    intro wx hx
                    have o0 := O0.out wx hx
                    try simp only [Act.put, List.setIfInBounds_toArray, List.set_cons_zero, List.set_cons_succ]
                    intro KK hK
                    go_simp
                    exact hK _ _ hx (Below.refl _ _) rfl
                  apply Rel.rel_one2 6 [] rfl (by kernel_rfl) (by kernel_rfl)
                  case hs =>
                    intro wx hx
                    try simp only [Act.put, List.setIfInBounds_toArray, List.set_cons_zero, List.set_cons_succ]
                    intro KK hK
                    go_simp
                    exact hK _ _ hx (Below.refl _ _) rfl
                  apply Rel.rel_kind2 7 [] (EmpV) rfl (by kernel_rfl) (by kernel_rfl) (empV_stable)
                  case hs =>
                    intro wx hx
                    try simp only [Act.put, List.setIfInBounds_toArray, List.set_cons_zero, List.set_cons_succ]
                    intro KK hK
                    go_simp
                    exact hK _ _ (balloc hx _) (balloc (Below.refl _ _) _) ⟨wx.heap.size, rfl, Blk.new _ _ _⟩
                  apply Rel.rel_one2 8 [] rfl (by kernel_rfl) (by kernel_rfl)
                  case hs =>
                    intro wx hx
                    try simp only [Act.put, List.setIfInBounds_toArray, List.set_cons_zero, List.set_cons_succ]
                    intro KK hK
                    go_simp
                    exact hK _ _ hx (Below.refl _ _) rfl
                  apply Rel.rel_kind2 9 [(6, 192), (7, 193)] (ValV (vl.map oneV) vl.length) rfl (by kernel_rfl) (by kernel_rfl) (valV_stable)
                  case hs =>
                    intro wx hx
                    rintro _ ⟨g192, rfl, k192⟩ _ rfl
                    have o0 := O0.out wx hx
                    try simp only [Act.put, List.setIfInBounds_toArray, List.set_cons_zero, List.set_cons_succ]
                    intro KK hK
                    exact app_val vl.length hlen2 vone (by rfl) _ _ (by rfl) (by rfl) (by rfl) (SV2.out wx hx) hvn (fun v' wy hv' hby => hK _ _ (bchain hx hby) hby hv')
                  apply Rel.rel_kind2 10 [(4, 190), (5, 191), (8, 194)] (TokV TS2) rfl (by kernel_rfl) (by kernel_rfl) (tokV_stable)
                  case hs =>
                    intro wx hx
                    rintro _ rfl _ rfl _ ⟨A194, c194, rfl, s194⟩
                    have o0 := O0.out wx hx
                    try simp only [Act.put, List.setIfInBounds_toArray, List.set_cons_zero, List.set_cons_succ]
                    intro KK hK
                    go_simp
                    go_at_call 22
                    refine (RA2.out wx hx A194 c194 s194).mono ?_
                    rintro e wy ⟨A', c', rfl, own, hby⟩
                    exact hK _ _ (bchain hx hby) hby ⟨A', c', rfl, own.slc⟩
                  apply Rel.rel_one2 11 [(3, 189), (9, 195)] rfl (by kernel_rfl) (by kernel_rfl)
                  case hs =>
                    intro wx hx
                    rintro _ ⟨A189, c189, rfl, s189⟩ _ ⟨A195, c195, rfl, s195⟩
                    have o0 := O0.out wx hx
                    try simp only [Act.put, List.setIfInBounds_toArray, List.set_cons_zero, List.set_cons_succ]
                    intro KK hK
                    go_simp
                    go_at_call 18
                    refine (same_eq TS2 _ _ _ _ _ wx (Nat.le_refl _) hTS2 s189 s195).mono ?_
                    rintro e wy ⟨rfl, hby⟩
                    exact hK _ _ (bchain hx hby) hby rfl
                  apply Rel.rel_one2 12 [(10, 196)] rfl (by kernel_rfl) (by kernel_rfl)
                  case hs =>
                    intro wx hx
                    rintro _ rfl
                    try simp only [Act.put, List.setIfInBounds_toArray, List.set_cons_zero, List.set_cons_succ]
                    intro KK hK
                    go_simp
                    exact hK _ _ hx (Below.refl _ _) rfl
                  refine Rel.rel_end [(0, 186), (1, 187), (2, 188), (3, 189), (4, 190), (5, 191), (6, 192), (7, 193), (8, 194), (9, 195), (10, 196), (11, 6)] (by kernel_rfl) (by kernel_rfl) ?_
                  intro wx hx
                  rintro _ rfl _ rfl _ rfl _ ⟨A189, c189, rfl, s189⟩ _ rfl _ rfl _ ⟨g192, rfl, k192⟩ _ rfl _ ⟨A194, c194, rfl, s194⟩ _ ⟨A195, c195, rfl, s195⟩ _ rfl _ rfl
                  try simp only [Act.put, List.setIfInBounds_toArray, List.set_cons_zero, List.set_cons_succ]
                  refine Rel.valsD_ret ?_
                  go_wp2_with fail
                  go_ret
                  exact ⟨rfl, bchain hbw20 hx⟩

set_option maxHeartbeats 4000000 in
theorem walk_out (fs : List Fld) (i : Int) (vl : List Val) (A1 A2 : Option Addr) (c1 c2 : Nat) (w : World) (hfl : fs.length ≤ 1048576) (h : ¬ (0 ≤ i ∧ i < fs.length)) :
    Calls Tryd.prog 8 #[.agg #[.slice A1 fs.length c1], .int .i64 i, .slice A2 vl.length c2] w fun e w' => e = .returned (.bool true) ∧ Below w.heap.size w w' := by
  by_cases h1 : i < 0
  · have hd : decide (i < 0) = true := decide_eq_true h1
    clear h
    go_enter Tryd.func8, Tryd.ntmps8
    go_wp2_with fail
    go_at_call 12
    refine (lives_any _).mono ?_
    rintro e w1 ⟨rfl, hb1⟩
    have hb1' : Below w.heap.size w w1 := bchain (by (repeat (first | exact Below.refl _ _ | assumption | refine balloc ?_ _ | refine bdrew ?_ | refine bdrewN ?_ _ | refine bchain ?_ (by assumption)))) hb1
    go_wp2_with fail
    go_at_call 12
    refine (lives_any _).mono ?_
    rintro e w2 ⟨rfl, hb2⟩
    go_wp2_with fail
    go_ret
    exact ⟨rfl, bchain hb1' hb2⟩
  · have h2 : (fs.length : Int) ≤ i := by omega
    have hd : decide (i < 0) = false := decide_eq_false h1
    have hd2 : decide ((fs.length : Int) ≤ i) = true := decide_eq_true h2
    clear h
    go_enter Tryd.func8, Tryd.ntmps8
    go_wp2_with fail
    go_at_call 12
    refine (lives_any _).mono ?_
    rintro e w1 ⟨rfl, hb1⟩
    have hb1' : Below w.heap.size w w1 := bchain (by (repeat (first | exact Below.refl _ _ | assumption | refine balloc ?_ _ | refine bdrew ?_ | refine bdrewN ?_ _ | refine bchain ?_ (by assumption)))) hb1
    have bS1 := (Blk.new w 43 #[.slice A1 fs.length c1]).below hb1 (by simp only [World.size_alloc]; omega)
    have cS1 := bS1.cell 0
    simp only [List.getElem?_toArray, List.getElem?_cons_zero] at cS1
    go_wp2_with fail
    go_at_call 12
    refine (lives_any _).mono ?_
    rintro e w2 ⟨rfl, hb2⟩
    go_wp2_with fail
    go_ret
    exact ⟨rfl, bchain hb1' hb2⟩

theorem walk (fs : List Fld) (i : Int) (vl : List Val) (A1 A2 : Option Addr) (c1 c2 : Nat) (w : World) (ht : Tab w) (h0 : 0 < w.heap.size) (hfl : fs.length ≤ 1048576) (hvs : vsum vl ≤ 1048576)
    (h1 : Slc w w.heap.size A1 (fldCells fs)) (h2 : Slc w w.heap.size A2 (valCells vl)) (n2 : A2 = none → vl.length = 0 ∧ c2 = 0) :
    Calls Tryd.prog 8 #[.agg #[.slice A1 fs.length c1], .int .i64 i, .slice A2 vl.length c2] w fun e w' => e = .returned (.bool true) ∧ Below w.heap.size w w' := by
  by_cases h : 0 ≤ i ∧ i < fs.length
  · obtain ⟨k, rfl⟩ := Int.eq_ofNat_of_zero_le h.1
    obtain ⟨f, hf⟩ : ∃ f, fs[k]? = some f := ⟨_, List.getElem?_eq_getElem (by omega)⟩
    exact walk_in fs k f vl A1 A2 c1 c2 w ht h0 hf hfl hvs h1 h2 n2
  · exact walk_out fs i vl A1 A2 c1 c2 w hfl h
end Go.Proofs.YtmoahflgcojfcaaDoor.TokensOwnsWalk
