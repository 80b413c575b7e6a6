/-
  The walk of the reference's Of.
-/
import Derived.Test.YtmoahflgcojfcaaDoorOfAny
import Derived.Test.YtmoahflgcojfcaaDoorRefChain
import Derived.Test.YtmoahflgcojfcaaDoorNumRef
import Derived.Test.YtmoahflgcojfcaaDoorDWords
import Derived.Test.YtmoahflgcojfcaaDoorApp
namespace Go.Proofs.YtmoahflgcojfcaaDoor.RefOf
set_option maxRecDepth 100000
open Go.RowKit Go.PlainAid WordPlain StemPlain FoldPlain Base WordBytes WordsWalk WordsRef StopsPlain StopsWalk ChainPlain OfText NumPlain NumWalk NumTerm NumRef RefChain OfAny App

set_option maxHeartbeats 2000000 in
theorem lone_any (x s : ByteArray) (w : World) (hs : s.size ≤ 1099511627775) :
    Calls Tryd.prog 43 #[.string x, .string s] w (Toks [loneT x s] w) := by
  go_enter Tryd.func43, Tryd.ntmps43
  go_wp2_with fail
  go_ret
  exact lone_own (Below.refl _ _) x s

/-- Tokens in memory. -/
def RToks (ts : List Tok) (w : World) (e : Ending) (w' : World) : Prop :=
  ∃ A c, e = .returned (.slice A ts.length c) ∧ SlcIn w' w.heap.size w'.heap.size A (tokCells ts) ∧ Below w.heap.size w w'
/-- .. and room for them. -/
def RToksC (ts : List Tok) (w : World) (e : Ending) (w' : World) : Prop :=
  ∃ A c, e = .returned (.slice A ts.length c) ∧ SlcIn w' w.heap.size w'.heap.size A (tokCells ts) ∧ Below w.heap.size w w' ∧ ts.length ≤ c
theorem RToksC.drop {ts : List Tok} {w : World} {e : Ending} {w' : World} (h : RToksC ts w e w') : RToks ts w e w' := by
  obtain ⟨A, c, he, hs, hb, _⟩ := h
  exact ⟨A, c, he, hs, hb⟩
theorem own_cap {w : World} {base size n c : Nat} {e : TypeId} {A : Option Addr} {xs : List Value} (h : w.ownsRow base e size (.slice A n c) n xs) : n ≤ c := by
  rcases h.2 with ⟨h', h0⟩ | ⟨g, cap, cur, h', _, _, hc, _⟩
  · simp only [Value.slice.injEq] at h'; omega
  · simp only [Value.slice.injEq] at h'; omega
theorem ownE_cap {w : World} {base size n c : Nat} {e : TypeId} {A : Option Addr} {xs : List Value} (h : OwnE w base e size (.slice A n c) n xs) : n ≤ c := by
  rcases h with h | ⟨h0, _⟩
  · exact own_cap h
  · omega
theorem Toks.ref {ts : List Tok} {w : World} {e : Ending} {w' : World} (h : Toks ts w e w') : RToks ts w e w' := by
  obtain ⟨A, c, he, ho, hb⟩ := h
  exact ⟨A, c, he, slcIn_own ho (Nat.le_refl _), hb⟩
theorem toks_below {ts : List Tok} {w w1 : World} {e : Ending} {w' : World} (hb : Below w.heap.size w w1) (h : Toks ts w1 e w') : Toks ts w e w' := by
  obtain ⟨A, c, he, ho, hb'⟩ := h
  exact ⟨A, c, he, own_low ho hb.size, bchain hb hb'⟩

set_option maxHeartbeats 4000000 in
theorem refOf_textC (nm : ByteArray) (a b c : Bool) (s : ByteArray) (w : World) (hs : s.size ≤ 1099511627775) :
    Calls Tryd.prog 17 #[.agg #[.string nm, .int .i64 1, .bool a, .bool b, .bool c], .string s] w (RToksC (textT a b c s) w) := by
  have hwl := words_len s
  have hkf := Blk.new w 26 #[.string nm, .int .i64 1, .bool a, .bool b, .bool c]
  go_enter Tryd.func17, Tryd.ntmps17
  go_wp2_with fail
  go_at_call 41
  refine (words_ref s _ (by omega)).mono ?_
  rintro e w2 ⟨A, cap, rfl, own2, hb2⟩
  have hb2' : Below w.heap.size w w2 := bchain (by (repeat (first | exact Below.refl _ _ | assumption | refine balloc ?_ _ | refine bdrew ?_ | refine bdrewN ?_ _ | refine bchain ?_ (by assumption)))) hb2
  have hs2 := hb2'.size
  have hL := slc_own own2
  have hkf2 := (hkf.alloc (.cells #[] 32)).below hb2 (by simp only [World.size_alloc]; omega)
  have hlf := hkf2.lt
  clear own2 hb2 hkf
  go_wp2_with fail
  go_loopw [5, 20] (fun v i wr => ∃ k : Nat, k ≤ (words s).length ∧ i = .int .i64 k ∧
      OwnE wr w2.heap.size 32 5 v (passed (chn a b c) ((words s).take k)).length (tokCells (passed (chn a b c) ((words s).take k))) ∧ Below w2.heap.size w2 wr) (fun _ i _ => (words s).length - (intOf i).toNat)
  case atStart => exact ⟨0, Nat.zero_le _, rfl, OwnE.empty _ _ _ _ _, Below.refl _ _⟩
  case round =>
    obtain ⟨k, hk, rfl, hown, hbel⟩ := hrel
    obtain ⟨A3, c3, rfl⟩ := OwnE.slice hown
    have hsz := hbel.size
    have hpl := passed_len (chn a b c) ((words s).take k)
    rw [List.length_take] at hpl
    by_cases hlt : k < (words s).length
    · obtain ⟨t, htk⟩ : ∃ t, (words s)[k]? = some t := ⟨_, List.getElem?_eq_getElem hlt⟩
      have hne : tokCells (words s) ≠ [] := by
        intro h
        have := tokCells_len (words s)
        rw [h] at this
        simp at this
        omega
      obtain ⟨g1, o1, rfl, hg1, hc1⟩ := (hL.below hbel (Nat.le_refl _)) hne
      obtain ⟨x0, x1, x2, x3, x4⟩ := tok_five (B := 0) hc1 htk
      have htx := words_text s htk
      have hkfr := ((hkf2.below hbel hlf).alloc (.cells #[.string t.text, .int .i64 t.value, .int .i64 t.pos, .int .i64 t.start, .int .i64 t.stop] 32))
      have p0 := hkfr.cell 0
      have p1 := hkfr.cell 1
      have p2 := hkfr.cell 2
      have p3 := hkfr.cell 3
      have p4 := hkfr.cell 4
      simp only [List.getElem?_toArray, List.getElem?_cons_zero, List.getElem?_cons_succ] at p0 p1 p2 p3 p4
      have hwr : w.heap.size ≤ wr.heap.size := Nat.le_trans hs2 hsz
      clear hc1 hL hne hkfr
      have TH := Lib.hid (chained_any nm 1 a b c t.text (wr.alloc (.cells (tokRow t) 32)) (by omega))
      unfold tokRow at TH
      have hb := Blk.new wr 32 (tokRow t)
      unfold tokRow at hb
      go_wp2_with fail
      go_at_call 42
      clear p0 p1 p2 p3 p4
      cases hth : (thru (chn a b c) t.text).2
      · rw [hth] at TH
        have HP := Lib.hid (passed_no htk hth)
        clear hth
        refine TH.out.mono ?_
        rintro e w3 ⟨rfl, hb3⟩
        have hb3' : Below wr.heap.size wr w3 := bchain (by (repeat (first | exact Below.refl _ _ | assumption | refine balloc ?_ _ | refine bdrew ?_ | refine bdrewN ?_ _ | refine bchain ?_ (by assumption)))) hb3
        go_wp2_with fail
        go_roundw
        case rel => exact ⟨k + 1, by omega, by go_num, by rw [HP.out]; exact OwnE.below hown hb3', hbel.trans (hb3'.mono hsz)⟩
        case measure => simp [intOf]; omega
      · rw [hth] at TH
        have HP := Lib.hid (passed_yes htk hth)
        clear hth
        refine TH.out.mono ?_
        rintro e w3 ⟨rfl, hb3⟩
        have hb3' : Below wr.heap.size wr w3 := bchain (by (repeat (first | exact Below.refl _ _ | assumption | refine balloc ?_ _ | refine bdrew ?_ | refine bdrewN ?_ _ | refine bchain ?_ (by assumption)))) hb3
        have hk3 := hb.below hb3 (by simp only [World.size_alloc]; omega)
        obtain ⟨y, hy⟩ : ∃ y, y = (thru (chn a b c) t.text).1 := ⟨_, rfl⟩
        rw [← hy] at HP ⊢
        have hb4 : Below wr.heap.size wr (w3.setCell ⟨wr.heap.size, 0, none⟩ (.string y)) := hb3'.setCell (p := ⟨wr.heap.size, 0, none⟩) (Nat.le_refl _) _
        have own4 := OwnE.below hown hb4
        have q0 := hk3.cell 0
        have q1 := hk3.cell 1
        have q2 := hk3.cell 2
        have q3 := hk3.cell 3
        have q4 := hk3.cell 4
        have z0 := hk3.frozen 0
        simp only [List.getElem?_toArray, List.getElem?_cons_zero, List.getElem?_cons_succ] at q0 q1 q2 q3 q4
        have hs4 := hb4.size
        simp only [World.size_setCell] at hs4
        clear hy TH hb hk3
        go_wp2_with (at_builtin; refine wpList_append1E (base := w2.heap.size) rfl _ _ rfl tokElem own4 rfl (by rw [World.size_setCell]; rfl) rfl rfl (by omega) (by unfold maxLen; omega) (by simp only [World.size_setCell]; omega) ?_)
        intro v5 w5 own5 hb5
        have hb5' := hb5 w2 (hbel.trans (hb4.mono hsz))
        clear hb5 own4
        go_wp2_with fail
        go_roundw
        case rel => exact ⟨k + 1, by omega, by go_num, by rw [HP.out, List.length_append, tokCells_append]; exact .inl own5, hb5'⟩
        case measure => simp [intOf]; omega
    · obtain rfl : k = (words s).length := by omega
      have e : passed (chn a b c) ((words s).take (words s).length) = textT a b c s := by rw [List.take_length]; rfl
      rw [e] at hown ⊢
      clear e
      go_wp2_with fail
      go_ret
      exact ⟨_, _, rfl, OwnE.slcIn hown hs2, hb2'.trans (hbel.mono hs2), ownE_cap hown⟩

set_option maxHeartbeats 4000000 in
theorem refOf_anyC (nm : ByteArray) (kd : Int) (a b c : Bool) (s : ByteArray) (w : World) (hs : s.size ≤ 1099511627775) :
    Calls Tryd.prog 17 #[.agg #[.string nm, .int .i64 kd, .bool a, .bool b, .bool c], .string s] w (RToksC (ofT kd a b c s) w) := by
  by_cases h1 : kd = 1
  · subst h1
    rw [of_1]
    exact refOf_textC nm a b c s w hs
  have b1 : (kd == 1) = false := by rw [beq_eq_false_iff_ne]; exact h1
  by_cases h2 : kd = 2
  · have b2 : (kd == 2) = true := by rw [beq_iff_eq]; exact h2
    by_cases hz : s.size ≤ 64
    · rw [h2, of_2y hz, ← h2]
      clear h1 h2
      have LA := Lib.hid (fun W => lone_any s s W hs)
      go_enter Tryd.func17, Tryd.ntmps17
      go_wp2_with fail
      go_at_call 43
      refine (LA.out _).mono ?_
      rintro e w3 ⟨A3, c3, rfl, ho, hb3⟩
      have hb3' : Below w.heap.size w w3 := bchain (by (repeat (first | exact Below.refl _ _ | assumption | refine balloc ?_ _ | refine bdrew ?_ | refine bdrewN ?_ _ | refine bchain ?_ (by assumption)))) hb3
      go_wp2_with fail
      go_ret
      exact ⟨_, _, rfl, slcIn_own ho (by simp only [World.size_alloc]; omega), hb3', own_cap ho⟩
    · rw [h2, of_2n hz, ← h2]
      clear h1 h2
      go_enter Tryd.func17, Tryd.ntmps17
      go_wp2_with fail
      go_ret
      exact ⟨_, _, rfl, SlcIn.nil _ _ _ _, by (repeat (first | exact Below.refl _ _ | assumption | refine balloc ?_ _ | refine bdrew ?_ | refine bdrewN ?_ _ | refine bchain ?_ (by assumption))), Nat.le_refl _⟩
  have b2 : (kd == 2) = false := by rw [beq_eq_false_iff_ne]; exact h2
  by_cases h3 : kd = 3
  · have b3 : (kd == 3) = true := by rw [beq_iff_eq]; exact h3
    have PA := Lib.hid (fun W => parse_ref s W (by omega))
    cases hp : parseN s with
    | none =>
      rw [h3, of_3n hp, ← h3]
      rw [hp] at PA
      unfold numV at PA
      simp only [Option.getD_none, Option.isSome_none] at PA
      clear h1 h2 h3 hp
      go_enter Tryd.func17, Tryd.ntmps17
      go_wp2_with (go_at_call 44; refine (PA.out _).mono ?_; rintro e w' ⟨rfl, rfl⟩)
      go_ret
      exact ⟨_, _, rfl, SlcIn.nil _ _ _ _, by (repeat (first | exact Below.refl _ _ | assumption | refine balloc ?_ _ | refine bdrew ?_ | refine bdrewN ?_ _ | refine bchain ?_ (by assumption))), Nat.le_refl _⟩
    | some v =>
      have hbd := parse_bd hp
      rw [h3, of_3y hp, ← h3]
      rw [hp] at PA
      unfold numV at PA
      simp only [Option.getD_some, Option.isSome_some] at PA
      have TA := Lib.hid (fun W => term_ref v W hbd.1 hbd.2)
      have LA := Lib.hid (fun W => lone_any (termN v) s W hs)
      clear h1 h2 h3 hp hbd
      go_enter Tryd.func17, Tryd.ntmps17
      go_wp2_with (go_at_call 44; refine (PA.out _).mono ?_; rintro e w' ⟨rfl, rfl⟩)
      go_at_call 45
      refine (TA.out _).mono ?_
      rintro e w3 ⟨rfl, hb3⟩
      have hb3' : Below w.heap.size w w3 := bchain (by (repeat (first | exact Below.refl _ _ | assumption | refine balloc ?_ _ | refine bdrew ?_ | refine bdrewN ?_ _ | refine bchain ?_ (by assumption)))) hb3
      go_wp2_with fail
      go_at_call 43
      refine (LA.out _).mono ?_
      rintro e w4 ⟨A4, c4, rfl, ho, hb4⟩
      have hb4' : Below w.heap.size w w4 := bchain hb3' hb4
      go_wp2_with fail
      go_ret
      exact ⟨_, _, rfl, slcIn_own ho (by have := hb3'.size; omega), hb4', own_cap ho⟩
  have b3 : (kd == 3) = false := by rw [beq_eq_false_iff_ne]; exact h3
  rw [of_no h1 h2 h3]
  clear h1 h2 h3
  go_enter Tryd.func17, Tryd.ntmps17
  go_wp2_with fail
  go_ret
  exact ⟨_, _, rfl, SlcIn.nil _ _ _ _, by (repeat (first | exact Below.refl _ _ | assumption | refine balloc ?_ _ | refine bdrew ?_ | refine bdrewN ?_ _ | refine bchain ?_ (by assumption))), Nat.le_refl _⟩

theorem refOf_any (nm : ByteArray) (kd : Int) (a b c : Bool) (s : ByteArray) (w : World) (hs : s.size ≤ 1099511627775) :
    Calls Tryd.prog 17 #[.agg #[.string nm, .int .i64 kd, .bool a, .bool b, .bool c], .string s] w (RToks (ofT kd a b c s) w) := (refOf_anyC nm kd a b c s w hs).mono fun _ _ h => h.drop
end Go.Proofs.YtmoahflgcojfcaaDoor.RefOf
