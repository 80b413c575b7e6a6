/-
  The walk of tokens.Of over any field.
-/
import Derived.Test.YtmoahflgcojfcaaDoorDChains
import Derived.Test.YtmoahflgcojfcaaDoorDNums
namespace Go.Proofs.YtmoahflgcojfcaaDoor.OfAny
set_option maxRecDepth 100000
open Go.RowKit Go.PlainAid WordPlain StemPlain FoldPlain Base WordBytes WordsWalk StopsPlain StopsWalk ChainPlain OfText NumPlain NumWalk NumTerm

/-- The one token of a text that is one term. -/
def loneT (x s : ByteArray) : Tok := ⟨x, 0, 0, 0, s.size⟩
def ofT (kd : Int) (a b c : Bool) (s : ByteArray) : List Tok :=
  if kd = 1 then textT a b c s
  else if kd = 2 then (if s.size ≤ 64 then [loneT s s] else [])
  else if kd = 3 then (match parseN s with | some v => [loneT (termN v) s] | none => [])
  else []
theorem of_1 (a b c : Bool) (s : ByteArray) : ofT 1 a b c s = textT a b c s := rfl
theorem of_2y {a b c : Bool} {s : ByteArray} (h : s.size ≤ 64) : ofT 2 a b c s = [loneT s s] := by unfold ofT; rw [if_neg (by decide), if_pos rfl, if_pos h]
theorem of_2n {a b c : Bool} {s : ByteArray} (h : ¬ s.size ≤ 64) : ofT 2 a b c s = [] := by unfold ofT; rw [if_neg (by decide), if_pos rfl, if_neg h]
theorem of_3y {a b c : Bool} {s : ByteArray} {v : Int} (h : parseN s = some v) : ofT 3 a b c s = [loneT (termN v) s] := by unfold ofT; rw [if_neg (by decide), if_neg (by decide), if_pos rfl, h]
theorem of_3n {a b c : Bool} {s : ByteArray} (h : parseN s = none) : ofT 3 a b c s = [] := by unfold ofT; rw [if_neg (by decide), if_neg (by decide), if_pos rfl, h]
theorem of_no {kd : Int} {a b c : Bool} {s : ByteArray} (h1 : kd ≠ 1) (h2 : kd ≠ 2) (h3 : kd ≠ 3) : ofT kd a b c s = [] := by unfold ofT; rw [if_neg h1, if_neg h2, if_neg h3]
theorem of_len (kd : Int) (a b c : Bool) (s : ByteArray) : (ofT kd a b c s).length ≤ s.size + 1 := by
  unfold ofT
  split
  · exact textT_len a b c s
  · split
    · split <;> simp
    · split
      · split <;> simp
      · simp

theorem lone_cells (x s : ByteArray) : tokCells [loneT x s] = [.string x, .int .i64 0, .int .i64 0, .int .i64 0, .int .i64 (s.size : Nat)] := rfl
/-- One token in a new block. -/
theorem lone_own {w wr : World} (hb : Below w.heap.size w wr) (x s : ByteArray) :
    Toks [loneT x s] w (.returned (.slice (some ⟨wr.heap.size, 0, none⟩) 1 1)) (wr.alloc (.cells #[.string x, .int .i64 0, .int .i64 0, .int .i64 0, .int .i64 (s.size : Nat)] 32)) :=
  ⟨_, _, rfl, by
    have := World.ownsRow_lit (e := 32) (size := 5) (base := w.heap.size) wr #[.string x, .int .i64 0, .int .i64 0, .int .i64 0, .int .i64 (s.size : Nat)] 1 hb.size (by decide) rfl
    exact this, balloc hb _⟩
theorem none_toks {w wr : World} (hb : Below w.heap.size w wr) : Toks [] w (.returned (.slice none 0 0)) wr := ⟨_, _, rfl, World.ownsRow_nil _ _ _ _, hb⟩

set_option maxHeartbeats 4000000 in
theorem of_any (nm : ByteArray) (kd : Int) (a b c : Bool) (s : ByteArray) (w : World) (hs : s.size ≤ 1099511627775) (ht : Tab w) (h0 : 0 < w.heap.size) :
    Calls Tryd.prog 13 #[.agg #[.string nm, .int .i64 kd, .bool a, .bool b, .bool c], .string s] w (Toks (ofT kd a b c s) w) := by
  by_cases h1 : kd = 1
  · subst h1
    rw [of_1]
    exact of_text nm a b c s w hs ht h0
  have b1 : (kd == 1) = false := by rw [beq_eq_false_iff_ne]; exact h1
  by_cases h2 : kd = 2
  · have b2 : (kd == 2) = true := by rw [beq_iff_eq]; exact h2
    by_cases hz : s.size ≤ 64
    · rw [h2, of_2y hz, ← h2]
      clear h1 h2
      go_enter Tryd.func13, Tryd.ntmps13
      go_wp2_with fail
      go_ret
      have := lone_own (w := w) (wr := (w.alloc (.cells #[.string nm, .int .i64 kd, .bool a, .bool b, .bool c] 26)).alloc (.cells #[.string s, .int .i64 0, .int .i64 0, .int .i64 0, .int .i64 (s.size : Nat)] 32)) (by (repeat (first | exact Below.refl _ _ | assumption | refine balloc ?_ _ | refine bdrew ?_ | refine bdrewN ?_ _ | refine bchain ?_ (by assumption)))) s s
      simp only [World.size_alloc] at this
      exact this
    · rw [h2, of_2n hz, ← h2]
      clear h1 h2
      go_enter Tryd.func13, Tryd.ntmps13
      go_wp2_with fail
      go_ret
      exact none_toks (by (repeat (first | exact Below.refl _ _ | assumption | refine balloc ?_ _ | refine bdrew ?_ | refine bdrewN ?_ _ | refine bchain ?_ (by assumption))))
  have b2 : (kd == 2) = false := by rw [beq_eq_false_iff_ne]; exact h2
  by_cases h3 : kd = 3
  · have b3 : (kd == 3) = true := by rw [beq_iff_eq]; exact h3
    have PA := Lib.hid (fun W => parse_any s W (by omega))
    cases hp : parseN s with
    | none =>
      rw [h3, of_3n hp, ← h3]
      rw [hp] at PA
      unfold numV at PA
      simp only [Option.getD_none, Option.isSome_none] at PA
      clear h1 h2 h3 hp
      go_enter Tryd.func13, Tryd.ntmps13
      go_wp2_with (go_at_call 29; refine (PA.out _).mono ?_; rintro e w' ⟨rfl, rfl⟩)
      go_ret
      exact none_toks (by (repeat (first | exact Below.refl _ _ | assumption | refine balloc ?_ _ | refine bdrew ?_ | refine bdrewN ?_ _ | refine bchain ?_ (by assumption))))
    | some v =>
      have hbd := parse_bd hp
      rw [h3, of_3y hp, ← h3]
      rw [hp] at PA
      unfold numV at PA
      simp only [Option.getD_some, Option.isSome_some] at PA
      have TA := Lib.hid (fun W => term_any v W hbd.1 hbd.2)
      clear h1 h2 h3 hp hbd
      have hk := Blk.new (w.alloc (.cells #[.string nm, .int .i64 kd, .bool a, .bool b, .bool c] 26)) 32 #[.string s, .int .i64 0, .int .i64 0, .int .i64 0, .int .i64 (s.size : Nat)]
      have hkl := hk.lt
      go_enter Tryd.func13, Tryd.ntmps13
      go_wp2_with (go_at_call 29; refine (PA.out _).mono ?_; rintro e w' ⟨rfl, rfl⟩)
      go_at_call 30
      refine (TA.out _).mono ?_
      rintro e w3 ⟨rfl, hb3⟩
      have hk3 := hk.below hb3 hkl
      have hb3' : Below w.heap.size w w3 := bchain (by (repeat (first | exact Below.refl _ _ | assumption | refine balloc ?_ _ | refine bdrew ?_ | refine bdrewN ?_ _ | refine bchain ?_ (by assumption)))) hb3
      simp only [World.size_alloc] at hk3
      have e0 := hk3.cell 0
      have e1 := hk3.cell 1
      have e2 := hk3.cell 2
      have e3 := hk3.cell 3
      have e4 := hk3.cell 4
      have z0 := hk3.frozen 0
      simp only [List.getElem?_toArray, List.getElem?_cons_zero, List.getElem?_cons_succ] at e0 e1 e2 e3 e4
      clear hk hkl hb3 TA PA
      go_wp2_with fail
      go_ret
      have := lone_own (w := w) (wr := w3.setCell ⟨w.heap.size + 1, 0, none⟩ (.string (termN v))) (hb3'.setCell (p := ⟨w.heap.size + 1, 0, none⟩) (Nat.le_succ _) _) (termN v) s
      simp only [World.size_setCell] at this
      exact this
  have b3 : (kd == 3) = false := by rw [beq_eq_false_iff_ne]; exact h3
  rw [of_no h1 h2 h3]
  clear h1 h2 h3
  go_enter Tryd.func13, Tryd.ntmps13
  go_wp2_with fail
  go_ret
  exact none_toks (by (repeat (first | exact Below.refl _ _ | assumption | refine balloc ?_ _ | refine bdrew ?_ | refine bdrewN ?_ _ | refine bchain ?_ (by assumption))))
end Go.Proofs.YtmoahflgcojfcaaDoor.OfAny
