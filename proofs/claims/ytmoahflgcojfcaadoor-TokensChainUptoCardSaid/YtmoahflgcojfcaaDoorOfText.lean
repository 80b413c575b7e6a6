/-
  The walk of tokens.Of over a text field.
-/
import Derived.Test.YtmoahflgcojfcaaDoorThrough
namespace Go.Proofs.YtmoahflgcojfcaaDoor.OfText
set_option maxRecDepth 100000
open Go.RowKit Go.PlainAid WordPlain StemPlain FoldPlain FoldWalk StemWalk8 Base WordBytes WordsWalk StopsPlain StopsWalk ChainPlain PluralPlain ChainWalk ChainMade Through

theorem own_low {w : World} {B B' size n : Nat} {e : TypeId} {v : Value} {xs : List Value} (h : w.ownsRow B e size v n xs) (hB : B' ≤ B) : w.ownsRow B' e size v n xs :=
  ⟨h.1, h.2.imp id fun ⟨g, cap, cur, h1, h2, h3⟩ => ⟨g, cap, cur, h1, Nat.le_trans hB h2, h3⟩⟩

/-- Tokens in new memory. -/
def Toks (ts : List Tok) (w : World) (e : Ending) (w' : World) : Prop :=
  ∃ A c, e = .returned (.slice A ts.length c) ∧ w'.ownsRow w.heap.size 32 5 (.slice A ts.length c) ts.length (tokCells ts) ∧ Below w.heap.size w w'

theorem toks_mk {ts : List Tok} {w w' : World} {A : Option Addr} {n c : Nat} (hn : n = ts.length) (h : w'.ownsRow w.heap.size 32 5 (.slice A n c) n (tokCells ts)) (hb : Below w.heap.size w w') : Toks ts w (.returned (.slice A n c)) w' := by
  subst hn
  exact ⟨A, c, rfl, h, hb⟩

/-- The five cells of token k. -/
theorem tok_five {w : World} {B g o k : Nat} {ts : List Tok} {t : Tok} (hc : ∀ j u, (tokCells ts)[j]? = some u → w.cell? ⟨g, o + j, none⟩ = some u) (ht : ts[k]? = some t) :
    w.cell? ⟨g, o + k * 5, none⟩ = some (.string t.text) ∧ w.cell? ⟨g, o + k * 5 + 1, none⟩ = some (.int .i64 t.value) ∧ w.cell? ⟨g, o + k * 5 + 2, none⟩ = some (.int .i64 t.pos) ∧
      w.cell? ⟨g, o + k * 5 + 3, none⟩ = some (.int .i64 t.start) ∧ w.cell? ⟨g, o + k * 5 + 4, none⟩ = some (.int .i64 t.stop) := by
  have e := fun j (hj : j < 5) => tokCells_at ts k t j ht hj
  refine ⟨hc (k * 5 + 0) _ (e 0 (by omega)), ?_, ?_, ?_, ?_⟩
  · have := hc (k * 5 + 1) _ (e 1 (by omega)); rwa [← Nat.add_assoc] at this
  · have := hc (k * 5 + 2) _ (e 2 (by omega)); rwa [← Nat.add_assoc] at this
  · have := hc (k * 5 + 3) _ (e 3 (by omega)); rwa [← Nat.add_assoc] at this
  · have := hc (k * 5 + 4) _ (e 4 (by omega)); rwa [← Nat.add_assoc] at this

def tokRow (t : Tok) : Array Value := #[.string t.text, .int .i64 t.value, .int .i64 t.pos, .int .i64 t.start, .int .i64 t.stop]

set_option maxHeartbeats 4000000 in
theorem of_text (nm : ByteArray) (a b c : Bool) (s : ByteArray) (w : World) (hs : s.size ≤ 1099511627775) (ht : Tab w) (h0 : 0 < w.heap.size) :
    Calls Tryd.prog 13 #[.agg #[.string nm, .int .i64 1, .bool a, .bool b, .bool c], .string s] w (Toks (textT a b c s) w) := by
  have hwl := words_len s
  go_enter Tryd.func13, Tryd.ntmps13
  go_wp2_with fail
  go_at_call 27
  refine (chain_any nm 1 a b c _ (tab_below ht (by (repeat (first | exact Below.refl _ _ | assumption | refine balloc ?_ _ | refine bdrew ?_ | refine bdrewN ?_ _ | refine bchain ?_ (by assumption)))) h0) (by simp only [World.size_alloc]; omega)).mono ?_
  rintro e w1 ⟨Ac, capc, g, rfl, ownc, hst, hb1⟩
  have hb1' : Below w.heap.size w w1 := bchain (by (repeat (first | exact Below.refl _ _ | assumption | refine balloc ?_ _ | refine bdrew ?_ | refine bdrewN ?_ _ | refine bchain ?_ (by assumption)))) hb1
  go_wp2_with fail
  go_at_call 14
  refine (words_any s w1 (by omega)).mono ?_
  rintro e w2 ⟨A, cap, rfl, own2, hb2⟩
  have hs1 := hb1'.size
  have hb2' := bchain hb1' hb2
  have hs2 := hb2.size
  have hL := slc_own own2
  have hCh := (slc_own ownc).below hb2 (Nat.le_refl _)
  have hst2 : b = true → StopRow w2 g := fun h => own_below (hst h) hb2
  clear own2 ownc hst hb1
  go_wp2_with fail
  go_loopw [6, 27] (fun v i wr => ∃ k : Nat, k ≤ (words s).length ∧ i = .int .i64 k ∧
      wr.ownsRow w2.heap.size 32 5 v (passed (chn a b c) ((words s).take k)).length (tokCells (passed (chn a b c) ((words s).take k))) ∧ Below w2.heap.size w2 wr) (fun _ i _ => (words s).length - (intOf i).toNat)
  case atStart => exact ⟨0, Nat.zero_le _, rfl, World.ownsRow_nil _ _ _ _, Below.refl _ _⟩
  case round =>
    obtain ⟨k, hk, rfl, hown, hbel⟩ := hrel
    obtain ⟨A3, c3, rfl⟩ := own_slice hown
    have hsz := hbel.size
    have hpl := passed_len (chn a b c) ((words s).take k)
    rw [List.length_take] at hpl
    by_cases hlt : k < (words s).length
    · obtain ⟨t, htk⟩ : ∃ t, (words s)[k]? = some t := ⟨_, List.getElem?_eq_getElem hlt⟩
      have hne : tokCells (words s) ≠ [] := by
        intro h
        have := tokCells_len (words s)
        rw [h] at this
        simp at this
        omega
      obtain ⟨g1, o1, rfl, hg1, hc1⟩ := (hL.below hbel (Nat.le_refl _)) hne
      obtain ⟨x0, x1, x2, x3, x4⟩ := tok_five (B := 0) hc1 htk
      have htx := words_text s htk
      clear hc1 hL hne
      have TH := Lib.hid (through_any a b c Ac capc g w1.heap.size t.text (wr.alloc (.cells (tokRow t) 32)) (by omega) (by simp only [World.size_alloc]; omega) ((hCh.below hbel hs2).below (balloc (Below.refl wr.heap.size wr) _) (by omega)) (fun h => (own_below (hst2 h) hbel).alloc _))
      unfold tokRow at TH
      have hb := Blk.new wr 32 (tokRow t)
      unfold tokRow at hb
      go_wp2_with fail
      go_at_call 28
      cases hth : (thru (chn a b c) t.text).2
      · rw [hth] at TH
        have HP := Lib.hid (passed_no htk hth)
        clear hth
        refine TH.out.mono ?_
        rintro e w3 ⟨rfl, hb3⟩
        have hb3' : Below wr.heap.size wr w3 := bchain (by (repeat (first | exact Below.refl _ _ | assumption | refine balloc ?_ _ | refine bdrew ?_ | refine bdrewN ?_ _ | refine bchain ?_ (by assumption)))) hb3
        go_wp2_with fail
        go_roundw
        case rel => exact ⟨k + 1, by omega, by go_num, by rw [HP.out]; exact own_below hown hb3', hbel.trans (hb3'.mono hsz)⟩
        case measure => simp [intOf]; omega
      · rw [hth] at TH
        have HP := Lib.hid (passed_yes htk hth)
        clear hth
        refine TH.out.mono ?_
        rintro e w3 ⟨rfl, hb3⟩
        have hb3' : Below wr.heap.size wr w3 := bchain (by (repeat (first | exact Below.refl _ _ | assumption | refine balloc ?_ _ | refine bdrew ?_ | refine bdrewN ?_ _ | refine bchain ?_ (by assumption)))) hb3
        have hk3 := hb.below hb3 (by simp only [World.size_alloc]; omega)
        obtain ⟨y, hy⟩ : ∃ y, y = (thru (chn a b c) t.text).1 := ⟨_, rfl⟩
        rw [← hy] at HP ⊢
        have hb4 : Below wr.heap.size wr (w3.setCell ⟨wr.heap.size, 0, none⟩ (.string y)) := hb3'.setCell (p := ⟨wr.heap.size, 0, none⟩) (Nat.le_refl _) _
        have own4 := own_below hown hb4
        have q0 := hk3.cell 0
        have q1 := hk3.cell 1
        have q2 := hk3.cell 2
        have q3 := hk3.cell 3
        have q4 := hk3.cell 4
        have z0 := hk3.frozen 0
        simp only [List.getElem?_toArray, List.getElem?_cons_zero, List.getElem?_cons_succ] at q0 q1 q2 q3 q4
        have hs4 := hb4.size
        simp only [World.size_setCell] at hs4
        clear hy TH hb hk3 hst2 hCh
        go_wp2_with (at_builtin; refine wpList_append1 (base := w2.heap.size) rfl _ _ rfl tokElem own4 rfl (by rw [World.size_setCell]; rfl) rfl rfl (by omega) (by unfold maxLen; omega) (by simp only [World.size_setCell]; omega) ?_)
        intro v5 w5 own5 hg5 hb5
        have hb5' := hb5 w2 (hbel.trans (hb4.mono hsz))
        clear hb5 hg5 own4
        go_wp2_with fail
        go_roundw
        case rel => exact ⟨k + 1, by omega, by go_num, by rw [HP.out, List.length_append, tokCells_append]; exact own5, hb5'⟩
        case measure => simp [intOf]; omega
    · obtain rfl : k = (words s).length := by omega
      have e : passed (chn a b c) ((words s).take (words s).length) = textT a b c s := by rw [List.take_length]; rfl
      rw [e] at hown ⊢
      have hs1 := hb2'.size
      clear e
      go_wp2_with fail
      go_ret
      exact toks_mk rfl (own_low hown (by omega)) (bchain hb2' hbel)
end Go.Proofs.YtmoahflgcojfcaaDoor.OfText
