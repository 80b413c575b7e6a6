/-
  For TokensOwns: the lists that are gathered, four for each value.
-/
import Derived.Test.YtmoahflgcojfcaaDoorOwnsBase
import Derived.Test.YtmoahflgcojfcaaDoorTokRows
namespace Go.Proofs.YtmoahflgcojfcaaDoor.OwnsLI
set_option maxRecDepth 100000
open Go.RowKit Go.PlainAid WordPlain WordsWalk Base App OutRow OfText TokRows OwnsBase

/-- The lists that have been gathered: four for each value. -/
structure LI (w7 wr : World) (lB j : Nat) (lv : Value) (LS : List Value) (ff : Nat → List Tok) : Prop where
  row : wr.ownsRow lB 28 1 lv LS.length LS
  len : LS.length = 4 * j
  lst : Lst wr w7.heap.size LS ff
  bnd : ∀ a, (ff a).length ≤ 1099511627776
  foot : Foot w7 wr (fun k => k ≠ lB)
  at_ : ∀ g, lv.ownBlock = some g → g = lB ∨ w7.heap.size ≤ g
theorem LI.start {w7 : World} {lB : Nat} (h : w7.ownsRow lB 28 1 (.slice (some ⟨lB, 0, none⟩) 0 0) 0 []) : LI w7 w7 lB 0 (.slice (some ⟨lB, 0, none⟩) 0 0) [] (fun _ => []) :=
  ⟨h, rfl, Lst.nil _ _ _, fun _ => by simp, Foot.refl _ _, fun g e => .inl (by simpa [Value.ownBlock] using e.symm)⟩

/-- A row of lists is in no block of tokens. -/
theorem row_off {W : World} {B B' n m : Nat} {lv v : Value} {LS xs : List Value} {k : Nat} (h1 : W.ownsRow B 28 1 lv n LS) (h2 : W.ownsRow B' 32 5 v m xs) (hk : v.ownBlock = some k) : lv.ownBlock ≠ some k := by
  intro e
  rcases h1.2 with ⟨rfl, _⟩ | ⟨g, c, cur, rfl, _, hg, _⟩
  · simp [Value.ownBlock] at e
  · rcases h2.2 with ⟨rfl, _⟩ | ⟨g', c', cur', rfl, _, hg', _⟩
    · simp [Value.ownBlock] at hk
    · simp only [Value.ownBlock, Option.some.injEq] at e hk
      subst e
      subst hk
      rw [hg] at hg'
      simp only [Option.some.injEq, Obj.cells.injEq] at hg'
      exact absurd hg'.2.1 (by decide)

/-- One list more, in another block than those of l. -/
theorem lst_more {W : World} {B B' s : Nat} {LS l : List Value} {ff : Nat → List Tok} {v : Value} {K : List Tok} (h : Lst W B (LS ++ l) ff) (hs : ∀ (i : Nat) (u : Value) (k : Nat), LS[i]? = some u → u.ownBlock = some k → k < s) (hB : B ≤ B') (hsB : s ≤ B')
    (ho : W.ownsRow B' 32 5 v K.length (tokCells K)) (ha : Away l v) : Lst W B (LS ++ l ++ [v]) (fun i => if i = (LS ++ l).length then K else ff i) :=
  h.snoc (own_low ho hB) fun i u k hu hk e => by
    rcases Nat.lt_or_ge i LS.length with hlt | hge
    · rw [List.getElem?_append_left hlt] at hu
      have := hs i u k hu hk
      have := (ho.lt k e).1
      omega
    · rw [List.getElem?_append_right hge] at hu
      exact ha u (List.mem_of_getElem? hu) k hk e

theorem LI.step {w7 wr wx w9 : World} {lB j g cap n0 : Nat} {lv v1 v2 v3 v4 : Value} {LS : List Value} {ff : Nat → List Tok} {K1 K2 K3 K4 : List Tok} (h : LI w7 wr lB j lv LS ff) (hb : Below wr.heap.size wr wx) (hn0 : wr.heap.size ≤ n0)
    (o1 : wx.ownsRow n0 32 5 v1 K1.length (tokCells K1)) (o2 : wx.ownsRow n0 32 5 v2 K2.length (tokCells K2)) (o3 : wx.ownsRow n0 32 5 v3 K3.length (tokCells K3)) (o4 : wx.ownsRow n0 32 5 v4 K4.length (tokCells K4))
    (a2 : Away [v1] v2) (a3 : Away [v1, v2] v3) (a4 : Away [v1, v2, v3] v4) (b1 : K1.length ≤ 1099511627776) (b2 : K2.length ≤ 1099511627776) (b3 : K3.length ≤ 1099511627776) (b4 : K4.length ≤ 1099511627776)
    (own9 : w9.ownsRow lB 28 1 (.slice (some ⟨g, 0, none⟩) (LS.length + 4) cap) (LS.length + 4) (LS ++ [v1, v2, v3, v4])) (hg9 : wx.grownBy w9 lv.ownBlock) (hat : lv.ownBlock = some g ∨ g = wx.heap.size) :
    ∃ ff', LI w7 w9 lB (j + 1) (.slice (some ⟨g, 0, none⟩) (LS ++ [v1, v2, v3, v4]).length cap) (LS ++ [v1, v2, v3, v4]) ff' := by
  have hsz := h.foot.size
  have hsx := hb.size
  have L0 := h.lst.below hb
  have hlow : ∀ (i : Nat) (u : Value) (k : Nat), LS[i]? = some u → u.ownBlock = some k → k < wr.heap.size := fun i u k hu hk => (h.lst.lt hu hk).2
  have L1 := lst_more (l := []) (K := K1) (by rw [List.append_nil]; exact L0) hlow (Nat.le_trans hsz hn0) hn0 o1 (away_nil _)
  rw [List.append_nil] at L1
  have L2 := lst_more (l := [v1]) L1 hlow (Nat.le_trans hsz hn0) hn0 o2 a2
  rw [List.append_assoc] at L2
  have L3 := lst_more (l := [v1, v2]) L2 hlow (Nat.le_trans hsz hn0) hn0 o3 a3
  rw [List.append_assoc] at L3
  have L4 := lst_more (l := [v1, v2, v3]) L3 hlow (Nat.le_trans hsz hn0) hn0 o4 a4
  rw [List.append_assoc] at L4
  have hrow := own_below h.row hb
  have hfx : Foot wx w9 (fun k => lv.ownBlock ≠ some k) :=
    (Foot.refl wx (fun k => lv.ownBlock ≠ some k)).grown hg9 (fun k _ e hk => hk e)
  have hlen : (LS ++ [v1, v2, v3, v4]).length = LS.length + 4 := by simp
  refine ⟨_, by rw [hlen]; exact own9, by rw [hlen, h.len]; omega, L4.foot hfx fun i v k hv hk => row_off hrow (L4.own i v hv) hk, ?_, (h.foot.below (hb.mono hsz)).grown hg9 (fun k hk e hok => ?_), fun g' e => ?_⟩
  · intro a
    simp only [List.length_append]
    split
    · exact b4
    · split
      · exact b3
      · split
        · exact b2
        · split
          · exact b1
          · exact h.bnd a
  · rcases h.at_ k e with h1 | h1
    · exact hok h1
    · omega
  · have : g = g' := by simpa [Value.ownBlock] using e
    subst this
    rcases hat with h1 | h1
    · exact h.at_ _ h1
    · exact .inr (by omega)
end Go.Proofs.YtmoahflgcojfcaaDoor.OwnsLI
