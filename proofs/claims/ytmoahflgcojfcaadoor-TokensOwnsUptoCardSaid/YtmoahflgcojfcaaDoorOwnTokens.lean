/-
  The walk of ownTokens: lists that are written over and grown, each by itself.
-/
import Derived.Test.YtmoahflgcojfcaaDoorTokRows
import Derived.Test.YtmoahflgcojfcaaDoorRel
import Derived.Deep.DeepCutAuto
import Derived.IntWalk
namespace Go.Proofs.YtmoahflgcojfcaaDoor.OwnTokens
set_option maxRecDepth 100000
open Go.RowKit Go.PlainAid WordPlain WordsWalk Base App OutRow TokRows

/-- Not a block of these lists. -/
def Off (vs : List Value) (k : Nat) : Prop := ∀ (i : Nat) (v : Value), vs[i]? = some v → v.ownBlock ≠ some k

/-- What a list reads as. -/
def RdV (W : World) (v : Value) (xs : List Value) : Prop := ∀ g n c, v = .slice (some ⟨g, 0, none⟩) n c → g < W.heap.size ∧ ∀ j u, xs[j]? = some u → W.cell? ⟨g, j, none⟩ = some u
theorem RdV.block {W W' : World} {v : Value} {xs : List Value} (h : RdV W v xs) (hs : W.heap.size ≤ W'.heap.size) (hb : ∀ k, v.ownBlock = some k → W'.heap[k]? = W.heap[k]?) : RdV W' v xs := fun g n c e => by
  obtain ⟨h1, h2⟩ := h g n c e
  subst e
  exact ⟨Nat.lt_of_lt_of_le h1 hs, fun j u hu => (World.cell?_of_block (hb g rfl)).trans (h2 j u hu)⟩
theorem RdV.of_own {W : World} {B size n : Nat} {e : TypeId} {v : Value} {xs : List Value} (h : W.ownsRow B e size v n xs) : RdV W v xs := fun g m c hv => by
  subst hv
  have hl := (h.lt g rfl).2
  exact ⟨hl, fun j u hu => by have := h.cells (g := g) rfl j u hu; rw [Addr.add_lit, Nat.zero_add] at this; exact this⟩

/-- The outer list: its cells are these lists. -/
def Outer (w : World) (A : Option Addr) (vs : List Value) : Prop := ∃ g o, A = some ⟨g, o, none⟩ ∧ g < w.heap.size ∧ Off vs g ∧ ∀ j v, vs[j]? = some v → w.cell? ⟨g, o + j, none⟩ = some v

/-- The lists as they have been grown beside the first ones. -/
structure Gr (w W : World) (B g2 cap2 : Nat) (vs : List Value) (n h : Nat → Nat) (vs' : List Value) : Prop where
  row : W.ownsRow w.heap.size 28 1 (.slice (some ⟨g2, 0, none⟩) vs.length cap2) vs.length vs'
  lst : Lst W B vs' (fun a => stamp a (h a))
  pre : ∀ a v, vs[a]? = some v → RdV W v (tokCells (stamp a (n a)))
  two : ∀ (a b : Nat) (u v : Value) (k : Nat), vs[a]? = some u → vs'[b]? = some v → u.ownBlock = some k → v.ownBlock = some k → a = b
  new : ∀ (b : Nat) (v : Value) (k : Nat), vs'[b]? = some v → v.ownBlock = some k → Off vs k → w.heap.size ≤ k
  low : ∀ (b : Nat) (v : Value) (k : Nat), vs[b]? = some v → v.ownBlock = some k → k < w.heap.size
  foot : Foot w W (Off vs)
  le : ∀ a, n a ≤ h a

section
variable {w W : World} {B g2 cap2 : Nat} {vs vs' : List Value} {n h : Nat → Nat}
theorem Gr.len (hG : Gr w W B g2 cap2 vs n h vs') : vs'.length = vs.length := by have := hG.row.1; omega
theorem Gr.off (hG : Gr w W B g2 cap2 vs n h vs') {b : Nat} {v : Value} (hv : vs'[b]? = some v) : v.ownBlock ≠ some g2 := by
  intro e
  have h1 := hG.lst.own b v hv
  rcases h1.2 with ⟨rfl, _⟩ | ⟨g, c, cur, rfl, _, hg, _⟩
  · simp [Value.ownBlock] at e
  · obtain rfl : g = g2 := by simpa [Value.ownBlock] using e
    rcases hG.row.2 with ⟨h', _⟩ | ⟨g', c', cur', h', _, hg', _⟩
    · cases h'
    · simp only [Value.slice.injEq, Option.some.injEq, Addr.mk.injEq, and_true, true_and] at h'
      obtain ⟨rfl, rfl⟩ := h'
      rw [hg] at hg'
      simp only [Option.some.injEq, Obj.cells.injEq] at hg'
      exact absurd hg'.2.1 (by decide)
theorem Gr.cell (hG : Gr w W B g2 cap2 vs n h vs') {i : Nat} {v : Value} (hv : vs'[i]? = some v) : W.cell? ⟨g2, i, none⟩ = some v := by
  have hi := (List.getElem?_eq_some_iff.1 hv).1
  rw [hG.len] at hi
  rw [hG.row.cellAt i (by omega)]; exact hv
theorem Gr.frozen (hG : Gr w W B g2 cap2 vs n h vs') (i : Nat) : W.frozen? ⟨g2, i, none⟩ = false := hG.row.frozenAt i
theorem Gr.below {W' : World} (hG : Gr w W B g2 cap2 vs n h vs') (hb : Below W.heap.size W W') : Gr w W' B g2 cap2 vs n h vs' :=
  ⟨own_below hG.row hb, hG.lst.below hb, fun a v hv => (hG.pre a v hv).block hb.size (fun k hk => hb.block k (Nat.lt_of_lt_of_le (hG.low a v k hv hk) hG.foot.size)), hG.two, hG.new, hG.low, hG.foot.trans (Foot.ofBelow hb _), hG.le⟩

theorem Gr.after {w1 : World} {i g : Nat} {v : Value} (hG : Gr w W B g2 cap2 vs n h vs') (hv : vs'[i]? = some v) (hat : (v.ownBlock = some g ∧ W.grownBy w1 (some g)) ∨ (W.heap.size ≤ g ∧ W.grownBy w1 none)) :
    w1.cell? ⟨g2, i, none⟩ = some v ∧ w1.frozen? ⟨g2, i, none⟩ = false := by
  have hg2 := (hG.row.lt g2 rfl).2
  have hoff := hG.off hv
  have hb : w1.heap[g2]? = W.heap[g2]? := by
    rcases hat with ⟨h1, h2⟩ | ⟨_, h2⟩
    · exact h2.block g2 hg2 (fun e => hoff (by rw [h1]; cases e; rfl))
    · exact h2.block g2 hg2 (fun e => by cases e)
  exact ⟨(World.cell?_of_block hb).trans (hG.cell hv), (World.frozen?_of_block hb).trans (hG.frozen i)⟩

/-- One token more in list i. -/
theorem Gr.grow {w1 : World} {i g c : Nat} {v : Value} (hG : Gr w W B g2 cap2 vs n h vs') (hv : vs'[i]? = some v) (hBW : B ≤ w.heap.size)
    (hown : w1.ownsRow B 32 5 (.slice (some ⟨g, 0, none⟩) (h i + 1) c) (h i + 1) (tokCells (stamp i (h i)) ++ tokC (stT i (h i))))
    (hat : (v.ownBlock = some g ∧ W.grownBy w1 (some g)) ∨ (W.heap.size ≤ g ∧ W.grownBy w1 none)) :
    Gr w (w1.setCell ⟨g2, i, none⟩ (.slice (some ⟨g, 0, none⟩) (h i + 1) c)) B g2 cap2 vs n (fun a => if a = i then h i + 1 else h a) (vs'.set i (.slice (some ⟨g, 0, none⟩) (h i + 1) c)) := by
  have hi : i < vs.length := by have := (List.getElem?_eq_some_iff.1 hv).1; rw [hG.len] at this; exact this
  have hg2 := hG.row.lt g2 rfl
  have hoff := hG.off hv
  have hne : g ≠ g2 := by
    rcases hat with ⟨h1, _⟩ | ⟨h1, _⟩
    · intro e; subst e; exact hoff h1
    · omega
  have hsz : W.heap.size ≤ w1.heap.size := by rcases hat with ⟨_, h2⟩ | ⟨_, h2⟩ <;> exact h2.size
  have hblk : ∀ k, k < W.heap.size → v.ownBlock ≠ some k → w1.heap[k]? = W.heap[k]? := fun k hk hvk => by
    rcases hat with ⟨h1, h2⟩ | ⟨_, h2⟩
    · exact h2.block k hk (fun e => hvk (by rw [h1]; cases e; rfl))
    · exact h2.block k hk (fun e => by cases e)
  have hos : w1.os = W.os ∧ w1.tape = W.tape ∧ w1.output = W.output := by rcases hat with ⟨_, h2⟩ | ⟨_, h2⟩ <;> exact ⟨h2.os, h2.tape, h2.output⟩
  have hf1 : Foot W w1 (fun k => v.ownBlock ≠ some k) := ⟨hos.1, hos.2.1, hos.2.2, hsz, hblk⟩
  have hf2 : Foot W (w1.setCell ⟨g2, i, none⟩ (.slice (some ⟨g, 0, none⟩) (h i + 1) c)) (fun k => v.ownBlock ≠ some k ∧ k ≠ g2) :=
    (hf1.imp fun k _ hk => hk.1).set_ (p := ⟨g2, i, none⟩) (fun _ hk => hk.2 rfl) _
  have hown' : (w1.setCell ⟨g2, i, none⟩ (.slice (some ⟨g, 0, none⟩) (h i + 1) c)).ownsRow B 32 5 (.slice (some ⟨g, 0, none⟩) (h i + 1) c) (stamp i (h i + 1)).length (tokCells (stamp i (h i + 1))) := by
    rw [stamp_len, stamp_succ, tokCells_append]
    have := hown.kept (w' := w1.setCell ⟨g2, i, none⟩ (.slice (some ⟨g, 0, none⟩) (h i + 1) c)) (row := some g2) ⟨rfl, rfl, rfl, by simp, fun k _ hk => Below.heap_setCell w1 _ _ k (fun e => hk (by rw [e]))⟩ (.inr (by simp [Value.ownBlock]; exact hne))
    simpa [tokCells] using this
  have hnew : (Value.slice (some ⟨g, 0, none⟩) (h i + 1) c).ownBlock = v.ownBlock ∨ ∀ k, (Value.slice (some ⟨g, 0, none⟩) (h i + 1) c).ownBlock = some k → W.heap.size ≤ k := by
    rcases hat with ⟨h1, _⟩ | ⟨h1, _⟩
    · exact .inl (by rw [h1]; rfl)
    · exact .inr fun k hk => by simp [Value.ownBlock] at hk; omega
  have hst := hG.lst.step hv hf2 (fun j u k hji hu hk => ⟨fun e => hji (hG.lst.apart j i u v k hu hv hk e), fun e => hG.off hu (by rw [hk, e])⟩) hown' hnew
  have key : ∀ (b : Nat) (u : Value), (vs'.set i (.slice (some ⟨g, 0, none⟩) (h i + 1) c))[b]? = some u → (b = i ∧ u = .slice (some ⟨g, 0, none⟩) (h i + 1) c) ∨ (b ≠ i ∧ vs'[b]? = some u) := fun b u hu => by
    rw [List.getElem?_set] at hu
    by_cases e : i = b
    · subst e
      rw [if_pos rfl, if_pos (by rw [hG.len]; exact hi)] at hu
      exact .inl ⟨rfl, (Option.some.inj hu).symm⟩
    · rw [if_neg e] at hu; exact .inr ⟨fun e' => e e'.symm, hu⟩
  refine ⟨?_, ?_, fun a u hu => ?_, fun a b u x k hu hx hku hkx => ?_, fun b x k hx hkx hok => ?_, hG.low, ?_, fun a => ?_⟩
  · have h1 := (hf1.own hG.row (fun k hk => by
        obtain rfl : g2 = k := by simpa [Value.ownBlock] using hk
        exact hoff)).stored i (.slice (some ⟨g, 0, none⟩) (h i + 1) c)
    exact h1.1
  · refine hst.congr fun a ha => ?_
    by_cases e : a = i
    · subst e; simp
    · simp [e]
  · by_cases e : a = i
    · subst e
      by_cases hsame : u.ownBlock = v.ownBlock
      · rcases hat with ⟨h1, _⟩ | ⟨_, h2⟩
        · intro g' m c' hu'
          subst hu'
          have : g' = g := by rw [h1] at hsame; simpa [Value.ownBlock] using hsame
          subst this
          obtain ⟨r1, r2⟩ := RdV.of_own hown' g' _ _ rfl
          refine ⟨r1, fun j x hx => r2 j x ?_⟩
          have e1 : tokCells (stamp a (h a + 1)) = tokCells (stamp a (n a)) ++ tokCells ((stamp a (h a + 1)).drop (n a)) := by
            rw [← tokCells_append, ← stamp_take (i := a) (m := n a) (n := h a + 1) (by have := hG.le a; omega), List.take_append_drop]
          rw [e1, List.getElem?_append_left (List.getElem?_eq_some_iff.1 hx).1]
          exact hx
        · refine (hG.pre a u hu).block (by simpa using hsz) fun k hk => ?_
          have hkl := hG.low a u k hu hk
          have hkW := Nat.lt_of_lt_of_le hkl hG.foot.size
          rw [Below.heap_setCell w1 ⟨g2, a, none⟩ _ k (by show k ≠ g2; omega)]
          exact h2.block k hkW (fun e => by cases e)
      · refine (hG.pre a u hu).block (by simpa using hsz) fun k hk => ?_
        have hkl := hG.low a u k hu hk
        have hkW := Nat.lt_of_lt_of_le hkl hG.foot.size
        rw [Below.heap_setCell w1 ⟨g2, a, none⟩ _ k (by show k ≠ g2; omega)]
        exact hblk k hkW (fun e => hsame (by rw [hk, e]))
    · refine (hG.pre a u hu).block (by simpa using hsz) fun k hk => ?_
      have hkl := hG.low a u k hu hk
      have hkW := Nat.lt_of_lt_of_le hkl hG.foot.size
      rw [Below.heap_setCell w1 ⟨g2, i, none⟩ _ k (by show k ≠ g2; omega)]
      exact hblk k hkW (fun e' => e (hG.two a i u v k hu hv hk e'))
  · rcases key b x hx with ⟨rfl, rfl⟩ | ⟨_, hx⟩
    · rcases hat with ⟨h1, _⟩ | ⟨h1, _⟩
      · exact hG.two a b u v k hu hv hku (by rw [h1]; exact hkx)
      · have := hG.low a u k hu hku
        have hs := hG.foot.size
        simp [Value.ownBlock] at hkx
        omega
    · exact hG.two a b u x k hu hx hku hkx
  · rcases key b x hx with ⟨rfl, rfl⟩ | ⟨_, hx⟩
    · rcases hat with ⟨h1, _⟩ | ⟨h1, _⟩
      · exact hG.new b v k hv (by rw [h1]; exact hkx) hok
      · have hs := hG.foot.size
        simp [Value.ownBlock] at hkx
        omega
    · exact hG.new b x k hx hkx hok
  · refine ⟨hf2.os.trans hG.foot.os, hf2.tape.trans hG.foot.tape, hf2.output.trans hG.foot.output, Nat.le_trans hG.foot.size hf2.size, fun k hk ho => (hf2.block k (Nat.lt_of_lt_of_le hk hG.foot.size) ⟨fun e => ?_, by omega⟩).trans (hG.foot.block k hk ho)⟩
    have := hG.new i v k hv e ho
    omega
  · have := hG.le a
    by_cases e : a = i
    · subst e; simp; omega
    · simp [e]; exact this
end
end Go.Proofs.YtmoahflgcojfcaaDoor.OwnTokens
