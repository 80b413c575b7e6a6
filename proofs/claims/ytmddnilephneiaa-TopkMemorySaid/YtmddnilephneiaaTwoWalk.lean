/-
  Two keepers side by side: an offer to one leaves the other.
-/
import Derived.Test.YtmddnilephneiaaTopkWalk
namespace Go.Proofs.Ytmddnilephneiaa.TwoWalk
open Go.RowKit Go.PlainAid HitPlain HeapPlain KeepPlain Base HitBase PushWalk OfferWalk KeepWalk TopkWalk

theorem keeps_foot {w w' : World} {B b : Nat} {k : Int} {v : Value} {S : List Hit} {ok : Nat → Prop} (h : Keeps w B b k v S) (hf : Foot w w' ok) (hb : ok b) (hv : ∀ g, v.ownBlock = some g → ok g) : Keeps w' B b k v S := by
  obtain ⟨L, hL, h2, h3, h4⟩ := h
  exact ⟨L, ⟨hf.blk hL.blk hb, hf.own hL.own hv, hL.ne, hL.base, hL.hp⟩, h2, h3, h4⟩
theorem keeps_lt {w : World} {B b : Nat} {k : Int} {v : Value} {S : List Hit} (h : Keeps w B b k v S) : b < w.heap.size ∧ B ≤ b ∧ ∀ g, v.ownBlock = some g → B ≤ g ∧ g < w.heap.size := by
  obtain ⟨L, hL, h2, h3, h4⟩ := h
  exact ⟨hL.blk.lt, hL.base, fun g e => hL.own.lt g e⟩

/-- The blocks of two keepers share none. -/
structure Apart (a b : Nat) (v u : Value) : Prop where
  ab : a ≠ b
  vb : v.ownBlock ≠ some b
  ua : u.ownBlock ≠ some a
  vu : ∀ g, v.ownBlock = some g → u.ownBlock ≠ some g
theorem Apart.symm {a b : Nat} {v u : Value} (h : Apart a b v u) : Apart b a u v := ⟨Ne.symm h.ab, h.ua, h.vb, fun g e1 e2 => h.vu g e2 e1⟩

def Two (w : World) (B a b : Nat) (k m : Int) (S T : List Hit) : Prop := ∃ v u, Keeps w B a k v S ∧ Keeps w B b m u T ∧ Apart a b v u

section
variable {w w' : World} {B a b : Nat} {k m : Int} {S S' T : List Hit} {v u : Value}
theorem Two.symm (h : Two w B a b k m S T) : Two w B b a m k T S := by
  obtain ⟨v, u, h1, h2, h3⟩ := h
  exact ⟨u, v, h2, h1, h3.symm⟩
theorem Two.fst (h : Two w B a b k m S T) : KB w B a k S := by
  obtain ⟨v, u, h1, h2, h3⟩ := h
  exact ⟨v, h1⟩
theorem Two.snd (h : Two w B a b k m S T) : KB w B b m T := h.symm.fst
theorem Two.below (h : Two w B a b k m S T) (hb : Below w.heap.size w w') : Two w' B a b k m S T := by
  obtain ⟨v, u, h1, h2, h3⟩ := h
  exact ⟨v, u, keeps_foot h1 (Foot.ofBelow hb (fun _ => True)) trivial (fun _ _ => trivial), keeps_foot h2 (Foot.ofBelow hb (fun _ => True)) trivial (fun _ _ => trivial), h3⟩
theorem Two.mono {B' : Nat} (h : Two w B a b k m S T) (hB : B' ≤ B) : Two w B' a b k m S T := by
  obtain ⟨v, u, ⟨L, hL, p1, p2, p3⟩, ⟨M, hM, r1, r2, r3⟩, h3⟩ := h
  exact ⟨v, u, ⟨L, ⟨hL.blk, own_base hL.own hB, hL.ne, Nat.le_trans hB hL.base, hL.hp⟩, p1, p2, p3⟩, ⟨M, ⟨hM.blk, own_base hM.own hB, hM.ne, Nat.le_trans hB hM.base, hM.hp⟩, r1, r2, r3⟩, h3⟩
/-- What an offer to the first leaves. -/
theorem apart_offered (h2 : Keeps w B b m u T) (h3 : Apart a b v u) (ho : Offered w B a k v S' w') : ∃ v', Keeps w' B a k v' S' ∧ Keeps w' B b m u T ∧ Apart a b v' u := by
  obtain ⟨v', q1, q2, q3⟩ := ho
  obtain ⟨l1, l2, l3⟩ := keeps_lt h2
  refine ⟨v', q1, keeps_foot h2 q2 ⟨Ne.symm h3.ab, h3.vb⟩ (fun g e => ⟨fun e2 => h3.ua (e2 ▸ e), fun e2 => h3.vu g e2 e⟩), h3.ab, ?_, h3.ua, ?_⟩
  · intro e
    rcases q3 with q | q
    · exact h3.vb (q ▸ e)
    · have := q _ e; omega
  · intro g e e2
    rcases q3 with q | q
    · exact h3.vu g (q ▸ e) e2
    · have := q _ e; have := (l3 _ e2).2; omega
/-- Two fresh keepers. -/
theorem Two.fresh (h1 : Keeps w B a k (.slice none 0 0) []) (hb : Below w.heap.size w w') (h2 : Keeps w' w.heap.size b m (.slice none 0 0) []) (hB : B ≤ w.heap.size) (ha : a < w.heap.size) : Two w' B a b k m [] [] := by
  obtain ⟨L, hL, p1, p2, p3⟩ := h2
  have := hL.base
  exact ⟨_, _, keeps_foot h1 (Foot.ofBelow hb (fun _ => True)) trivial (fun _ _ => trivial), ⟨L, ⟨hL.blk, own_base hL.own hB, hL.ne, by omega, hL.hp⟩, p1, p2, p3⟩, by omega, by simp [Value.ownBlock], by simp [Value.ownBlock], by simp [Value.ownBlock]⟩
end

theorem offer_two (B a b : Nat) (k m : Int) (S T : List Hit) (i s : Int) (w : World) (hK : Two w B a b k m S T) (hB : B ≤ w.heap.size) (hn : (S.length + 1) * 16 ≤ 140737488355328) :
    Calls Try.prog 18 #[.pointer (some ⟨a, 0, none⟩), .agg #[.int .i64 i, .int .u64 s]] w fun e w' =>
      e = .returned (.bool (kept k.toNat S (i, s))) ∧ Two w' B a b k m ((insS (i, s) S).take k.toNat) T ∧ Below B w w' := by
  obtain ⟨v, u, h1, h2, h3⟩ := hK
  refine (offer_any B a k v S i s w h1 hB hn).mono fun e w' ⟨he, ho⟩ => ?_
  obtain ⟨v', q1, q2, q3⟩ := apart_offered h2 h3 ho
  exact ⟨he, ⟨v', u, q1, q2, q3⟩, (Offered.kb h1 hB ho).2⟩
end Go.Proofs.Ytmddnilephneiaa.TwoWalk
