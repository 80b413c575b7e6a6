/-
  A row of hits and a row of lists of hits that both grow.
-/
import Derived.Test.YtmddnilephneiaaRows2
namespace Go.Proofs.Ytmddnilephneiaa.PairRows
open Go.RowKit Go.PlainAid HitPlain HeapPlain KeepPlain Base HitBase PushWalk OfferWalk KeepWalk TopkWalk Rows2

theorem rowElem : Elem Try.prog 39 26 (.slice none 0 0) 1 24 := .mk_ (by kernel_rfl) (by kernel_rfl) rfl (by decide)

structure Pair (w : World) (B : Nat) (va vs : Value) (Ls : List Hit) (ks : List Lst) : Prop where
  all_ : w.ownsRow B 29 2 va Ls.length (hc Ls)
  short : w.ownsRow B 26 1 vs ks.length (ks.map lv)
  each : ∀ x ∈ ks, SlcP w (fun g => va.ownBlock ≠ some g ∧ vs.ownBlock ≠ some g) x.1 (hc x.2.2)
  apart : ∀ g, va.ownBlock = some g → vs.ownBlock ≠ some g

section
variable {w w' : World} {B : Nat} {va vs va' vs' : Value} {Ls M : List Hit} {ks : List Lst} {y : Lst}

theorem Pair.nil (w : World) (B : Nat) : Pair w B (.slice none 0 0) (.slice none 0 0) [] [] :=
  ⟨World.ownsRow_nil _ _ _ _, World.ownsRow_nil _ _ _ _, (fun _ h => by cases h), (fun _ h => by simp [Value.ownBlock] at h)⟩

theorem Pair.below (h : Pair w B va vs Ls ks) (hb : Below w.heap.size w w') : Pair w' B va vs Ls ks :=
  ⟨own_below h.all_ hb, own_below h.short hb, fun x hx => (h.each x hx).foot (Foot.ofBelow hb _), h.apart⟩

theorem Pair.grow1 (h : Pair w B va vs Ls ks) (hown : w'.ownsRow B 29 2 va' (Ls.length + M.length) (hc Ls ++ hc M)) (hg : w.grownBy w' va.ownBlock)
    (ha : va'.ownBlock = va.ownBlock ∨ va'.ownBlock = some w.heap.size) : Pair w' B va' vs (Ls ++ M) ks := by
  have hlt : ∀ g, vs.ownBlock = some g → g < w.heap.size := fun g e => (h.short.lt g e).2
  refine ⟨by rw [List.length_append, hc_append]; exact hown, ?_, fun y hy => ?_, fun g e e2 => ?_⟩
  · exact (grown_foot hg (ok := fun g => va.ownBlock ≠ some g) (fun g e h' => h' e)).own h.short (fun g e e2 => h.apart g e2 e)
  · refine (((h.each y hy).imp (Q := fun g => va'.ownBlock ≠ some g ∧ vs.ownBlock ≠ some g ∧ va.ownBlock ≠ some g) (fun g hgl hp => ⟨fun e => ?_, hp.2, hp.1⟩)).foot (grown_foot hg (fun g e h' => h'.2.2 e))).imp (fun g _ hp => ⟨hp.1, hp.2.1⟩)
    rcases ha with ha | ha
    · exact hp.1 (ha ▸ e)
    · rw [ha] at e; injection e with e; omega
  · rcases ha with ha | ha
    · exact h.apart g (ha ▸ e) e2
    · rw [ha] at e; injection e with e; have := hlt g e2; omega

theorem Pair.grow2 (h : Pair w B va vs Ls ks) (hy : SlcP w (fun g => va.ownBlock ≠ some g ∧ vs.ownBlock ≠ some g) y.1 (hc y.2.2)) (hown : w'.ownsRow B 26 1 vs' (ks.length + 1) (ks.map lv ++ [lv y]))
    (hg : w.grownBy w' vs.ownBlock) (ha : vs'.ownBlock = vs.ownBlock ∨ vs'.ownBlock = some w.heap.size) : Pair w' B va vs' Ls (ks ++ [y]) := by
  have hlt : ∀ g, va.ownBlock = some g → g < w.heap.size := fun g e => (h.all_.lt g e).2
  refine ⟨?_, by rw [List.length_append, List.map_append]; exact hown, fun z hz => ?_, fun g e e2 => ?_⟩
  · exact (grown_foot hg (ok := fun g => vs.ownBlock ≠ some g) (fun g e h' => h' e)).own h.all_ (fun g e => h.apart g e)
  · have hz' : SlcP w (fun g => va.ownBlock ≠ some g ∧ vs.ownBlock ≠ some g) z.1 (hc z.2.2) := by
      rcases List.mem_append.1 hz with hz | hz
      · exact h.each z hz
      · rw [List.mem_singleton.1 hz]; exact hy
    refine ((hz'.imp (Q := fun g => va.ownBlock ≠ some g ∧ vs'.ownBlock ≠ some g ∧ vs.ownBlock ≠ some g) (fun g hgl hp => ⟨hp.1, fun e => ?_, hp.2⟩)).foot (grown_foot hg (fun g e h' => h'.2.2 e))).imp (fun g _ hp => ⟨hp.1, hp.2.1⟩)
    rcases ha with ha | ha
    · exact hp.2 (ha ▸ e)
    · rw [ha] at e; injection e with e; omega
  · rcases ha with ha | ha
    · exact h.apart g e (ha ▸ e2)
    · rw [ha] at e2; injection e2 with e2; have := hlt g e; omega

/-- A list just made lies in neither row. -/
theorem Pair.fresh (h : Pair w B va vs Ls ks) {L : List Hit} {A : Option Addr} {c : Nat} (hown : w'.ownsRow w.heap.size 29 2 (.slice A L.length c) L.length (hc L)) :
    SlcP w' (fun g => va.ownBlock ≠ some g ∧ vs.ownBlock ≠ some g) A (hc L) :=
  slcP_own hown (fun g hg _ => ⟨fun e => by have := (h.all_.lt g e).2; omega, fun e => by have := (h.short.lt g e).2; omega⟩)

theorem Pair.lsts (h : Pair w B va vs Ls ks) : ∃ A c, vs = .slice A ks.length c ∧ Lsts w w.heap.size A ks := by
  obtain ⟨A, c, rfl⟩ := own_slice h.short
  exact ⟨A, c, rfl, slc_own h.short, fun x hx => (h.each x hx).slc⟩
theorem Pair.hits (h : Pair w B va vs Ls ks) : ∃ A c, va = .slice A Ls.length c ∧ Slc w w.heap.size A (hc Ls) := by
  obtain ⟨A, c, rfl⟩ := own_slice h.all_
  exact ⟨A, c, rfl, slc_own h.all_⟩
end
end Go.Proofs.Ytmddnilephneiaa.PairRows
