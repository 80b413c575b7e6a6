/-
  Leaves, as a sort sees them.
  Leaves in a row: their cells; footprints.
-/
import Derived.Test.YtfpikilhbkeajaaGreatDoorCEmitA
import Derived.Test.YtfpikilhbkeajaaGreatDoorBase
import Derived.Test.YtfpikilhbkeajaaGreatDoorChecked
import Derived.Deep.AppendLies
import Derived.Deep.RegionLaw
import Derived.BigRegion
import Derived.StillTailTactics
set_option linter.unusedVariables false
set_option linter.unusedSimpArgs false
namespace Go.Proofs.YtfpikilhbkeajaaGreatDoor.HitPlain
abbrev Hit := EmitPlain.Lf
end Go.Proofs.YtfpikilhbkeajaaGreatDoor.HitPlain

namespace Go.Proofs.YtfpikilhbkeajaaGreatDoor.HitBase
open Go.RowKit Go.PlainAid HitPlain Base

def hitC (h : Hit) : List Value := [.int .i64 h.field, .string h.term]

structure Foot (w w' : World) (ok : Nat → Prop) : Prop where
  os : w'.os = w.os
  tape : w'.tape = w.tape
  output : w'.output = w.output
  size : w.heap.size ≤ w'.heap.size
  block : ∀ k, k < w.heap.size → ok k → w'.heap[k]? = w.heap[k]?

section
variable {w w' w'' : World} {ok ok' : Nat → Prop}
theorem Foot.refl (w : World) (ok : Nat → Prop) : Foot w w ok := ⟨rfl, rfl, rfl, Nat.le_refl _, fun _ _ _ => rfl⟩
theorem Foot.trans (h : Foot w w' ok) (k : Foot w' w'' ok) : Foot w w'' ok :=
  ⟨k.os.trans h.os, k.tape.trans h.tape, k.output.trans h.output, Nat.le_trans h.size k.size, fun i hi ho => (k.block i (Nat.lt_of_lt_of_le hi h.size) ho).trans (h.block i hi ho)⟩
theorem Foot.imp (h : Foot w w' ok) (hi : ∀ k, k < w.heap.size → ok' k → ok k) : Foot w w' ok' := ⟨h.os, h.tape, h.output, h.size, fun k hk ho => h.block k hk (hi k hk ho)⟩
theorem Foot.alloc (h : Foot w w' ok) (o : Obj) : Foot w (w'.alloc o) ok :=
  ⟨h.os, h.tape, h.output, Nat.le_trans h.size (by simp), fun k hk ho => (Below.heap_alloc w' o k (Nat.lt_of_lt_of_le hk h.size)).trans (h.block k hk ho)⟩
theorem Foot.drew (h : Foot w w' ok) : Foot w w'.drew ok := ⟨h.os, h.tape, h.output, h.size, h.block⟩
theorem Foot.drewN (h : Foot w w' ok) (n : Nat) : Foot w (w'.drewN n) ok := ⟨h.os, h.tape, h.output, h.size, h.block⟩
theorem Foot.set_ (h : Foot w w' ok) {p : Addr} (hp : p.block < w.heap.size → ¬ ok p.block) (u : Value) : Foot w (w'.setCell p u) ok :=
  ⟨h.os, h.tape, h.output, by simpa using h.size, fun k hk ho => (Below.heap_setCell w' p u k (fun e => by subst e; exact hp hk ho)).trans (h.block k hk ho)⟩
theorem Foot.below (h : Foot w w' ok) (hk : Below w.heap.size w' w'') : Foot w w'' ok :=
  ⟨hk.os.trans h.os, hk.tape.trans h.tape, hk.output.trans h.output, Nat.le_trans h.size hk.size, fun i hi ho => (hk.block i hi).trans (h.block i hi ho)⟩
theorem Foot.ofBelow (h : Below w.heap.size w w') (ok : Nat → Prop) : Foot w w' ok := ⟨h.os, h.tape, h.output, h.size, fun i hi _ => h.block i hi⟩
theorem Foot.grown {row : Option Nat} (h : Foot w w' ok) (hg : w'.grownBy w'' row) (hr : ∀ k, k < w.heap.size → row = some k → ¬ ok k) : Foot w w'' ok :=
  ⟨hg.os.trans h.os, hg.tape.trans h.tape, hg.output.trans h.output, Nat.le_trans h.size hg.size,
    fun i hi ho => (hg.block i (Nat.lt_of_lt_of_le hi h.size) (fun e => hr i hi e.symm ho)).trans (h.block i hi ho)⟩
theorem Foot.toBelow {B : Nat} (h : Foot w w' ok) (hB : ∀ k, k < B → ok k) (hs : B ≤ w.heap.size) : Below B w w' :=
  ⟨h.os, h.tape, h.output, h.size, fun k hk => h.block k (Nat.lt_of_lt_of_le hk hs) (hB k hk)⟩
theorem Foot.cell (h : Foot w w' ok) {p : Addr} (hp : p.block < w.heap.size) (ho : ok p.block) : w'.cell? p = w.cell? p := World.cell?_of_block (h.block _ hp ho)
theorem Foot.own {base size n : Nat} {e : TypeId} {v : Value} {xs : List Value} (h : Foot w w' ok) (hown : w.ownsRow base e size v n xs) (hv : ∀ g, v.ownBlock = some g → ok g) : w'.ownsRow base e size v n xs := by
  cases hb : v.ownBlock with
  | none =>
    refine ⟨hown.1, ?_⟩
    rcases hown.2 with hn | ⟨g, cap, cur, rfl, _⟩
    · exact .inl hn
    · simp [Value.ownBlock] at hb
  | some g =>
    have hlt := (hown.lt g hb).2
    refine ⟨hown.1, ?_⟩
    rcases hown.2 with hn | ⟨g', cap, cur, rfl, hb', hgg, rest⟩
    · exact .inl hn
    · have e : g' = g := by simpa [Value.ownBlock] using hb
      subst e
      exact .inr ⟨g', cap, cur, rfl, hb', (h.block g' hlt (hv g' hb)).trans hgg, rest⟩
theorem Foot.blk {g : Nat} {t : TypeId} {cs : Array Value} (h : Foot w w' ok) (hb : Blk w g t cs) (ho : ok g) : Blk w' g t cs := (h.block g hb.lt ho).trans hb
end

end Go.Proofs.YtfpikilhbkeajaaGreatDoor.HitBase
