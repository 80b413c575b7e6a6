/-
  Hits in memory: a hit's cells, a keeper's block, footprints; the walks of Better and of a keeper's less.
-/
import Derived.Test.YtmddnilephneiaaChecked
import Derived.Test.YtmddnilephneiaaBase
import Derived.Test.YtmddnilephneiaaHitPlain
import Derived.Deep.AppendLies
import Derived.Deep.RegionLaw
import Derived.BigRegion
import Derived.StillTailTactics
namespace Go.Proofs.Ytmddnilephneiaa.HitBase
open Go.RowKit Go.PlainAid HitPlain Base

theorem ret_bool {a b : Bool} (h : a = b) : Ending.returned (.bool a) = .returned (.bool b) := by rw [h]

/-- A hit's two cells. -/
def hitC (h : Hit) : List Value := [.int .i64 h.1, .int .u64 h.2]
def hc : List Hit → List Value
  | [] => []
  | h :: r => hitC h ++ hc r
theorem hc_append (a b : List Hit) : hc (a ++ b) = hc a ++ hc b := by
  induction a with
  | nil => rfl
  | cons t r ih => simp [hc, ih]
theorem hc_len (a : List Hit) : (hc a).length = a.length * 2 := by
  induction a with
  | nil => rfl
  | cons t r ih => simp [hc, hitC, ih]; omega
theorem hc_at0 : ∀ (a : List Hit) (k : Nat) (h : Hit), a[k]? = some h → (hc a)[k * 2]? = some (.int .i64 h.1)
  | [], k, h, e => by simp at e
  | x :: r, 0, h, e => by simp at e; subst e; rfl
  | x :: r, k + 1, h, e => by
    have := hc_at0 r k h (by simpa using e)
    rw [show (k + 1) * 2 = k * 2 + 1 + 1 by omega]
    exact this
theorem hc_at1 : ∀ (a : List Hit) (k : Nat) (h : Hit), a[k]? = some h → (hc a)[k * 2 + 1]? = some (.int .u64 h.2)
  | [], k, h, e => by simp at e
  | x :: r, 0, h, e => by simp at e; subst e; rfl
  | x :: r, k + 1, h, e => by
    have := hc_at1 r k h (by simpa using e)
    rw [show (k + 1) * 2 + 1 = k * 2 + 1 + 1 + 1 by omega]
    exact this
theorem hc_set : ∀ (a : List Hit) (k : Nat) (h : Hit), hc (a.set k h) = ((hc a).set (k * 2) (.int .i64 h.1)).set (k * 2 + 1) (.int .u64 h.2)
  | [], k, h => by simp [hc]
  | x :: r, 0, h => rfl
  | x :: r, k + 1, h => by
    rw [List.set_cons_succ]
    show hitC x ++ hc (r.set k h) = _
    rw [hc_set r k h, show (k + 1) * 2 = k * 2 + 1 + 1 by omega]
    rfl

/-- w' is w but for the blocks that are not 'ok' and new blocks. -/
structure Foot (w w' : World) (ok : Nat → Prop) : Prop where
  os : w'.os = w.os
  tape : w'.tape = w.tape
  output : w'.output = w.output
  size : w.heap.size ≤ w'.heap.size
  block : ∀ k, k < w.heap.size → ok k → w'.heap[k]? = w.heap[k]?

section
variable {w w' w'' : World} {ok ok' : Nat → Prop}
theorem Foot.refl (w : World) (ok : Nat → Prop) : Foot w w ok := ⟨rfl, rfl, rfl, Nat.le_refl _, fun _ _ _ => rfl⟩
theorem Foot.trans (h : Foot w w' ok) (k : Foot w' w'' ok) : Foot w w'' ok :=
  ⟨k.os.trans h.os, k.tape.trans h.tape, k.output.trans h.output, Nat.le_trans h.size k.size, fun i hi ho => (k.block i (Nat.lt_of_lt_of_le hi h.size) ho).trans (h.block i hi ho)⟩
theorem Foot.imp (h : Foot w w' ok) (hi : ∀ k, k < w.heap.size → ok' k → ok k) : Foot w w' ok' := ⟨h.os, h.tape, h.output, h.size, fun k hk ho => h.block k hk (hi k hk ho)⟩
theorem Foot.alloc (h : Foot w w' ok) (o : Obj) : Foot w (w'.alloc o) ok :=
  ⟨h.os, h.tape, h.output, Nat.le_trans h.size (by simp), fun k hk ho => (Below.heap_alloc w' o k (Nat.lt_of_lt_of_le hk h.size)).trans (h.block k hk ho)⟩
theorem Foot.drew (h : Foot w w' ok) : Foot w w'.drew ok := ⟨h.os, h.tape, h.output, h.size, h.block⟩
theorem Foot.drewN (h : Foot w w' ok) (n : Nat) : Foot w (w'.drewN n) ok := ⟨h.os, h.tape, h.output, h.size, h.block⟩
theorem Foot.set_ (h : Foot w w' ok) {p : Addr} (hp : p.block < w.heap.size → ¬ ok p.block) (u : Value) : Foot w (w'.setCell p u) ok :=
  ⟨h.os, h.tape, h.output, by simpa using h.size, fun k hk ho => (Below.heap_setCell w' p u k (fun e => by subst e; exact hp hk ho)).trans (h.block k hk ho)⟩
theorem Foot.below (h : Foot w w' ok) (hk : Below w.heap.size w' w'') : Foot w w'' ok :=
  ⟨hk.os.trans h.os, hk.tape.trans h.tape, hk.output.trans h.output, Nat.le_trans h.size hk.size, fun i hi ho => (hk.block i hi).trans (h.block i hi ho)⟩
theorem Foot.ofBelow (h : Below w.heap.size w w') (ok : Nat → Prop) : Foot w w' ok := ⟨h.os, h.tape, h.output, h.size, fun i hi _ => h.block i hi⟩
theorem Foot.grown {row : Option Nat} (h : Foot w w' ok) (hg : w'.grownBy w'' row) (hr : ∀ k, k < w.heap.size → row = some k → ¬ ok k) : Foot w w'' ok :=
  ⟨hg.os.trans h.os, hg.tape.trans h.tape, hg.output.trans h.output, Nat.le_trans h.size hg.size,
    fun i hi ho => (hg.block i (Nat.lt_of_lt_of_le hi h.size) (fun e => hr i hi e.symm ho)).trans (h.block i hi ho)⟩
theorem Foot.toBelow {B : Nat} (h : Foot w w' ok) (hB : ∀ k, k < B → ok k) (hs : B ≤ w.heap.size) : Below B w w' :=
  ⟨h.os, h.tape, h.output, h.size, fun k hk => h.block k (Nat.lt_of_lt_of_le hk hs) (hB k hk)⟩
theorem Foot.cell (h : Foot w w' ok) {p : Addr} (hp : p.block < w.heap.size) (ho : ok p.block) : w'.cell? p = w.cell? p := World.cell?_of_block (h.block _ hp ho)
theorem Foot.own {base size n : Nat} {e : TypeId} {v : Value} {xs : List Value} (h : Foot w w' ok) (hown : w.ownsRow base e size v n xs) (hv : ∀ g, v.ownBlock = some g → ok g) : w'.ownsRow base e size v n xs := by
  cases hb : v.ownBlock with
  | none =>
    refine ⟨hown.1, ?_⟩
    rcases hown.2 with hn | ⟨g, cap, cur, rfl, _⟩
    · exact .inl hn
    · simp [Value.ownBlock] at hb
  | some g =>
    have hlt := (hown.lt g hb).2
    refine ⟨hown.1, ?_⟩
    rcases hown.2 with hn | ⟨g', cap, cur, rfl, hb', hgg, rest⟩
    · exact .inl hn
    · have e : g' = g := by simpa [Value.ownBlock] using hb
      subst e
      exact .inr ⟨g', cap, cur, rfl, hb', (h.block g' hlt (hv g' hb)).trans hgg, rest⟩
theorem Foot.blk {g : Nat} {t : TypeId} {cs : Array Value} (h : Foot w w' ok) (hb : Blk w g t cs) (ho : ok g) : Blk w' g t cs := (h.block g hb.lt ho).trans hb
end

/-- The keeper's own order, as a value. -/
def lessV : Value := .func (.func 28) #[] #[]

set_option maxHeartbeats 1000000 in
theorem better_any (i s j t : Int) (w : World) :
    Calls Try.prog 25 #[.agg #[.int .i64 i, .int .u64 s], .agg #[.int .i64 j, .int .u64 t]] w fun e w' => e = .returned (.bool (btr (i, s) (j, t))) ∧ Below w.heap.size w w' := by
  by_cases h : s = t
  · have HB : Hid (btr (i, s) (j, t) = decide (i < j)) := Lib.hid (by simp [btr, h])
    subst h
    go_enter Try.func25, Try.ntmps25
    go_wp2
    go_ret
    exact ⟨ret_bool HB.out.symm, by (repeat (first | exact Below.refl _ _ | assumption | refine balloc ?_ _ | refine bdrew ?_ | refine bdrewN ?_ _ | refine bchain ?_ (by assumption)))⟩
  · have HB : Hid (btr (i, s) (j, t) = decide (t < s)) := Lib.hid (by simp [btr, h])
    go_enter Try.func25, Try.ntmps25
    have h1 : (s == t) = false := by simpa using h
    go_wp2
    go_ret
    exact ⟨ret_bool HB.out.symm, by (repeat (first | exact Below.refl _ _ | assumption | refine balloc ?_ _ | refine bdrew ?_ | refine bdrewN ?_ _ | refine bchain ?_ (by assumption)))⟩
set_option maxHeartbeats 1000000 in
theorem less_any (i s j t : Int) (w : World) :
    Calls Try.prog 28 #[.agg #[.int .i64 i, .int .u64 s], .agg #[.int .i64 j, .int .u64 t]] w fun e w' => e = .returned (.bool (btr (j, t) (i, s))) ∧ Below w.heap.size w w' := by
  go_enter Try.func28, Try.ntmps28
  go_wp2_with (go_at_call 25; refine (better_any _ _ _ _ _).mono ?_; rintro e w1 ⟨rfl, hb1⟩)
  go_ret
  exact ⟨rfl, bchain (by (repeat (first | exact Below.refl _ _ | assumption | refine balloc ?_ _ | refine bdrew ?_ | refine bdrewN ?_ _ | refine bchain ?_ (by assumption)))) hb1⟩
end Go.Proofs.Ytmddnilephneiaa.HitBase
