/-
  A text in quotes, in plain Lean.
  Bytes that a call owns, and what is put behind them.
  The walks of strconv.AppendInt and AppendUint over numbers below ten.
  The walks of bind's number, weight and quoted.
-/
import Derived.Test.YtkcfgcdlnojaeaaGreatDoorBase
import Derived.Test.YtkcfgcdlnojaeaaGreatDoorChecked
import Derived.Deep.AppendSrc
import Derived.Maps.AppendAt
import Derived.Deep.RegionLaw
set_option linter.unusedVariables false
set_option linter.unusedSimpArgs false
namespace Go.Proofs.YtkcfgcdlnojaeaaGreatDoor.Quoted
open Go.RowKit Go.PlainAid Base

def hexd (n : Nat) : UInt8 := if n < 10 then UInt8.ofNat (48 + n) else UInt8.ofNat (87 + n)
def odd (n : Int) : Bool := decide (n < 32) || decide (126 < n) || n == 34 || n == 92
def qb (n : Int) : List UInt8 := if odd n then [92, hexd (n / 16).toNat, hexd (n % 16).toNat] else [UInt8.ofNat n.toNat]
def qfrom (s : ByteArray) (k : Nat) : List UInt8 := (List.range k).flatMap fun i => qb (bt s i)
def quoteL (s : ByteArray) : List UInt8 := [34] ++ qfrom s s.size ++ [34]
theorem qfrom_succ (s : ByteArray) (k : Nat) : qfrom s (k + 1) = qfrom s k ++ qb (bt s k) := by simp [qfrom, List.range_succ]
theorem qb_len (n : Int) : (qb n).length ≤ 3 := by unfold qb; split <;> simp
theorem qfrom_len (s : ByteArray) (k : Nat) : (qfrom s k).length ≤ 3 * k := by
  induction k with
  | zero => simp [qfrom]
  | succ k ih => rw [qfrom_succ, List.length_append]; have := qb_len (bt s k); omega
theorem odd_no {n : Int} (h1 : 32 ≤ n) (h2 : n ≤ 126) (h3 : n ≠ 34) (h4 : n ≠ 92) : odd n = false := by
  unfold odd
  rw [decide_eq_false (by omega), decide_eq_false (by omega), beq_eq_false_iff_ne.2 h3, beq_eq_false_iff_ne.2 h4]
  rfl
theorem odd_iff {n : Int} (h : odd n = false) : 32 ≤ n ∧ n ≤ 126 ∧ n ≠ 34 ∧ n ≠ 92 := by
  unfold odd at h
  simp at h
  omega
theorem byte_cell {n : Int} (h0 : 0 ≤ n) (h1 : n ≤ 255) : Base.byteCells [UInt8.ofNat n.toNat] = [.int .u8 n] := by
  simp only [Base.byteCells, List.map_cons, List.map_nil, List.cons.injEq, Value.int.injEq, true_and, and_true]
  rw [UInt8.toNat_ofNat']
  omega

def Plain (s : ByteArray) : Prop := ∀ k, k < s.size → odd (bt s k) = false
end Go.Proofs.YtkcfgcdlnojaeaaGreatDoor.Quoted

namespace Go.Proofs.YtkcfgcdlnojaeaaGreatDoor.Bytes
set_option maxRecDepth 100000
open Go.RowKit Go.PlainAid Base

def Byt (w : World) (base : Nat) (v : Value) (l : List UInt8) : Prop := w.ownsRow base 5 1 v l.length (Base.byteCells l)
def Heads (n : Nat) (w w' : World) : Prop := ∀ g i, g < w.heap.size → i < n → w'.cell? ⟨g, i, none⟩ = w.cell? ⟨g, i, none⟩
theorem Heads.of_below {n : Nat} {w w' : World} (h : Below w.heap.size w w') : Heads n w w' := fun _ _ hg _ => h.cell hg
theorem Heads.trans {n n' : Nat} {w w1 w2 : World} (h : Heads n w w1) (h2 : Heads n' w1 w2) (hn : n ≤ n') (hs : w.heap.size ≤ w1.heap.size) : Heads n w w2 := fun g i hg hi => (h2 g i (by omega) (by omega)).trans (h g i hg hi)
def AddB (base : Nat) (w : World) (v : Value) (l m : List UInt8) (v' : Value) (w' : World) : Prop :=
  Byt w' base v' (l ++ m) ∧ w.grownBy w' v.ownBlock ∧ (v'.ownBlock = v.ownBlock ∨ ∃ g, v'.ownBlock = some g ∧ w.heap.size ≤ g) ∧ Heads l.length w w'

theorem AddB.refl {base : Nat} {w : World} {v : Value} {l : List UInt8} (h : Byt w base v l) : AddB base w v l [] v w :=
  ⟨by rw [List.append_nil]; exact h, ⟨rfl, rfl, rfl, Nat.le_refl _, fun _ _ _ => rfl⟩, .inl rfl, fun _ _ _ _ => rfl⟩
theorem AddB.trans {base : Nat} {w w1 w2 : World} {v v1 v2 : Value} {l m k : List UInt8} (h : AddB base w v l m v1 w1) (h2 : AddB base w1 v1 (l ++ m) k v2 w2) : AddB base w v l (m ++ k) v2 w2 := by
  obtain ⟨a1, a2, a3, a4⟩ := h
  obtain ⟨b1, b2, b3, b4⟩ := h2
  refine ⟨by rw [← List.append_assoc]; exact b1, ⟨b2.os.trans a2.os, b2.tape.trans a2.tape, b2.output.trans a2.output, Nat.le_trans a2.size b2.size, fun j hj hne => ?_⟩, ?_, a4.trans b4 (by simp) a2.size⟩
  · refine (b2.block j (Nat.lt_of_lt_of_le hj a2.size) ?_).trans (a2.block j hj hne)
    rcases a3 with e | ⟨g, e, hg⟩
    · rw [e]; exact hne
    · rw [e]; intro h; cases h; omega
  · rcases b3 with e | ⟨g, e, hg⟩
    · rcases a3 with e2 | ⟨g, e2, hg⟩
      · exact .inl (e.trans e2)
      · exact .inr ⟨g, e.trans e2, hg⟩
    · exact .inr ⟨g, e, Nat.le_trans a2.size hg⟩
theorem Byt.below {base : Nat} {w w' : World} {v : Value} {l : List UInt8} (h : Byt w base v l) (hb : Below w.heap.size w w') : Byt w' base v l := own_below h hb
theorem AddB.pre {base : Nat} {w w1 w2 : World} {v v2 : Value} {l m : List UInt8} (hb : Below w.heap.size w w1) (h : AddB base w1 v l m v2 w2) : AddB base w v l m v2 w2 := by
  obtain ⟨b1, b2, b3, b4⟩ := h
  refine ⟨b1, ⟨b2.os.trans hb.os, b2.tape.trans hb.tape, b2.output.trans hb.output, Nat.le_trans hb.size b2.size, fun j hj hne => (b2.block j (Nat.lt_of_lt_of_le hj hb.size) hne).trans (hb.block j hj)⟩, ?_, (Heads.of_below hb).trans b4 (Nat.le_refl _) hb.size⟩
  rcases b3 with e | ⟨g, e, hg⟩
  · exact .inl e
  · exact .inr ⟨g, e, Nat.le_trans hb.size hg⟩
theorem AddB.post {base : Nat} {w w1 w2 : World} {v v2 : Value} {l m : List UInt8} (h : AddB base w v l m v2 w1) (hb : Below w1.heap.size w1 w2) : AddB base w v l m v2 w2 := by
  obtain ⟨b1, b2, b3, b4⟩ := h
  exact ⟨b1.below hb, ⟨hb.os.trans b2.os, hb.tape.trans b2.tape, hb.output.trans b2.output, Nat.le_trans b2.size hb.size, fun j hj hne => (hb.block j (Nat.lt_of_lt_of_le hj b2.size)).trans (b2.block j hj hne)⟩, b3, b4.trans (Heads.of_below hb) (Nat.le_refl _) b2.size⟩

theorem setCells_blk {g : Nat} {t : TypeId} : ∀ (vs : List Value) (o : Nat) (w : World) (cs : Array Value), Blk w g t cs → o + vs.length ≤ cs.size →
    ∃ cs', Blk (w.setCells g o vs) g t cs' ∧ cs'.size = cs.size ∧ ∀ j, cs'[j]? = if o ≤ j ∧ j < o + vs.length then vs[j - o]? else cs[j]?
  | [], o, w, cs, h, _ => ⟨cs, h, rfl, fun j => by rw [if_neg (by simp)]⟩
  | v :: r, o, w, cs, h, hl => by
    simp only [List.length_cons] at hl
    obtain ⟨cs', h1, h2, h3⟩ := setCells_blk r (o + 1) (w.setCell ⟨g, o, none⟩ v) (cs.setIfInBounds o v) (h.set_ o v) (by simp; omega)
    refine ⟨cs', h1, by simpa using h2, fun j => ?_⟩
    rw [h3 j]
    by_cases hj : o + 1 ≤ j ∧ j < o + 1 + r.length
    · rw [if_pos hj, if_pos (by simp; omega), show j - o = (j - (o + 1)) + 1 by omega]
      simp
    · rw [if_neg hj, Array.getElem?_setIfInBounds]
      by_cases e : o = j
      · subst e
        rw [if_pos rfl, if_pos (by omega), if_pos (by simp only [List.length_cons]; omega)]
        simp
      · rw [if_neg e, if_neg (by simp only [List.length_cons]; omega)]

theorem setCells_rest (g : Nat) : ∀ (vs : List Value) (o : Nat) (w : World), (w.setCells g o vs).os = w.os ∧ (w.setCells g o vs).tape = w.tape ∧ (w.setCells g o vs).output = w.output ∧ (w.setCells g o vs).heap.size = w.heap.size ∧ ∀ k, k ≠ g → (w.setCells g o vs).heap[k]? = w.heap[k]?
  | [], _, _ => ⟨rfl, rfl, rfl, rfl, fun _ _ => rfl⟩
  | v :: r, o, w => by
    obtain ⟨h1, h2, h3, h4, h5⟩ := setCells_rest g r (o + 1) (w.setCell ⟨g, o, none⟩ v)
    exact ⟨h1, h2, h3, h4.trans (by simp), fun k hk => (h5 k hk).trans (Below.heap_setCell w ⟨g, o, none⟩ v k hk)⟩

theorem u8und : Tryz.prog.underlying 82 = some (.slice 5) := Tryz.underlying82
theorem u8info : ∃ i, Tryz.prog.info? 5 = some i ∧ i.zero = some (.int .u8 0) ∧ i.size = 1 ∧ i.bytes = 1 := info_parts (by kernel_rfl)
theorem bc_len (l : List UInt8) : (Base.byteCells l).length = l.length := by simp [Base.byteCells]
theorem bc_app (l m : List UInt8) : Base.byteCells (l ++ m) = Base.byteCells l ++ Base.byteCells m := by simp [Base.byteCells]

theorem run_addB {w : World} {base : Nat} {v x : Value} {l m : List UInt8} {tx ty : TypeId} (h : Byt w base v l) (hs : Src Tryz.prog 1 tx x m.length (Base.byteCells m) w) (hm : 0 < m.length) (hb : base ≤ w.heap.size) (hl : l.length + m.length ≤ 140737488355328) :
    ∃ v' w', (Builtin.append_ #[82, tx] ty #[v, x]).run Tryz.prog w = .ok v' w' ∧ AddB base w v l m v' w' := by
  obtain ⟨i, hi, hz, h1, h2⟩ := u8info
  have hmx : maxLen = 9223372036854775807 := rfl
  have grown : ∀ (old : Nat) (olds : List Value), olds = Base.byteCells l → old < l.length + m.length → ∀ row : Option Nat,
      Byt (w.drew.alloc (.cells ((olds ++ Base.byteCells m).toArray ++ Builtin.zeroCells (Value.int .u8 0).cells (grownCap w (l.length + m.length) old 5 - (l.length + m.length))) 5)) base
        (.slice (some ⟨w.heap.size, 0, none⟩) (l.length + m.length) (grownCap w (l.length + m.length) old 5)) (l ++ m) ∧
      w.grownBy (w.drew.alloc (.cells ((olds ++ Base.byteCells m).toArray ++ Builtin.zeroCells (Value.int .u8 0).cells (grownCap w (l.length + m.length) old 5 - (l.length + m.length))) 5)) row := by
    intro old olds hol ho row
    subst hol
    have hge := grownCap_ge w (l.length + m.length) old 5
    have hcm : grownCap w (l.length + m.length) old 5 ≤ maxLen := grownCap_le_maxLen w (l.length + m.length) old 5 (by omega)
    unfold Byt
    rw [List.length_append]
    refine ⟨⟨by rw [bc_len, List.length_append, Nat.mul_one], .inr ⟨w.heap.size, _, _, rfl, hb, heap_alloc_new w.drew _, hge, hcm, ?_, ?_⟩⟩, ⟨rfl, rfl, rfl, by simp, fun k hk _ => Below.heap_alloc w.drew _ k hk⟩⟩
    · simp only [Array.size_append, List.size_toArray, size_zeroCells, List.length_append, bc_len]
      rw [show (Value.int .u8 0).cells.size = 1 from rfl]
      omega
    · rw [bc_app, Array.toList_append, List.toList_toArray, List.take_append_of_le_length (by rw [List.length_append, bc_len, bc_len]; omega), List.take_of_length_le (by rw [List.length_append, bc_len, bc_len]; omega)]
  have hs' : Src Tryz.prog i.size tx x m.length (Base.byteCells m) w := by rw [h1]; exact hs
  rcases h.2 with ⟨rfl, h0⟩ | ⟨g, cap, cur, rfl, hbg, hg, hnc, hcm, hcs, htake⟩
  · have hl0 : l = [] := List.eq_nil_of_length_eq_zero h0
    subst hl0
    have hr := run_append_grow_src (P := Tryz.prog) w 82 tx ty 5 i (.int .u8 0) u8und hi hz none 0 0 [] (by rw [h1]; exact run_firstCells_none w.drew 1 0 0 0) x m.length (Base.byteCells m) hs' (by omega) (by simp at hl ⊢; omega)
      (by
        have := growslice_fits (bytes := i.bytes) (need := 0 + m.length) (old := 0) (by omega) (by rw [h2]; simp at hl; omega)
        exact this)
    have hgr := grown 0 [] rfl (by simp; omega) (Value.ownBlock (.slice none 0 0))
    simp only [List.length_nil, Nat.zero_add, List.nil_append] at hgr hr ⊢
    exact ⟨_, _, hr, by simpa using hgr.1, hgr.2, .inr ⟨w.heap.size, rfl, Nat.le_refl _⟩, Heads.of_below ((Below.refl w.heap.size w).drew.alloc (Nat.le_refl _) _)⟩
  · by_cases hroom : l.length + m.length ≤ cap
    · have hfit : l.length * i.size + (Base.byteCells m).length ≤ cur.size := by rw [h1, hcs, bc_len]; omega
      have hblk : Blk w g 5 cur := hg
      have hr := run_append_room_src (P := Tryz.prog) w 82 tx ty 5 i u8und hi g 0 l.length cap x m.length (Base.byteCells m) hs' hroom
        (fun j hj => by rw [hblk.cell, Array.getElem?_eq_getElem (by omega)]; rfl) (fun j hj => hblk.frozen _)
      obtain ⟨cs', q1, q2, q3⟩ := setCells_blk (Base.byteCells m) (0 + l.length * i.size) w cur hblk (by omega)
      obtain ⟨p1, p2, p3, p4, p5⟩ := setCells_rest g (Base.byteCells m) (0 + l.length * i.size) w
      refine ⟨_, _, hr, ?_, ⟨p1, p2, p3, Nat.le_of_eq p4.symm, fun k hk hne => p5 k (fun e => hne (by simp [Value.ownBlock, e]))⟩, .inl rfl, fun g' i _ hi => World.cell?_setCells_out g _ _ _ _ (fun _ _ => .inl (by show i < 0 + l.length * _; rw [h1]; omega))⟩
      · unfold Byt
        rw [List.length_append]
        refine ⟨by rw [bc_len, List.length_append, Nat.mul_one], .inr ⟨g, cap, cs', rfl, hbg, q1, hroom, hcm, by rw [q2]; exact hcs, ?_⟩⟩
        apply List.ext_getElem?
        intro j
        rw [bc_app, Nat.mul_one]
        have hq := q3 j
        rw [h1, Nat.mul_one, Nat.zero_add, bc_len] at hq
        by_cases hj : j < l.length + m.length
        · rw [List.getElem?_take_of_lt hj, Array.getElem?_toList, hq]
          by_cases hj2 : j < l.length
          · rw [if_neg (by omega), List.getElem?_append_left (by rw [bc_len]; exact hj2), ← htake, Nat.mul_one, List.getElem?_take_of_lt hj2, Array.getElem?_toList]
          · rw [if_pos ⟨by omega, hj⟩, List.getElem?_append_right (by rw [bc_len]; omega), bc_len]
        · rw [List.getElem?_eq_none (by simp; omega), List.getElem?_eq_none (by rw [List.length_append, bc_len, bc_len]; omega)]
    · have holds : ∀ j u, (Base.byteCells l)[j]? = some u → w.cell? ((⟨g, 0, none⟩ : Addr).add j) = some u := h.cells (g := g) rfl
      have hr := run_append_grow_src (P := Tryz.prog) w 82 tx ty 5 i (.int .u8 0) u8und hi hz (some ⟨g, 0, none⟩) l.length cap (Base.byteCells l) (by rw [h1]; exact run_firstCells_some w.drew 1 l.length ⟨g, 0, none⟩ l.length cap (Base.byteCells l) (by rw [bc_len, Nat.mul_one]) (by simpa using holds)) x m.length (Base.byteCells m) hs' (by omega) (by omega)
        (by
          have := growslice_fits (bytes := i.bytes) (need := l.length + m.length) (old := cap) (by omega) (by rw [h2]; omega)
          exact this)
      have hgr := grown cap _ rfl (by omega) (Value.ownBlock (.slice (some ⟨g, 0, none⟩) l.length cap))
      exact ⟨_, _, hr, hgr.1, hgr.2, .inr ⟨w.heap.size, rfl, Nat.le_refl _⟩, Heads.of_below ((Below.refl w.heap.size w).drew.alloc (Nat.le_refl _) _)⟩

section
variable {w : World} {base : Nat} {v xv : Value} {l m : List UInt8} {tx : TypeId} {o : Oper} {a : Act}
theorem wp_addB {K : Act → World → Prop} {Q : Exit → Act → World → Prop} (s x : Operand) (ho : o.op = .call { callee := .builtin .append, args := #[s, x], argTypes := #[82, tx] })
    (hs : a.eval s = v) (hown : Byt w base v l) (hx : a.eval x = xv) (hsrc : Src Tryz.prog 1 tx xv m.length (Base.byteCells m) w) (hm : 0 < m.length) (hb : base ≤ w.heap.size) (hl : l.length + m.length ≤ 140737488355328)
    (h : ∀ v' w', AddB base w v l m v' w' → K (a.put o.dst v') w') : o.wp Tryz.prog a w K Q := by
  obtain ⟨v', w', hr, h2⟩ := run_addB (ty := o.type) hown hsrc hm hb hl
  unfold Oper.wp execOp
  simp only [ho, resolve, invoke, builtin, Sem.run_bind, Sem.run_pure, Result.andThen_ok, List.map_toArray, List.map_cons, List.map_nil, hs, hx, hr]
  exact h v' w' h2
theorem wpList_addB {ops : Array Oper} {rest : List Oper} {Q : Exit → Act → World → Prop} (hgd : o.guard = none) (s x : Operand) (ho : o.op = .call { callee := .builtin .append, args := #[s, x], argTypes := #[82, tx] })
    (hs : a.eval s = v) (hown : Byt w base v l) (hx : a.eval x = xv) (hsrc : Src Tryz.prog 1 tx xv m.length (Base.byteCells m) w) (hm : 0 < m.length) (hb : base ≤ w.heap.size) (hl : l.length + m.length ≤ 140737488355328)
    (h : ∀ v' w', AddB base w v l m v' w' → wpList Tryz.prog ops Q rest (a.put o.dst v') w') : wpList Tryz.prog ops Q (o :: rest) a w :=
  wpList_plain hgd fun _ hK => wp_addB s x ho hs hown hx hsrc hm hb hl fun v' w' h2 => hK _ _ (h v' w' h2)
theorem src_str {w : World} (m : List UInt8) : Src Tryz.prog 1 9 (.string ⟨m.toArray⟩) m.length (Base.byteCells m) w := by
  have := Src.ofString (P := Tryz.prog) (w := w) Tryz.underlying9 ⟨m.toArray⟩
  have e : Go.byteCells ⟨m.toArray⟩ = Base.byteCells m := by simp [Go.byteCells, Base.byteCells]
  rw [e] at this
  exact this
theorem src_new (w : World) (m : List UInt8) (cs : Array Value) (h : cs.toList = Base.byteCells m) : Src Tryz.prog 1 82 (.slice (some ⟨w.heap.size, 0, none⟩) m.length m.length) m.length (Base.byteCells m) (w.alloc (.cells cs 5)) :=
  Src.ofSlice (P := Tryz.prog) _ u8und ⟨w.heap.size, 0, none⟩ m.length m.length (Base.byteCells m) (by rw [bc_len, Nat.mul_one])
    (fun j u hu => by
      rw [Addr.add_lit, World.cell?_alloc_mark, Nat.zero_add, ← Array.getElem?_toList, h]
      exact hu)
    (fun u hu => by
      unfold Base.byteCells at hu
      obtain ⟨_, _, rfl⟩ := List.mem_map.1 hu
      rfl)
theorem src_blk {w : World} {g : Nat} {t : TypeId} {cs : Array Value} (hb : Blk w g t cs) (m : List UInt8) (h : cs.toList = Base.byteCells m) : Src Tryz.prog 1 82 (.slice (some ⟨g, 0, none⟩) m.length m.length) m.length (Base.byteCells m) w :=
  Src.ofSlice (P := Tryz.prog) _ u8und ⟨g, 0, none⟩ m.length m.length (Base.byteCells m) (by rw [bc_len, Nat.mul_one])
    (fun j u hu => by
      rw [Addr.add_lit, Nat.zero_add, hb.cell, ← Array.getElem?_toList, h]
      exact hu)
    (fun u hu => by
      unfold Base.byteCells at hu
      obtain ⟨_, _, rfl⟩ := List.mem_map.1 hu
      rfl)
theorem step_addB {ops : Array Oper} {K : Act → World → Prop} {Q : Exit → Act → World → Prop} {E : Prop} (hgd : o.guard = none) (s x : Operand) (ho : o.op = .call { callee := .builtin .append, args := #[s, x], argTypes := #[82, tx] })
    (hs : a.eval s = v) (hown : Byt w base v l) (hx : a.eval x = xv) (hsrc : Src Tryz.prog 1 tx xv m.length (Base.byteCells m) w) (hm : 0 < m.length) (hb : base ≤ w.heap.size) (hl : l.length + m.length ≤ 140737488355328)
    (h : ∀ v' w', AddB base w v l m v' w' → K (a.put o.dst v') w') : if Region.wanted o (yielded ops a.tmps) = true then Oper.wp Tryz.prog o a w K Q else E := by
  have hw : Region.wanted o (yielded ops a.tmps) = true := by simp [Region.wanted, hgd]
  rw [if_pos hw]
  exact wp_addB s x ho hs hown hx hsrc hm hb hl h
end
end Go.Proofs.YtkcfgcdlnojaeaaGreatDoor.Bytes

namespace Go.Proofs.YtkcfgcdlnojaeaaGreatDoor.Digits
set_option maxRecDepth 100000
open Go.RowKit Go.PlainAid Base Bytes

def digs (n : Nat) : List UInt8 := if n < 10 then [UInt8.ofNat (48 + n)] else digs (n / 10) ++ [UInt8.ofNat (48 + n % 10)]
theorem digs_small {n : Nat} (h : n < 10) : digs n = [UInt8.ofNat (48 + n)] := by rw [digs, if_pos h]

def Adds (base : Nat) (w : World) (v : Value) (l m : List UInt8) (e : Ending) (w' : World) : Prop := ∃ v', e = .returned v' ∧ AddB base w v l m v' w'

def digitText : ByteArray := ⟨#[48, 49, 50, 51, 52, 53, 54, 55, 56, 57, 97, 98, 99, 100, 101, 102, 103, 104, 105, 106, 107, 108, 109, 110, 111, 112, 113, 114, 115, 116, 117, 118, 119, 120, 121, 122]⟩
theorem cut_digit {n : Nat} (h : n < 10) : digitText.extract n (n + 1) = ⟨(digs n).toArray⟩ := by
  rw [digs_small h]
  rcases (by omega : n = 0 ∨ n = 1 ∨ n = 2 ∨ n = 3 ∨ n = 4 ∨ n = 5 ∨ n = 6 ∨ n = 7 ∨ n = 8 ∨ n = 9) with rfl | rfl | rfl | rfl | rfl | rfl | rfl | rfl | rfl | rfl <;> kernel_rfl

set_option maxHeartbeats 1000000 in
theorem small_any (n : Nat) (w : World) (h : n < 10) : Calls Tryz.prog 163 #[.int .i64 n] w fun e w' => e = .returned (.string ⟨(digs n).toArray⟩) ∧ w' = w := by
  have hd : decide ((n : Int) < 10) = true := decide_eq_true (by omega)
  have HC := Lib.hid (cut_digit h)
  have h1 : (n : Int) < 10 := by omega
  have hs : digitText.size = 36 := by kernel_rfl
  go_enter Tryz.func163, Tryz.ntmps163
  go_wp2_with fail
  go_ret
  exact ⟨by rw [← HC.out]; rfl, rfl⟩

section
variable {base : Nat} {w : World} {v : Value} {l : List UInt8}
set_option maxHeartbeats 1000000 in
theorem uint_any (n : Nat) (h : n < 10) (hown : Byt w base v l) (hb : base ≤ w.heap.size) (hl : l.length ≤ 70368744177664) :
    Calls Tryz.prog 146 #[v, .int .u64 n, .int .i64 10] w (Adds base w v l (digs n)) := by
  have SA := Lib.hid (small_any n w h)
  have hd : decide ((n : Int) < 100) = true := decide_eq_true (by omega)
  have hlen : (digs n).length = 1 := by rw [digs_small h]; rfl
  obtain ⟨m, hm⟩ : ∃ m, m = digs n := ⟨_, rfl⟩
  rw [← hm] at SA hlen ⊢
  have h2 : (n : Int) < 100 := by omega
  clear hm
  go_enter Tryz.func146, Tryz.ntmps146
  go_wp2_with (first | (go_at_call 163; refine SA.out.mono ?_; rintro e w2 ⟨rfl, rfl⟩) | (at_builtin; refine wpList_addB rfl _ _ rfl rfl hown rfl (src_str m) (by omega) hb (by omega) ?_; intro v' w' hadd))
  go_ret
  exact ⟨_, rfl, hadd⟩

set_option maxHeartbeats 1000000 in
theorem sUint_any (n : Nat) (h : n < 10) (hown : Byt w base v l) (hb : base ≤ w.heap.size) (hl : l.length ≤ 70368744177664) :
    Calls Tryz.prog 120 #[v, .int .u64 n, .int .i64 10] w (Adds base w v l (digs n)) := by
  have SA := Lib.hid (uint_any n h hown hb hl)
  go_enter Tryz.func120, Tryz.ntmps120
  go_wp2_with (go_at_call 146; refine SA.out.mono ?_; rintro e w2 ⟨v', rfl, hadd⟩)
  go_ret
  exact ⟨_, rfl, hadd⟩

set_option maxHeartbeats 1000000 in
theorem int_any (n : Nat) (h : n < 10) (hown : Byt w base v l) (hb : base ≤ w.heap.size) (hl : l.length ≤ 70368744177664) :
    Calls Tryz.prog 121 #[v, .int .i64 n, .int .i64 10] w (Adds base w v l (digs n)) := by
  have SA := Lib.hid (uint_any n h hown hb hl)
  have hd : decide ((n : Int) < 0) = false := decide_eq_false (by omega)
  have hw : IntKind.u64.wrap (n : Int) = (n : Int) := by show (n : Int) % 18446744073709551616 = n; omega
  clear hown
  go_enter Tryz.func121, Tryz.ntmps121
  go_wp2_with (go_at_call 146; refine SA.out.mono ?_; rintro e w2 ⟨v', rfl, hadd⟩)
  go_ret
  exact ⟨_, rfl, hadd⟩

set_option maxHeartbeats 1000000 in
theorem sInt_any (n : Nat) (h : n < 10) (hown : Byt w base v l) (hb : base ≤ w.heap.size) (hl : l.length ≤ 70368744177664) :
    Calls Tryz.prog 83 #[v, .int .i64 n, .int .i64 10] w (Adds base w v l (digs n)) := by
  have SA := Lib.hid (int_any n h hown hb hl)
  go_enter Tryz.func83, Tryz.ntmps83
  go_wp2_with (go_at_call 121; refine SA.out.mono ?_; rintro e w2 ⟨v', rfl, hadd⟩)
  go_ret
  exact ⟨_, rfl, hadd⟩
end
end Go.Proofs.YtkcfgcdlnojaeaaGreatDoor.Digits

namespace Go.Proofs.YtkcfgcdlnojaeaaGreatDoor.Quoted
set_option maxRecDepth 100000
open Go.RowKit Go.PlainAid Base Bytes Digits

section
variable {base : Nat} {w : World} {v : Value} {l : List UInt8}
theorem AddB.len {base : Nat} {w w' : World} {v v' : Value} {l m : List UInt8} (h : AddB base w v l m v' w') : w.heap.size ≤ w'.heap.size := h.2.1.size

set_option maxHeartbeats 1000000 in
theorem number_any (n : Nat) (h : n < 10) (hown : Byt w base v l) (hb : base ≤ w.heap.size) (hl : l.length ≤ 35184372088832) :
    Calls Tryz.prog 80 #[v, .int .i64 n] w (Adds base w v l ([32] ++ digs n)) := by
  have ho := hown.below (Below.alloc (Below.refl w.heap.size w) (Nat.le_refl _) (.cells #[.int .u8 32] 5))
  have hsr := src_blk (Blk.new w 5 #[.int .u8 32]) [32] rfl
  have SA := Lib.hid (fun v' w' (ha : AddB base (w.alloc (.cells #[.int .u8 32] 5)) v l [32] v' w') => sInt_any n h ha.1 (by have := ha.2.1.size; simp at this; omega) (by simp; omega))
  go_enter Tryz.func80, Tryz.ntmps80
  go_wp2_with (first | (at_builtin; refine wpList_addB rfl _ _ rfl rfl ho rfl hsr (by decide) (by simp; omega) (by simp; omega) ?_; intro v1 w1 ha1) | (go_at_call 83; refine (SA.out _ _ ha1).mono ?_; rintro e w2 ⟨v', rfl, hadd⟩))
  go_ret
  exact ⟨_, rfl, (ha1.trans hadd).pre (Below.alloc (Below.refl w.heap.size w) (Nat.le_refl _) _)⟩

set_option maxHeartbeats 1000000 in
theorem weight_any (n : Nat) (h : n < 10) (hown : Byt w base v l) (hb : base ≤ w.heap.size) (hl : l.length ≤ 35184372088832) :
    Calls Tryz.prog 81 #[v, .int .u64 n] w (Adds base w v l ([32] ++ digs n)) := by
  have ho := hown.below (Below.alloc (Below.refl w.heap.size w) (Nat.le_refl _) (.cells #[.int .u8 32] 5))
  have hsr := src_blk (Blk.new w 5 #[.int .u8 32]) [32] rfl
  have SA := Lib.hid (fun v' w' (ha : AddB base (w.alloc (.cells #[.int .u8 32] 5)) v l [32] v' w') => sUint_any n h ha.1 (by have := ha.2.1.size; simp at this; omega) (by simp; omega))
  go_enter Tryz.func81, Tryz.ntmps81
  go_wp2_with (first | (at_builtin; refine wpList_addB rfl _ _ rfl rfl ho rfl hsr (by decide) (by simp; omega) (by simp; omega) ?_; intro v1 w1 ha1) | (go_at_call 120; refine (SA.out _ _ ha1).mono ?_; rintro e w2 ⟨v', rfl, hadd⟩))
  go_ret
  exact ⟨_, rfl, (ha1.trans hadd).pre (Below.alloc (Below.refl w.heap.size w) (Nat.le_refl _) _)⟩

set_option maxHeartbeats 4000000 in
theorem quoted_plain (s : ByteArray) (hp : Plain s) (hown : Byt w base v l) (hb : base ≤ w.heap.size) (hl : l.length + 3 * s.size ≤ 35184372088832) :
    Calls Tryz.prog 82 #[v, .string s] w (Adds base w v l (quoteL s)) := by
  have ho := hown.below (Below.alloc (Below.refl w.heap.size w) (Nat.le_refl _) (.cells #[.int .u8 34] 5))
  have hsr := src_blk (Blk.new w 5 #[.int .u8 34]) [34] rfl
  go_enter Tryz.func82, Tryz.ntmps82
  go_wp2_with (at_builtin; refine wpList_addB rfl _ _ rfl rfl ho rfl hsr (by decide) (by simp; omega) (by simp; omega) ?_; intro v1 w1 ha1)
  go_loopw [5, 0] (fun i u wr => ∃ (k : Nat) (v2 : Value), k ≤ s.size ∧ i = .int .i64 k ∧ u = v2 ∧ AddB base w v l ([34] ++ qfrom s k) v2 wr) (fun i _ _ => s.size - (intOf i).toNat)
  case atStart => exact ⟨0, v1, Nat.zero_le _, rfl, rfl, ha1.pre (Below.alloc (Below.refl w.heap.size w) (Nat.le_refl _) _)⟩
  case round =>
    obtain ⟨k, v2, hk, rfl, rfl, hadd⟩ := hrel
    have hq := qfrom_len s k
    have hbr : base ≤ wr.heap.size := Nat.le_trans hb hadd.2.1.size
    rcases Nat.lt_or_ge k s.size with hlt | hge
    · have hodd := hp k hlt
      obtain ⟨q1, q2, q3, q4⟩ := odd_iff hodd
      have hqb : qb (bt s k) = [UInt8.ofNat (bt s k).toNat] := by unfold qb; rw [hodd]; rfl
      have hgb := get_bt s
      have r0 := bt_nonneg s k
      have r1 := bt_le s k
      have b1 : decide (bt s k < 32) = false := decide_eq_false (by omega)
      have b2 : decide (126 < bt s k) = false := decide_eq_false (by omega)
      have b3 : (bt s k == 34) = false := beq_eq_false_iff_ne.2 q3
      have b4 : (bt s k == 92) = false := beq_eq_false_iff_ne.2 q4
      have i3 : (k : Int) < 9223372036854775807 := by omega
      have ho2 := hadd.1.below (Below.alloc (Below.refl wr.heap.size wr) (Nat.le_refl _) (.cells #[.int .u8 (bt s k)] 5))
      have hsr2 := src_blk (Blk.new wr 5 #[.int .u8 (bt s k)]) [UInt8.ofNat (bt s k).toNat] (byte_cell r0 r1).symm
      have HQ := Lib.hid hqb
      have HA := Lib.hid hadd
      have hlen : (l ++ ([34] ++ qfrom s k)).length = l.length + 1 + (qfrom s k).length := by simp; omega
      clear hadd hodd hqb hp ho hsr
      go_wp2_with (at_builtin; refine wpList_addB rfl _ _ rfl rfl ho2 rfl hsr2 (by exact Nat.zero_lt_one) (by simp; omega) (by rw [hlen]; simp; omega) ?_; intro v3 w3 ha3)
      go_roundw
      case rel =>
        refine ⟨k + 1, v3, by omega, by go_num, rfl, ?_⟩
        rw [qfrom_succ, HQ.out, ← List.append_assoc]
        exact HA.out.trans (ha3.pre (Below.alloc (Below.refl wr.heap.size wr) (Nat.le_refl _) _))
      case measure => simp [intOf]; omega
    · obtain rfl : k = s.size := by omega
      have ho2 := hadd.1.below (Below.alloc (Below.refl wr.heap.size wr) (Nat.le_refl _) (.cells #[.int .u8 34] 5))
      have hsr2 := src_blk (Blk.new wr 5 #[.int .u8 34]) [34] rfl
      have HA := Lib.hid hadd
      have hlen : (l ++ ([34] ++ qfrom s s.size)).length = l.length + 1 + (qfrom s s.size).length := by simp; omega
      clear hadd hp ho hsr
      go_wp2_with (at_builtin; refine wpList_addB rfl _ _ rfl rfl ho2 rfl hsr2 (by decide) (by simp; omega) (by rw [hlen]; simp; omega) ?_; intro v3 w3 ha3)
      go_ret
      exact ⟨_, rfl, HA.out.trans (ha3.pre (Below.alloc (Below.refl wr.heap.size wr) (Nat.le_refl _) _))⟩
end
end Go.Proofs.YtkcfgcdlnojaeaaGreatDoor.Quoted
