/-
  What a walk leaves alone but for some blocks; own rows of tokens that grow beside other rows; where the grown row lies.
-/
import Derived.Test.YtmoahflgcojfcaaDoorApp
import Derived.Test.YtmoahflgcojfcaaDoorDWords
import Derived.Deep.AppendLies
namespace Go.Proofs.YtmoahflgcojfcaaDoor.OutRow
set_option maxRecDepth 100000
open Go.RowKit Go.PlainAid Base App WordPlain WordsWalk

/-- w' is w but for the blocks that are not 'ok' and new blocks. -/
structure Foot (w w' : World) (ok : Nat → Prop) : Prop where
  os : w'.os = w.os
  tape : w'.tape = w.tape
  output : w'.output = w.output
  size : w.heap.size ≤ w'.heap.size
  block : ∀ k, k < w.heap.size → ok k → w'.heap[k]? = w.heap[k]?

section
variable {w w' w'' : World} {ok ok' : Nat → Prop}
theorem Foot.refl (w : World) (ok : Nat → Prop) : Foot w w ok := ⟨rfl, rfl, rfl, Nat.le_refl _, fun _ _ _ => rfl⟩
theorem Foot.trans (h : Foot w w' ok) (k : Foot w' w'' ok) : Foot w w'' ok :=
  ⟨k.os.trans h.os, k.tape.trans h.tape, k.output.trans h.output, Nat.le_trans h.size k.size, fun i hi ho => (k.block i (Nat.lt_of_lt_of_le hi h.size) ho).trans (h.block i hi ho)⟩
theorem Foot.imp (h : Foot w w' ok) (hi : ∀ k, k < w.heap.size → ok' k → ok k) : Foot w w' ok' := ⟨h.os, h.tape, h.output, h.size, fun k hk ho => h.block k hk (hi k hk ho)⟩
theorem Foot.alloc (h : Foot w w' ok) (o : Obj) : Foot w (w'.alloc o) ok :=
  ⟨h.os, h.tape, h.output, Nat.le_trans h.size (by simp), fun k hk ho => (Below.heap_alloc w' o k (Nat.lt_of_lt_of_le hk h.size)).trans (h.block k hk ho)⟩
theorem Foot.drew (h : Foot w w' ok) : Foot w w'.drew ok := ⟨h.os, h.tape, h.output, h.size, h.block⟩
theorem Foot.drewN (h : Foot w w' ok) (n : Nat) : Foot w (w'.drewN n) ok := ⟨h.os, h.tape, h.output, h.size, h.block⟩
theorem Foot.set_ (h : Foot w w' ok) {p : Addr} (hp : p.block < w.heap.size → ¬ ok p.block) (u : Value) : Foot w (w'.setCell p u) ok :=
  ⟨h.os, h.tape, h.output, by simpa using h.size, fun k hk ho => (Below.heap_setCell w' p u k (fun e => by subst e; exact hp hk ho)).trans (h.block k hk ho)⟩
theorem Foot.below (h : Foot w w' ok) (hk : Below w.heap.size w' w'') : Foot w w'' ok :=
  ⟨hk.os.trans h.os, hk.tape.trans h.tape, hk.output.trans h.output, Nat.le_trans h.size hk.size, fun i hi ho => (hk.block i hi).trans (h.block i hi ho)⟩
theorem Foot.ofBelow (h : Below w.heap.size w w') (ok : Nat → Prop) : Foot w w' ok := ⟨h.os, h.tape, h.output, h.size, fun i hi _ => h.block i hi⟩
theorem Foot.grown {row : Option Nat} (h : Foot w w' ok) (hg : w'.grownBy w'' row) (hr : ∀ k, k < w.heap.size → row = some k → ¬ ok k) : Foot w w'' ok :=
  ⟨hg.os.trans h.os, hg.tape.trans h.tape, hg.output.trans h.output, Nat.le_trans h.size hg.size,
    fun i hi ho => (hg.block i (Nat.lt_of_lt_of_le hi h.size) (fun e => hr i hi e.symm ho)).trans (h.block i hi ho)⟩
theorem Foot.toBelow {B : Nat} (h : Foot w w' ok) (hB : ∀ k, k < B → ok k) (hs : B ≤ w.heap.size) : Below B w w' :=
  ⟨h.os, h.tape, h.output, h.size, fun k hk => h.block k (Nat.lt_of_lt_of_le hk hs) (hB k hk)⟩
theorem Foot.cell (h : Foot w w' ok) {p : Addr} (hp : p.block < w.heap.size) (ho : ok p.block) : w'.cell? p = w.cell? p := World.cell?_of_block (h.block _ hp ho)
theorem Foot.own {base size n : Nat} {e : TypeId} {v : Value} {xs : List Value} (h : Foot w w' ok) (hown : w.ownsRow base e size v n xs) (hv : ∀ g, v.ownBlock = some g → ok g) : w'.ownsRow base e size v n xs := by
  cases hb : v.ownBlock with
  | none =>
    refine ⟨hown.1, ?_⟩
    rcases hown.2 with hn | ⟨g, cap, cur, rfl, _⟩
    · exact .inl hn
    · simp [Value.ownBlock] at hb
  | some g =>
    have hlt := (hown.lt g hb).2
    refine ⟨hown.1, ?_⟩
    rcases hown.2 with hn | ⟨g', cap, cur, rfl, hb', hgg, rest⟩
    · exact .inl hn
    · have e : g' = g := by simpa [Value.ownBlock] using hb
      subst e
      exact .inr ⟨g', cap, cur, rfl, hb', (h.block g' hlt (hv g' hb)).trans hgg, rest⟩
theorem Foot.blk {g : Nat} {t : TypeId} {cs : Array Value} (h : Foot w w' ok) (hb : Blk w g t cs) (ho : ok g) : Blk w' g t cs := (h.block g hb.lt ho).trans hb
end


theorem grown_foot {w w' : World} {row : Option Nat} (h : w.grownBy w' row) {ok : Nat → Prop} (hr : ∀ g, row = some g → ¬ ok g) : Foot w w' ok :=
  (Foot.refl w ok).grown h (fun k _ e => hr k e)

section
variable {P : Program} {base : Nat} {t e : TypeId} {z : Value} {size bytes : Nat}

/-- 'append(out, x)' of one element whose cells lie in the block just made: the row lies where it lay, or in a new block. -/
theorem wpList_append1L {wr : World} {ops : Array Oper} {rest : List Oper} {o : Oper} {a : Act} {Q : Exit → Act → World → Prop} (hgd : o.guard = none) (s x : Operand)
    (ho : o.op = .call { callee := .builtin .append, args := #[s, x], argTypes := #[t, t] })
    (I : Elem P t e z size bytes) {v : Value} {n : Nat} {xs : List Value} (hown : OwnE wr base e size v n xs) (hs : a.eval s = v)
    {cs : Array Value} (hx : a.eval x = .slice (some ⟨wr.heap.size, 0, none⟩) 1 1) (hl : cs.size = size) (h1 : cs.toList.all Value.oneCell' = true)
    (hbytes : (n + 1) * bytes ≤ 140737488355328) (h63 : n + 1 ≤ maxLen) (hbase : base ≤ wr.heap.size)
    (h : ∀ v' w', w'.ownsRow base e size v' (n + 1) (xs ++ cs.toList) → wr.grownBy w' v.ownBlock → (v'.ownBlock = v.ownBlock ∨ v'.ownBlock = some (wr.heap.size + 1)) → wpList P ops Q rest (a.put o.dst v') w') :
    wpList P ops Q (o :: rest) a (wr.alloc (.cells cs e)) := by
  rcases hown with hown | ⟨rfl, rfl, p, rfl⟩
  · obtain ⟨ht, ⟨i, hi, hz, hsz, hby⟩, hzs, hpos⟩ := I
    refine wpList_append_lies (wr.alloc (.cells cs e)) hgd s x t ho base e i z size bytes ht hi hz hsz hby hzs hpos v n xs hs (hown.alloc _) ⟨wr.heap.size, 0, none⟩ 1 1 cs.toList hx (by simpa using hl)
      (fun j u hu => by rw [Addr.add_lit, World.cell?_alloc_mark, Nat.zero_add]; simpa using hu) (fun u hu => (List.all_eq_true.1 h1) u hu) (by decide) h63 hbytes (by simp only [World.size_alloc]; omega) (wr.heap.size + 1) (by simp only [World.size_alloc]) ?_
    intro g cap w' h2 h3 h4 h5
    refine h _ w' h2 ⟨h3.os, h3.tape, h3.output, by have := h3.size; simp only [World.size_alloc] at this; omega, fun k hk hne => (h3.block k (by simp only [World.size_alloc]; omega) hne).trans (Below.heap_alloc wr _ k hk)⟩ ?_
    rcases h4 with h4 | h4
    · exact .inl (by rw [h4]; rfl)
    · exact .inr (by rw [h4]; rfl)
  · obtain ⟨ht, ⟨i, hi, hz, hsz, hby⟩, hzs, hpos⟩ := I
    have hr := run_append_grow (P := P) (wr.alloc (.cells cs e)) t o.type e i z ht hi hz p 0 0 [] (by simp) (fun j v hv => by simp at hv)
      ⟨wr.heap.size, 0, none⟩ 1 1 cs.toList (by rw [Array.length_toList, hl, hsz, Nat.one_mul]) (fun j u hu => by
        rw [Addr.add_lit, World.cell?_alloc_mark, Nat.zero_add]
        simpa using hu) (by omega) (by omega) (growslice_fits (by omega) (by rw [hby]; exact hbytes))
    refine wpList_plain hgd fun K hK => ?_
    unfold Oper.wp execOp
    simp only [ho, resolve, invoke, builtin, Sem.run_bind, Sem.run_pure, Result.andThen_ok, List.map_toArray, List.map_cons, List.map_nil, hs, hx, hr]
    refine hK _ _ (h _ _ ⟨by rw [List.nil_append, Array.length_toList, hl, Nat.zero_add, Nat.one_mul], .inr ⟨_, _, _, rfl, ?_, heap_alloc_new _ _, grownCap_ge _ _ _ _, grownCap_le_maxLen _ _ _ _ h63, ?_, ?_⟩⟩ ?_ (.inr (by simp [Value.ownBlock])))
    · show base ≤ (wr.alloc (.cells cs e)).drew.heap.size
      simp only [World.size_drew, World.size_alloc]; omega
    · have hge := grownCap_ge (wr.alloc (.cells cs e)) (0 + 1) 0 e
      simp only [Array.size_append, List.size_toArray, Array.length_toList, size_zeroCells, hzs, hl, List.length_nil, Nat.zero_add]
      rw [Nat.sub_mul, Nat.one_mul]
      have : 1 * size ≤ grownCap (wr.alloc (.cells cs e)) 1 0 e * size := Nat.mul_le_mul_right _ (by simpa using hge)
      omega
    · simp only [Array.toList_append, List.nil_append, List.append_assoc, Nat.zero_add, Nat.one_mul]
      rw [List.take_append_of_le_length (by simp [hl]), List.take_of_length_le (by simp [hl])]
    · refine ⟨rfl, rfl, rfl, by simp only [World.size_alloc, World.size_drew]; omega, fun k hk _ => ?_⟩
      rw [Below.heap_alloc _ _ k (by simp only [World.size_drew, World.size_alloc]; omega)]
      exact Below.heap_alloc wr _ k hk
end

theorem own_blk_ne {w : World} {B n s g : Nat} {e t : TypeId} {v : Value} {xs : List Value} {cs : Array Value} (h : w.ownsRow B e s v n xs) (h2 : Blk w g t cs) (he : e ≠ t) : v.ownBlock ≠ some g := by
  intro hv
  rcases h.2 with ⟨rfl, _⟩ | ⟨g1, c1, cur1, rfl, _, q1, _⟩
  · simp [Value.ownBlock] at hv
  · simp [Value.ownBlock] at hv
    subst hv
    unfold Blk at h2
    rw [q1] at h2
    simp only [Option.some.injEq, Obj.cells.injEq] at h2
    exact he h2.2.1

/-- Tokens that a call gathers: E: it may begin as an empty list in some block. b: a block that it is not. -/
structure Out (E : Bool) (w : World) (B b : Nat) (v : Value) (ts : List Tok) : Prop where
  row : OwnE w B 32 5 v ts.length (tokCells ts)
  own : E = false → w.ownsRow B 32 5 v ts.length (tokCells ts)
  lie : ∀ g, v.ownBlock = some g → B ≤ g ∧ g < w.heap.size
  ne : v.ownBlock ≠ some b

section
variable {E : Bool} {w w' : World} {B b : Nat} {v v' : Value} {ts : List Tok} {t : Tok}
theorem Out.nil (E : Bool) (w : World) (B b : Nat) : Out E w B b (.slice none 0 0) [] :=
  ⟨.inl (World.ownsRow_nil _ _ _ _), fun _ => World.ownsRow_nil _ _ _ _, (fun g h => by simp [Value.ownBlock] at h), by simp [Value.ownBlock]⟩
theorem Out.empty {g : Nat} (hB : B ≤ g) (hg : g < w.heap.size) (hb : g ≠ b) : Out true w B b (.slice (some ⟨g, 0, none⟩) 0 0) [] :=
  ⟨OwnE.empty _ _ _ _ _, (fun h => by cases h), (fun g' h => by simp [Value.ownBlock] at h; omega), by simp [Value.ownBlock]; omega⟩
theorem Out.below (h : Out E w B b v ts) (hb : Below w.heap.size w w') : Out E w' B b v ts :=
  ⟨h.row.below hb, fun e => own_below (h.own e) hb, fun g e => ⟨(h.lie g e).1, Nat.lt_of_lt_of_le (h.lie g e).2 hb.size⟩, h.ne⟩
theorem Out.slice (h : Out E w B b v ts) : ∃ A c, v = .slice A ts.length c := h.row.slice
theorem Out.slc {A : Option Addr} {n c : Nat} (h : Out E w B b (.slice A n c) ts) (hn : n = ts.length) : Slc w w.heap.size A (tokCells ts) := by
  subst hn; exact h.row.slc
theorem Out.slcIn {A : Option Addr} {n c : Nat} (h : Out E w B b (.slice A n c) ts) (hn : n = ts.length) : SlcIn w B w.heap.size A (tokCells ts) := by
  subst hn; exact h.row.slcIn (Nat.le_refl _)
/-- After one more token. -/
theorem Out.grow (h : Out E w B b v ts) (hown : w'.ownsRow B 32 5 v' (ts.length + 1) (tokCells ts ++ tokC t)) (hl : v'.ownBlock = v.ownBlock ∨ v'.ownBlock = some (w.heap.size + 1)) (hb : b < w.heap.size) : Out E w' B b v' (ts ++ [t]) := by
  have ho : w'.ownsRow B 32 5 v' (ts ++ [t]).length (tokCells (ts ++ [t])) := by
    rw [tokCells_append, List.length_append]; simpa [tokCells] using hown
  refine ⟨.inl ho, fun _ => ho, fun g e => ho.lt g e, ?_⟩
  rcases hl with hl | hl
  · rw [hl]; exact h.ne
  · rw [hl]; simp; omega

/-- A loop over a list beside the row: from world w5 on only the row and new blocks have changed. -/
structure Inn (E : Bool) (w5 wq : World) (B b : Nat) (v5 v' : Value) (ts : List Tok) : Prop where
  out : Out E wq B b v' ts
  at_ : v'.ownBlock = v5.ownBlock ∨ ∀ g, v'.ownBlock = some g → w5.heap.size ≤ g
  foot : Foot w5 wq (fun g => v5.ownBlock ≠ some g)
section
variable {w5 wq w6 : World} {v5 v6 : Value}
theorem Inn.start (h : Out E w5 B b v5 ts) : Inn E w5 w5 B b v5 v5 ts := ⟨h, .inl rfl, Foot.refl _ _⟩
theorem Inn.below (h : Inn E w5 wq B b v5 v' ts) (hb : Below wq.heap.size wq w6) : Inn E w5 w6 B b v5 v' ts :=
  ⟨h.out.below hb, h.at_, h.foot.below (hb.mono h.foot.size)⟩
theorem Inn.alloc (h : Inn E w5 wq B b v5 v' ts) (o : Obj) : Inn E w5 (wq.alloc o) B b v5 v' ts := h.below (balloc (Below.refl _ _) _)
theorem Inn.grow (h : Inn E w5 wq B b v5 v' ts) (hown : w6.ownsRow B 32 5 v6 (ts.length + 1) (tokCells ts ++ tokC t)) (hg : wq.grownBy w6 v'.ownBlock)
    (hl : v6.ownBlock = v'.ownBlock ∨ v6.ownBlock = some (wq.heap.size + 1)) (hb : b < w5.heap.size) : Inn E w5 w6 B b v5 v6 (ts ++ [t]) := by
  have hsz := h.foot.size
  refine ⟨h.out.grow hown hl (by omega), ?_, h.foot.grown hg fun g hgl e hok => ?_⟩
  · rcases hl with hl | hl
    · rcases h.at_ with ha | ha
      · exact .inl (hl.trans ha)
      · exact .inr (fun g e => ha g (hl ▸ e))
    · exact .inr (fun g e => by rw [hl] at e; injection e with e; omega)
  · rcases h.at_ with ha | ha
    · exact hok (ha ▸ e)
    · have := ha g e; omega
theorem Inn.keep (h : Inn E w5 wq B b v5 v' ts) {B0 : Nat} (hB : ∀ g, v5.ownBlock = some g → B0 ≤ g) (hs : B0 ≤ w5.heap.size) : Below B0 w5 wq :=
  h.foot.toBelow (fun k hk e => by have := hB k e; omega) hs
end
end

theorem blk_new_at (w : World) {g : Nat} (hg : g = w.heap.size) (t : TypeId) (cs : Array Value) : Blk (w.alloc (.cells cs t)) g t cs := by subst hg; exact Blk.new w t cs
end Go.Proofs.YtmoahflgcojfcaaDoor.OutRow
