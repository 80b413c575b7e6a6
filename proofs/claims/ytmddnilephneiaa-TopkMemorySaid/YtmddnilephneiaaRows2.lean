/-
  Own rows that grow beside each other: an append of whatever slice lies in memory, and where the new row lies.
-/
import Derived.Test.YtmddnilephneiaaTopkWalk
import Derived.Deep.AppendLies
namespace Go.Proofs.Ytmddnilephneiaa.Rows2
open Go.RowKit Go.PlainAid HitPlain HeapPlain KeepPlain Base HitBase PushWalk OfferWalk KeepWalk TopkWalk

section
variable {P : Program} {w : World} {base : Nat} {t e : TypeId} {z : Value} {size bytes : Nat}

theorem add_of0 {g o i : Nat} : (⟨g, o, none⟩ : Addr).add i = ⟨g, o + i, none⟩ := by
  unfold Addr.add
  by_cases h : i = 0
  · subst h; simp
  · simp [h]
theorem run_append_zero (ty : TypeId) (I : Elem P t e z size bytes) {v : Value} {n : Nat} {xs : List Value} (hown : w.ownsRow base e size v n xs) (A : Option Addr) (c : Nat) :
    (Builtin.append_ #[t, t] ty #[v, .slice A 0 c]).run P w = .ok v w := by
  obtain ⟨ht, ⟨i, hi, hz, hsz, hby⟩, hzs, hpos⟩ := I
  rcases hown.2 with ⟨rfl, rfl⟩ | ⟨g, cap, cur, rfl, _, _, hnc, _⟩
  · cases A <;> simp [Builtin.append_, run_underlying ht, sizeOf, typeInfo, hi, Builtin.lenOf, Builtin.firstCells, loadCells, loadCellsFrom]
  · cases A <;> simp [Builtin.append_, run_underlying ht, sizeOf, typeInfo, hi, Builtin.lenOf, Builtin.firstCells, hnc, storeCells, loadCells, loadCellsFrom]

theorem wpList_append_slc {ops : Array Oper} {rest : List Oper} {o : Oper} {a : Act} {Q : Exit → Act → World → Prop} (hgd : o.guard = none) (s x : Operand)
    (ho : o.op = .call { callee := .builtin .append, args := #[s, x], argTypes := #[t, t] })
    (I : Elem P t e z size bytes) {v : Value} {n : Nat} {xs : List Value} (hown : w.ownsRow base e size v n xs) (hs : a.eval s = v)
    {A : Option Addr} {m c B : Nat} {news : List Value} (hx : a.eval x = .slice A m c) (hl : news.length = m * size) (hsl : Slc w B A news) (h1 : ∀ u ∈ news, u.oneCell' = true)
    (hbytes : (n + m) * bytes ≤ 140737488355328) (h63 : n + m ≤ maxLen) (hbase : base ≤ w.heap.size)
    (h : ∀ v' w', w'.ownsRow base e size v' (n + m) (xs ++ news) → w.grownBy w' v.ownBlock → (v'.ownBlock = v.ownBlock ∨ v'.ownBlock = some w.heap.size) → wpList P ops Q rest (a.put o.dst v') w') :
    wpList P ops Q (o :: rest) a w := by
  rcases Nat.eq_zero_or_pos m with rfl | hm
  · have hn : news = [] := List.eq_nil_of_length_eq_zero (by simpa using hl)
    subst hn
    have hh := h v w (by simpa using hown) (World.grownBy.refl _ _) (.inl rfl)
    refine wpList_plain hgd fun K hK => ?_
    have hrun := run_append_zero (P := P) (w := w) (ty := o.type) I hown A c
    unfold Oper.wp
    simp [execOp, ho, resolve, invoke, builtin, hs, hx, hrun, Result.andThen]
    exact hK _ _ hh
  · obtain ⟨ht, ⟨i, hi, hz, hsz, hby⟩, hzs, hpos⟩ := I
    have hne : news ≠ [] := fun e => by
      have h0 : 0 < m * size := Nat.mul_pos hm hpos
      rw [← hl, e] at h0
      exact absurd h0 (by simp)
    obtain ⟨g, off, rfl, hg, hc⟩ := hsl hne
    refine wpList_append_lies w hgd s x t ho base e i z size bytes ht hi hz hsz hby hzs hpos v n xs hs hown ⟨g, off, none⟩ m c news hx hl (fun j u hu => ?_) h1 hm h63 hbytes hbase _ rfl ?_
    · have := hc j u hu
      rw [add_of0]
      exact this
    · intro g2 cap2 w' hown' hgr hat hlt
      refine h _ w' hown' hgr ?_
      rcases hat with h' | h'
      · exact .inl (by rw [h']; rfl)
      · exact .inr (by rw [h']; rfl)
end

theorem grown_foot {w w' : World} {row : Option Nat} (h : w.grownBy w' row) {ok : Nat → Prop} (hr : ∀ g, row = some g → ¬ ok g) : Foot w w' ok :=
  (Foot.refl w ok).grown h (fun k _ e => hr k e)

/-- A slice whose block meets P. -/
def SlcP (w : World) (P : Nat → Prop) (A : Option Addr) (xs : List Value) : Prop := xs ≠ [] → ∃ g o, A = some ⟨g, o, none⟩ ∧ g < w.heap.size ∧ P g ∧ ∀ j u, xs[j]? = some u → w.cell? ⟨g, o + j, none⟩ = some u
section
variable {w w' : World} {P Q : Nat → Prop} {A : Option Addr} {xs : List Value}
theorem SlcP.slc (h : SlcP w P A xs) : Slc w w.heap.size A xs := fun hx => by
  obtain ⟨g, o, e, hg, _, hc⟩ := h hx
  exact ⟨g, o, e, hg, hc⟩
theorem SlcP.foot (h : SlcP w P A xs) (hf : Foot w w' P) : SlcP w' P A xs := fun hx => by
  obtain ⟨g, o, e, hg, hp, hc⟩ := h hx
  exact ⟨g, o, e, Nat.lt_of_lt_of_le hg hf.size, hp, fun j u hu => (hf.cell (p := ⟨g, o + j, none⟩) hg hp).trans (hc j u hu)⟩
theorem SlcP.imp (h : SlcP w P A xs) (hi : ∀ g, g < w.heap.size → P g → Q g) : SlcP w Q A xs := fun hx => by
  obtain ⟨g, o, e, hg, hp, hc⟩ := h hx
  exact ⟨g, o, e, hg, hi g hg hp, hc⟩
theorem slcP_own {base size n : Nat} {e : TypeId} {A : Option Addr} {c : Nat} (h : w.ownsRow base e size (.slice A n c) n xs) (hP : ∀ g, base ≤ g → g < w.heap.size → P g) : SlcP w P A xs := fun hx => by
  obtain ⟨g, o, e', hg, hc⟩ := slc_own h hx
  have hb : (Value.slice A n c).ownBlock = some g := by subst e'; rfl
  have := h.lt g hb
  exact ⟨g, o, e', hg, hP g this.1 this.2, hc⟩
end
end Go.Proofs.Ytmddnilephneiaa.Rows2
