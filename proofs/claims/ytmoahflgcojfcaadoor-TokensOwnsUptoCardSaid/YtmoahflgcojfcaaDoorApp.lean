/-
  A row that begins as an empty slice of no room in some older block: the first append makes it the call's own.
-/
import Derived.Test.YtmoahflgcojfcaaDoorBase
namespace Go.Proofs.YtmoahflgcojfcaaDoor.App
open Go.RowKit Go.PlainAid Base

/-- Owned, or empty without room. -/
def OwnE (w : World) (base : Nat) (e : TypeId) (size : Nat) (v : Value) (n : Nat) (xs : List Value) : Prop :=
  w.ownsRow base e size v n xs ∨ (n = 0 ∧ xs = [] ∧ ∃ p, v = .slice (some p) 0 0)

theorem OwnE.own {w : World} {base : Nat} {e : TypeId} {size : Nat} {v : Value} {n : Nat} {xs : List Value} (h : w.ownsRow base e size v n xs) : OwnE w base e size v n xs := .inl h
theorem OwnE.empty (w : World) (base : Nat) (e : TypeId) (size : Nat) (p : Addr) : OwnE w base e size (.slice (some p) 0 0) 0 [] := .inr ⟨rfl, rfl, p, rfl⟩
theorem OwnE.slice {w : World} {base : Nat} {e : TypeId} {size : Nat} {v : Value} {n : Nat} {xs : List Value} (h : OwnE w base e size v n xs) : ∃ A c, v = .slice A n c := by
  rcases h with h | ⟨rfl, rfl, p, rfl⟩
  · exact own_slice h
  · exact ⟨_, _, rfl⟩
theorem OwnE.below {w w' : World} {base : Nat} {e : TypeId} {size : Nat} {v : Value} {n : Nat} {xs : List Value} (h : OwnE w base e size v n xs) (hb : Below w.heap.size w w') : OwnE w' base e size v n xs :=
  h.imp (fun h => own_below h hb) id
/-- As data it is its cells. -/
theorem OwnE.slc {w : World} {base : Nat} {e : TypeId} {size n : Nat} {A : Option Addr} {c : Nat} {xs : List Value} (h : OwnE w base e size (.slice A n c) n xs) : Slc w w.heap.size A xs := by
  rcases h with h | ⟨_, rfl, _⟩
  · exact slc_own h
  · exact Slc.nil _

/-- A slice whose cells, where it has some, lie in a block from lo to hi and read as xs. -/
def SlcIn (w : World) (lo hi : Nat) (A : Option Addr) (xs : List Value) : Prop :=
  xs ≠ [] → ∃ g o, A = some ⟨g, o, none⟩ ∧ lo ≤ g ∧ g < hi ∧ ∀ j u, xs[j]? = some u → w.cell? ⟨g, o + j, none⟩ = some u
theorem SlcIn.nil (w : World) (lo hi : Nat) (A : Option Addr) : SlcIn w lo hi A [] := fun h => absurd rfl h
theorem SlcIn.slc {w : World} {lo hi : Nat} {A : Option Addr} {xs : List Value} (h : SlcIn w lo hi A xs) : Slc w hi A xs := fun hx => by
  obtain ⟨g, o, e, _, hg, hc⟩ := h hx
  exact ⟨g, o, e, hg, hc⟩
theorem slcIn_own {w : World} {base lo size n : Nat} {e : TypeId} {A : Option Addr} {c : Nat} {xs : List Value} (h : w.ownsRow base e size (.slice A n c) n xs) (hb : lo ≤ base) : SlcIn w lo w.heap.size A xs := fun hx => by
  obtain ⟨g, o, e', hg, hc⟩ := slc_own h hx
  have hbk : (Value.slice A n c).ownBlock = some g := by subst e'; rfl
  exact ⟨g, o, e', by have := (h.lt g hbk).1; omega, hg, hc⟩
theorem OwnE.slcIn {w : World} {base lo size n : Nat} {e : TypeId} {A : Option Addr} {c : Nat} {xs : List Value} (h : OwnE w base e size (.slice A n c) n xs) (hb : lo ≤ base) : SlcIn w lo w.heap.size A xs := by
  rcases h with h | ⟨_, rfl, _⟩
  · exact slcIn_own h hb
  · exact SlcIn.nil _ _ _ _

section
variable {P : Program} {base : Nat} {t e : TypeId} {z : Value} {size bytes : Nat}

/-- 'append(out, x)' of one element whose cells lie in the block just made. -/
theorem wpList_append1E {wr : World} {ops : Array Oper} {rest : List Oper} {o : Oper} {a : Act} {Q : Exit → Act → World → Prop} (hgd : o.guard = none) (s x : Operand)
    (ho : o.op = .call { callee := .builtin .append, args := #[s, x], argTypes := #[t, t] })
    (I : Elem P t e z size bytes) {v : Value} {n : Nat} {xs : List Value} (hown : OwnE wr base e size v n xs) (hs : a.eval s = v)
    {cs : Array Value} (hx : a.eval x = .slice (some ⟨wr.heap.size, 0, none⟩) 1 1) (hl : cs.size = size) (h1 : cs.toList.all Value.oneCell' = true)
    (hbytes : (n + 1) * bytes ≤ 140737488355328) (h63 : n + 1 ≤ maxLen) (hbase : base ≤ wr.heap.size)
    (h : ∀ v' w', w'.ownsRow base e size v' (n + 1) (xs ++ cs.toList) → (∀ w0, Below base w0 wr → Below base w0 w') → wpList P ops Q rest (a.put o.dst v') w') :
    wpList P ops Q (o :: rest) a (wr.alloc (.cells cs e)) := by
  rcases hown with hown | ⟨rfl, rfl, p, rfl⟩
  · exact wpList_append1 hgd s x ho I hown hs hx hl h1 hbytes h63 hbase fun v' w' a b c => h v' w' a c
  · obtain ⟨ht, ⟨i, hi, hz, hsz, hby⟩, hzs, hpos⟩ := I
    have hr := run_append_grow (P := P) (wr.alloc (.cells cs e)) t o.type e i z ht hi hz p 0 0 [] (by simp) (fun j v hv => by simp at hv)
      ⟨wr.heap.size, 0, none⟩ 1 1 cs.toList (by rw [Array.length_toList, hl, hsz, Nat.one_mul]) (fun j u hu => by
        rw [Addr.add_lit, World.cell?_alloc_mark, Nat.zero_add]
        simpa using hu) (by omega) (by omega) (growslice_fits (by omega) (by rw [hby]; exact hbytes))
    refine wpList_plain hgd fun K hK => ?_
    unfold Oper.wp execOp
    simp only [ho, resolve, invoke, builtin, Sem.run_bind, Sem.run_pure, Result.andThen_ok, List.map_toArray, List.map_cons, List.map_nil, hs, hx, hr]
    refine hK _ _ (h _ _ ⟨by rw [List.nil_append, Array.length_toList, hl, Nat.zero_add, Nat.one_mul], .inr ⟨_, _, _, rfl, ?_, heap_alloc_new _ _, grownCap_ge _ _ _ _, grownCap_le_maxLen _ _ _ _ h63, ?_, ?_⟩⟩ ?_)
    · show base ≤ (wr.alloc (.cells cs e)).drew.heap.size
      simp only [World.size_drew, World.size_alloc]; omega
    · have hge := grownCap_ge (wr.alloc (.cells cs e)) (0 + 1) 0 e
      simp only [Array.size_append, List.size_toArray, Array.length_toList, size_zeroCells, hzs, hl, List.length_nil, Nat.zero_add]
      rw [Nat.sub_mul, Nat.one_mul]
      have : 1 * size ≤ grownCap (wr.alloc (.cells cs e)) 1 0 e * size := Nat.mul_le_mul_right _ (by simpa using hge)
      omega
    · simp only [Array.toList_append, List.nil_append, List.append_assoc, Nat.zero_add, Nat.one_mul]
      rw [List.take_append_of_le_length (by simp [hl]), List.take_of_length_le (by simp [hl])]
    · intro w0 hb
      exact ((hb.alloc hbase _).drew).alloc (by simp only [World.size_drew, World.size_alloc]; omega) _
end
end Go.Proofs.YtmoahflgcojfcaaDoor.App
