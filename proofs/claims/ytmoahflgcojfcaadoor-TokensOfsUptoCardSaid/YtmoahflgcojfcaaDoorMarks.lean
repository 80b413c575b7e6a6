/-
  Leaving a function that holds ranges over functions in a loop: one mark a round.
-/
import Derived.Test.YtmoahflgcojfcaaDoorEachList
namespace Go.Proofs.YtmoahflgcojfcaaDoor.Marks
set_option maxRecDepth 100000
open Go.RowKit Go.PlainAid Base App

/-- Marks of loops past, each older than the one ahead. -/
def Marks (W : World) : List Deferred → Nat → Prop
  | [], _ => True
  | d :: ds, b => ∃ D, d = { target := .collected D, args := #[] } ∧ D < b ∧ W.heap[D]? = some (.deferred (some [])) ∧ Marks W ds D

theorem Marks.mono {W : World} : ∀ {ds : List Deferred} {b b' : Nat}, Marks W ds b → b ≤ b' → Marks W ds b'
  | [], _, _, _, _ => trivial
  | _ :: _, _, _, ⟨D, h1, h2, h3, h4⟩, hb => ⟨D, h1, Nat.lt_of_lt_of_le h2 hb, h3, h4⟩
theorem Marks.kept {W W' : World} : ∀ {ds : List Deferred} {b : Nat}, Marks W ds b → (∀ k o, k < b → W.heap[k]? = some o → o.isCells = false → W'.heap[k]? = some o) → Marks W' ds b
  | [], _, _, _ => trivial
  | _ :: _, _, ⟨D, h1, h2, h3, h4⟩, h => ⟨D, h1, h2, h D _ h2 h3 rfl, h4.kept fun k o hk => h k o (Nat.lt_trans hk h2)⟩
theorem Marks.others {W W' : World} {ds : List Deferred} {b : Nat} (h : Marks W ds b) (hk : KeepsOthers W W') : Marks W' ds b := h.kept fun k o _ hk' ho => hk.same k o hk' ho
theorem Marks.below {W W' : World} {ds : List Deferred} {b m : Nat} (h : Marks W ds b) (hk : Below m W W') (hb : b ≤ m) : Marks W' ds b := h.kept fun k o hlt hk' _ => (hk.block k (Nat.lt_of_lt_of_le hlt hb)).trans hk'
theorem Marks.from {W W' : World} {ds : List Deferred} {b B : Nat} {row : Option Nat} (h : Marks W ds b) (hb : b ≤ B) (hg : W.grownBy W' row) (hr : ∀ r, row = some r → B ≤ r) : Marks W' ds b :=
  h.kept fun k o hlt hk' _ => (hg.block k (Array.getElem?_eq_some_iff.1 hk').1 (fun e => by have := hr k e.symm; omega)).trans hk'
theorem Marks.push {W : World} {ds : List Deferred} {b D : Nat} (h : Marks W ds b) (hb : b ≤ D) (hD : W.heap[D]? = some (.deferred (some []))) : Marks W ({ target := .collected D, args := #[] } :: ds) (D + 1) :=
  ⟨D, rfl, Nat.lt_succ_self _, hD, h.mono hb⟩

/-- The cells stay while the marks are taken up. -/
theorem leaves_marks {F : Fence} {n : Nat} {P : Program} {fn : Func} {tmps : Array Value} {R : Ending → World → Prop} {n0 : Nat} : ∀ (ds : List Deferred) (b : Nat) (W : World), Marks W ds b → n0 ≤ W.heap.size → (∀ d ∈ ds, ∀ D, d.target = .collected D → n0 ≤ D) →
    (∀ W', Below n0 W W' → (∀ (k : Nat) (o : Obj), W.heap[k]? = some o → o.isCells = true → W'.heap[k]? = some o) → LeavesIn F n P fn tmps R [] .returning W') → LeavesInM F n P fn tmps R ds .returning W
  | [], _, W, _, _, _, h => h W (Below.refl _ _) (fun _ _ hk _ => hk)
  | d :: ds, b, W, ⟨D, h1, h2, h3, h4⟩, hn, hds, h => by
    subst h1
    have hn0 : n0 ≤ D := hds _ (List.mem_cons_self) D rfl
    have hlt : D < W.heap.size := (Array.getElem?_eq_some_iff.1 h3).1
    have hb0 : Below n0 W (W.putObj D (.deferred none)) := (Below.refl n0 W).grown (grownBy_putObj' W D _) hn (fun k e => by cases e; exact hn0)
    refine ⟨by simp, .inl ⟨D, _, rfl, run_takeDeferred h3, ?_⟩⟩
    refine leaves_marks ds D _ (h4.kept fun k o hk hko _ => (World.putObj_heap_other (Nat.ne_of_lt hk)).trans hko) (Nat.le_trans hn hb0.size) ?_ fun W' hb' hc' => h W' (hb0.trans hb') fun k o hk ho => hc' k o ((World.putObj_heap_other ?_).trans hk) ho
    · exact fun d hd => hds d (List.mem_cons_of_mem _ hd)
    · intro e
      subst e
      rw [h3] at hk
      cases hk
      cases ho

theorem results_cell {fn : Func} {t : Tmp} {ty : TypeId} (h : fn.results = #[.cell t ty]) {tmps : Array Value} {P : Program} {w : World} {a : Addr} {v : Value} (ht : tmps.getD t undef = .pointer (some a)) (hv : (loadVar ty a).run P w = .ok v w) :
    (results fn tmps).run P w = .ok v w := by
  have ht' : tmps[t]?.getD undef = .pointer (some a) := by simpa using ht
  simp [results, h, ht', hv, asAddr]

theorem own_cap {w : World} {base size n c : Nat} {e : TypeId} {A : Option Addr} {xs : List Value} (h : w.ownsRow base e size (.slice A n c) n xs) : n ≤ c := by
  rcases h.2 with ⟨h', h0⟩ | ⟨g, cap, cur, h', _, _, hc, _⟩
  · simp only [Value.slice.injEq] at h'; omega
  · simp only [Value.slice.injEq] at h'; omega
end Go.Proofs.YtmoahflgcojfcaaDoor.Marks
