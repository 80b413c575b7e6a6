/-
  The walk of concordlaw16.BindVanishes from region 7 on: each of the six trees is bound to nothing and changes nothing.
-/
import Derived.Test.YtkcfgcdlnojaeaaGreatDoorKeepsAny
set_option linter.unusedVariables false
set_option linter.unusedSimpArgs false
namespace Go.Proofs.YtkcfgcdlnojaeaaGreatDoor.VanRest
set_option maxRecDepth 100000
open Go.RowKit Go.PlainAid Base Query BindBase NodeTerm NodeTree NodePlain TextPlain NodeWalk NodeCheck TermCheck Binder WordPlain WordsWalk StopsWalk OfText OfAny WordsOne OpenField FieldPlain GoodName SchemaCheck WordsAny WordsMany LeafBase TreePlain BindTop MemOf KeepsAny PutBase Small VanPlain KeepsRest KeepsWalk


/-! The code from a region on. -/
noncomputable def tailV (k : Nat) : Code := ((Tryz.f7.body).bind (fromR k)).getD .skip
theorem lit_none (w : World) (B : Nat) : QVal w B [.int .i64 1, .int .i64 0, .string ⟨#[]⟩, .slice none 0 0, .slice none 0 0, .int .i64 0, .int .u64 0, .bool false, .bool false, .string ⟨#[]⟩, .bool false, .bool false, .string ⟨#[]⟩, .slice none 0 0, .slice none 0 0] noneQ :=
  QVal.mk ⟨1, 0, ⟨#[]⟩, [], [], 0, 0, bnd0, bnd0, []⟩ [] none none none none 0 0 0 0 (fun _ => []) ⟨rfl, rfl, rfl, rfl, (fun _ h => by cases h), (fun _ h => by cases h), Nat.zero_le _, (fun _ h => by cases h), Nat.zero_le _, Nat.zero_le _, Nat.zero_le _⟩ (Nat.zero_le _) (Slc.nil _) (Slc.nil _) (Slc.nil _) (fun h => absurd rfl h) (fun _ _ h => by cases h)

def gone0 (fn T : ByteArray) : List Value := [.int .i64 1, .string fn, .string T, .int .i64 0, .bool false, .bool false, .string ⟨#[]⟩, .bool false, .bool false, .string ⟨#[]⟩, .slice none 0 0, .slice none 0 0]
theorem gone_val (w : World) (B : Nat) (fn T : ByteArray) : NVal w B (gone0 fn T) (gone fn T) := leaf_val w B 1 0 fn T bnd0 bnd0 rfl rfl
theorem over_val {w : World} {B b m c1 c2 : Nat} {k n : Int} {occ : List Int} {A1 : Option Addr} {fn T : ByteArray} (hm2 : m ≤ 2) (hk : (Lit.int .i64 k).wf = true) (hn : (Lit.int .i64 n).wf = true) (ho : ∀ o ∈ occ, (Lit.int .i64 o).wf = true) (hol : occ.length ≤ 1) (h1 : Slc w B A1 (ints occ)) (hb : b < B)
    (hc : ∀ i, i < m → ∀ j u, (gone0 fn T)[j]? = some u → w.cell? ⟨b, 0 + i * 12 + j, none⟩ = some u) :
    NVal w B [.int .i64 k, .string ⟨#[]⟩, .string ⟨#[]⟩, .int .i64 n, .bool false, .bool false, .string ⟨#[]⟩, .bool false, .bool false, .string ⟨#[]⟩, .slice A1 occ.length c1, .slice (some ⟨b, 0, none⟩) m c2] (over k n occ (List.replicate m (gone fn T))) := by
  have key := NVal.mk (w := w) (B := B) ⟨k, ⟨#[]⟩, ⟨#[]⟩, n, bnd0, bnd0, occ⟩ (List.replicate m (gone fn T)) A1 (some ⟨b, 0, none⟩) c1 c2 (fun _ => gone0 fn T) ⟨hk, hn, ho, by show occ.length ≤ maxLen; unfold maxLen; omega⟩ (by rw [List.length_replicate]; unfold maxLen; omega) h1
    (fun _ => ⟨b, 0, rfl, hb, fun i hi => hc i (by rwa [List.length_replicate] at hi)⟩) (fun i q hq => by
      have := List.eq_of_mem_replicate (List.mem_of_getElem? hq)
      subst this
      exact gone_val w B fn T)
  rw [List.length_replicate] at key
  exact key
def xcsOf (h : Nat) (fn T : ByteArray) (i : Nat) : List Value := match i with
  | 0 => [.int .i64 1, .string fn, .string T, .int .i64 0, .bool false, .bool false, .string ⟨#[]⟩, .bool false, .bool false, .string ⟨#[]⟩, .slice none 0 0, .slice none 0 0]
  | 1 => [.int .i64 13, .string ⟨#[]⟩, .string ⟨#[]⟩, .int .i64 0, .bool false, .bool false, .string ⟨#[]⟩, .bool false, .bool false, .string ⟨#[]⟩, .slice none 0 0, .slice (some ⟨h, 0, none⟩) 1 1]
  | 2 => [.int .i64 14, .string ⟨#[]⟩, .string ⟨#[]⟩, .int .i64 5, .bool false, .bool false, .string ⟨#[]⟩, .bool false, .bool false, .string ⟨#[]⟩, .slice none 0 0, .slice (some ⟨h + 1, 0, none⟩) 1 1]
  | 3 => [.int .i64 15, .string ⟨#[]⟩, .string ⟨#[]⟩, .int .i64 5, .bool false, .bool false, .string ⟨#[]⟩, .bool false, .bool false, .string ⟨#[]⟩, .slice none 0 0, .slice (some ⟨h + 2, 0, none⟩) 1 1]
  | 4 => [.int .i64 12, .string ⟨#[]⟩, .string ⟨#[]⟩, .int .i64 0, .bool false, .bool false, .string ⟨#[]⟩, .bool false, .bool false, .string ⟨#[]⟩, .slice none 0 0, .slice (some ⟨h + 3, 0, none⟩) 2 2]
  | _ => [.int .i64 9, .string ⟨#[]⟩, .string ⟨#[]⟩, .int .i64 2, .bool false, .bool false, .string ⟨#[]⟩, .bool false, .bool false, .string ⟨#[]⟩, .slice (some ⟨h + 5, 0, none⟩) 1 1, .slice (some ⟨h + 4, 0, none⟩) 1 1]
theorem van_rows {W7 W8 : World} {fn T : ByteArray} (hW8 : W8 = ((((((W7.alloc (.cells #[.int .i64 1, .string fn, .string T, .int .i64 0, .bool false, .bool false, .string ⟨#[]⟩, .bool false, .bool false, .string ⟨#[]⟩, .slice none 0 0, .slice none 0 0] 39)).alloc (.cells #[.int .i64 1, .string fn, .string T, .int .i64 0, .bool false, .bool false, .string ⟨#[]⟩, .bool false, .bool false, .string ⟨#[]⟩, .slice none 0 0, .slice none 0 0] 39)).alloc (.cells #[.int .i64 1, .string fn, .string T, .int .i64 0, .bool false, .bool false, .string ⟨#[]⟩, .bool false, .bool false, .string ⟨#[]⟩, .slice none 0 0, .slice none 0 0] 39)).alloc (.cells #[.int .i64 1, .string fn, .string T, .int .i64 0, .bool false, .bool false, .string ⟨#[]⟩, .bool false, .bool false, .string ⟨#[]⟩, .slice none 0 0, .slice none 0 0, .int .i64 1, .string fn, .string T, .int .i64 0, .bool false, .bool false, .string ⟨#[]⟩, .bool false, .bool false, .string ⟨#[]⟩, .slice none 0 0, .slice none 0 0] 39)).alloc (.cells #[.int .i64 1, .string fn, .string T, .int .i64 0, .bool false, .bool false, .string ⟨#[]⟩, .bool false, .bool false, .string ⟨#[]⟩, .slice none 0 0, .slice none 0 0] 39)).alloc (.cells #[.int .i64 1] 3)).alloc (.cells #[.int .i64 1, .string fn, .string T, .int .i64 0, .bool false, .bool false, .string ⟨#[]⟩, .bool false, .bool false, .string ⟨#[]⟩, .slice none 0 0, .slice none 0 0, .int .i64 13, .string ⟨#[]⟩, .string ⟨#[]⟩, .int .i64 0, .bool false, .bool false, .string ⟨#[]⟩, .bool false, .bool false, .string ⟨#[]⟩, .slice none 0 0, .slice (some ⟨W7.heap.size, 0, none⟩) 1 1, .int .i64 14, .string ⟨#[]⟩, .string ⟨#[]⟩, .int .i64 5, .bool false, .bool false, .string ⟨#[]⟩, .bool false, .bool false, .string ⟨#[]⟩, .slice none 0 0, .slice (some ⟨W7.heap.size + 1, 0, none⟩) 1 1, .int .i64 15, .string ⟨#[]⟩, .string ⟨#[]⟩, .int .i64 5, .bool false, .bool false, .string ⟨#[]⟩, .bool false, .bool false, .string ⟨#[]⟩, .slice none 0 0, .slice (some ⟨W7.heap.size + 1 + 1, 0, none⟩) 1 1, .int .i64 12, .string ⟨#[]⟩, .string ⟨#[]⟩, .int .i64 0, .bool false, .bool false, .string ⟨#[]⟩, .bool false, .bool false, .string ⟨#[]⟩, .slice none 0 0, .slice (some ⟨W7.heap.size + 1 + 1 + 1, 0, none⟩) 2 2, .int .i64 9, .string ⟨#[]⟩, .string ⟨#[]⟩, .int .i64 2, .bool false, .bool false, .string ⟨#[]⟩, .bool false, .bool false, .string ⟨#[]⟩, .slice (some ⟨W7.heap.size + 1 + 1 + 1 + 1 + 1, 0, none⟩) 1 1, .slice (some ⟨W7.heap.size + 1 + 1 + 1 + 1, 0, none⟩) 1 1] 39)) :
    ∃ xcs : Nat → List Value, (∀ i y, (vans fn T)[i]? = some y → NVal W8 W8.heap.size (xcs i) y) ∧ (∀ i, i < 6 → ∀ j u, (xcs i)[j]? = some u → W8.cell? ⟨W7.heap.size + 6, 0 + i * 12 + j, none⟩ = some u) := by
  obtain ⟨h, hh⟩ : ∃ h, h = W7.heap.size := ⟨_, rfl⟩
  rw [← hh] at hW8 ⊢
  have hs : W8.heap.size = h + 7 := by rw [hW8]; simp only [World.size_alloc]; omega
  have K0 : Blk W8 (h) 39 #[.int .i64 1, .string fn, .string T, .int .i64 0, .bool false, .bool false, .string ⟨#[]⟩, .bool false, .bool false, .string ⟨#[]⟩, .slice none 0 0, .slice none 0 0] := by
    rw [hW8]
    have k := Blk.new W7 39 #[.int .i64 1, .string fn, .string T, .int .i64 0, .bool false, .bool false, .string ⟨#[]⟩, .bool false, .bool false, .string ⟨#[]⟩, .slice none 0 0, .slice none 0 0]
    rw [show W7.heap.size = h by (try simp only [World.size_alloc]); omega] at k
    exact ((((((k.alloc _).alloc _).alloc _).alloc _).alloc _).alloc _)
  have K1 : Blk W8 (h + 1) 39 #[.int .i64 1, .string fn, .string T, .int .i64 0, .bool false, .bool false, .string ⟨#[]⟩, .bool false, .bool false, .string ⟨#[]⟩, .slice none 0 0, .slice none 0 0] := by
    rw [hW8]
    have k := Blk.new (W7.alloc (.cells #[.int .i64 1, .string fn, .string T, .int .i64 0, .bool false, .bool false, .string ⟨#[]⟩, .bool false, .bool false, .string ⟨#[]⟩, .slice none 0 0, .slice none 0 0] 39)) 39 #[.int .i64 1, .string fn, .string T, .int .i64 0, .bool false, .bool false, .string ⟨#[]⟩, .bool false, .bool false, .string ⟨#[]⟩, .slice none 0 0, .slice none 0 0]
    rw [show (W7.alloc (.cells #[.int .i64 1, .string fn, .string T, .int .i64 0, .bool false, .bool false, .string ⟨#[]⟩, .bool false, .bool false, .string ⟨#[]⟩, .slice none 0 0, .slice none 0 0] 39)).heap.size = h + 1 by (try simp only [World.size_alloc]); omega] at k
    exact (((((k.alloc _).alloc _).alloc _).alloc _).alloc _)
  have K2 : Blk W8 (h + 2) 39 #[.int .i64 1, .string fn, .string T, .int .i64 0, .bool false, .bool false, .string ⟨#[]⟩, .bool false, .bool false, .string ⟨#[]⟩, .slice none 0 0, .slice none 0 0] := by
    rw [hW8]
    have k := Blk.new ((W7.alloc (.cells #[.int .i64 1, .string fn, .string T, .int .i64 0, .bool false, .bool false, .string ⟨#[]⟩, .bool false, .bool false, .string ⟨#[]⟩, .slice none 0 0, .slice none 0 0] 39)).alloc (.cells #[.int .i64 1, .string fn, .string T, .int .i64 0, .bool false, .bool false, .string ⟨#[]⟩, .bool false, .bool false, .string ⟨#[]⟩, .slice none 0 0, .slice none 0 0] 39)) 39 #[.int .i64 1, .string fn, .string T, .int .i64 0, .bool false, .bool false, .string ⟨#[]⟩, .bool false, .bool false, .string ⟨#[]⟩, .slice none 0 0, .slice none 0 0]
    rw [show ((W7.alloc (.cells #[.int .i64 1, .string fn, .string T, .int .i64 0, .bool false, .bool false, .string ⟨#[]⟩, .bool false, .bool false, .string ⟨#[]⟩, .slice none 0 0, .slice none 0 0] 39)).alloc (.cells #[.int .i64 1, .string fn, .string T, .int .i64 0, .bool false, .bool false, .string ⟨#[]⟩, .bool false, .bool false, .string ⟨#[]⟩, .slice none 0 0, .slice none 0 0] 39)).heap.size = h + 2 by (try simp only [World.size_alloc]); omega] at k
    exact ((((k.alloc _).alloc _).alloc _).alloc _)
  have K3 : Blk W8 (h + 3) 39 #[.int .i64 1, .string fn, .string T, .int .i64 0, .bool false, .bool false, .string ⟨#[]⟩, .bool false, .bool false, .string ⟨#[]⟩, .slice none 0 0, .slice none 0 0, .int .i64 1, .string fn, .string T, .int .i64 0, .bool false, .bool false, .string ⟨#[]⟩, .bool false, .bool false, .string ⟨#[]⟩, .slice none 0 0, .slice none 0 0] := by
    rw [hW8]
    have k := Blk.new (((W7.alloc (.cells #[.int .i64 1, .string fn, .string T, .int .i64 0, .bool false, .bool false, .string ⟨#[]⟩, .bool false, .bool false, .string ⟨#[]⟩, .slice none 0 0, .slice none 0 0] 39)).alloc (.cells #[.int .i64 1, .string fn, .string T, .int .i64 0, .bool false, .bool false, .string ⟨#[]⟩, .bool false, .bool false, .string ⟨#[]⟩, .slice none 0 0, .slice none 0 0] 39)).alloc (.cells #[.int .i64 1, .string fn, .string T, .int .i64 0, .bool false, .bool false, .string ⟨#[]⟩, .bool false, .bool false, .string ⟨#[]⟩, .slice none 0 0, .slice none 0 0] 39)) 39 #[.int .i64 1, .string fn, .string T, .int .i64 0, .bool false, .bool false, .string ⟨#[]⟩, .bool false, .bool false, .string ⟨#[]⟩, .slice none 0 0, .slice none 0 0, .int .i64 1, .string fn, .string T, .int .i64 0, .bool false, .bool false, .string ⟨#[]⟩, .bool false, .bool false, .string ⟨#[]⟩, .slice none 0 0, .slice none 0 0]
    rw [show (((W7.alloc (.cells #[.int .i64 1, .string fn, .string T, .int .i64 0, .bool false, .bool false, .string ⟨#[]⟩, .bool false, .bool false, .string ⟨#[]⟩, .slice none 0 0, .slice none 0 0] 39)).alloc (.cells #[.int .i64 1, .string fn, .string T, .int .i64 0, .bool false, .bool false, .string ⟨#[]⟩, .bool false, .bool false, .string ⟨#[]⟩, .slice none 0 0, .slice none 0 0] 39)).alloc (.cells #[.int .i64 1, .string fn, .string T, .int .i64 0, .bool false, .bool false, .string ⟨#[]⟩, .bool false, .bool false, .string ⟨#[]⟩, .slice none 0 0, .slice none 0 0] 39)).heap.size = h + 3 by (try simp only [World.size_alloc]); omega] at k
    exact (((k.alloc _).alloc _).alloc _)
  have K4 : Blk W8 (h + 4) 39 #[.int .i64 1, .string fn, .string T, .int .i64 0, .bool false, .bool false, .string ⟨#[]⟩, .bool false, .bool false, .string ⟨#[]⟩, .slice none 0 0, .slice none 0 0] := by
    rw [hW8]
    have k := Blk.new ((((W7.alloc (.cells #[.int .i64 1, .string fn, .string T, .int .i64 0, .bool false, .bool false, .string ⟨#[]⟩, .bool false, .bool false, .string ⟨#[]⟩, .slice none 0 0, .slice none 0 0] 39)).alloc (.cells #[.int .i64 1, .string fn, .string T, .int .i64 0, .bool false, .bool false, .string ⟨#[]⟩, .bool false, .bool false, .string ⟨#[]⟩, .slice none 0 0, .slice none 0 0] 39)).alloc (.cells #[.int .i64 1, .string fn, .string T, .int .i64 0, .bool false, .bool false, .string ⟨#[]⟩, .bool false, .bool false, .string ⟨#[]⟩, .slice none 0 0, .slice none 0 0] 39)).alloc (.cells #[.int .i64 1, .string fn, .string T, .int .i64 0, .bool false, .bool false, .string ⟨#[]⟩, .bool false, .bool false, .string ⟨#[]⟩, .slice none 0 0, .slice none 0 0, .int .i64 1, .string fn, .string T, .int .i64 0, .bool false, .bool false, .string ⟨#[]⟩, .bool false, .bool false, .string ⟨#[]⟩, .slice none 0 0, .slice none 0 0] 39)) 39 #[.int .i64 1, .string fn, .string T, .int .i64 0, .bool false, .bool false, .string ⟨#[]⟩, .bool false, .bool false, .string ⟨#[]⟩, .slice none 0 0, .slice none 0 0]
    rw [show ((((W7.alloc (.cells #[.int .i64 1, .string fn, .string T, .int .i64 0, .bool false, .bool false, .string ⟨#[]⟩, .bool false, .bool false, .string ⟨#[]⟩, .slice none 0 0, .slice none 0 0] 39)).alloc (.cells #[.int .i64 1, .string fn, .string T, .int .i64 0, .bool false, .bool false, .string ⟨#[]⟩, .bool false, .bool false, .string ⟨#[]⟩, .slice none 0 0, .slice none 0 0] 39)).alloc (.cells #[.int .i64 1, .string fn, .string T, .int .i64 0, .bool false, .bool false, .string ⟨#[]⟩, .bool false, .bool false, .string ⟨#[]⟩, .slice none 0 0, .slice none 0 0] 39)).alloc (.cells #[.int .i64 1, .string fn, .string T, .int .i64 0, .bool false, .bool false, .string ⟨#[]⟩, .bool false, .bool false, .string ⟨#[]⟩, .slice none 0 0, .slice none 0 0, .int .i64 1, .string fn, .string T, .int .i64 0, .bool false, .bool false, .string ⟨#[]⟩, .bool false, .bool false, .string ⟨#[]⟩, .slice none 0 0, .slice none 0 0] 39)).heap.size = h + 4 by (try simp only [World.size_alloc]); omega] at k
    exact ((k.alloc _).alloc _)
  have K5 : Blk W8 (h + 5) 3 #[.int .i64 1] := by
    rw [hW8]
    have k := Blk.new (((((W7.alloc (.cells #[.int .i64 1, .string fn, .string T, .int .i64 0, .bool false, .bool false, .string ⟨#[]⟩, .bool false, .bool false, .string ⟨#[]⟩, .slice none 0 0, .slice none 0 0] 39)).alloc (.cells #[.int .i64 1, .string fn, .string T, .int .i64 0, .bool false, .bool false, .string ⟨#[]⟩, .bool false, .bool false, .string ⟨#[]⟩, .slice none 0 0, .slice none 0 0] 39)).alloc (.cells #[.int .i64 1, .string fn, .string T, .int .i64 0, .bool false, .bool false, .string ⟨#[]⟩, .bool false, .bool false, .string ⟨#[]⟩, .slice none 0 0, .slice none 0 0] 39)).alloc (.cells #[.int .i64 1, .string fn, .string T, .int .i64 0, .bool false, .bool false, .string ⟨#[]⟩, .bool false, .bool false, .string ⟨#[]⟩, .slice none 0 0, .slice none 0 0, .int .i64 1, .string fn, .string T, .int .i64 0, .bool false, .bool false, .string ⟨#[]⟩, .bool false, .bool false, .string ⟨#[]⟩, .slice none 0 0, .slice none 0 0] 39)).alloc (.cells #[.int .i64 1, .string fn, .string T, .int .i64 0, .bool false, .bool false, .string ⟨#[]⟩, .bool false, .bool false, .string ⟨#[]⟩, .slice none 0 0, .slice none 0 0] 39)) 3 #[.int .i64 1]
    rw [show (((((W7.alloc (.cells #[.int .i64 1, .string fn, .string T, .int .i64 0, .bool false, .bool false, .string ⟨#[]⟩, .bool false, .bool false, .string ⟨#[]⟩, .slice none 0 0, .slice none 0 0] 39)).alloc (.cells #[.int .i64 1, .string fn, .string T, .int .i64 0, .bool false, .bool false, .string ⟨#[]⟩, .bool false, .bool false, .string ⟨#[]⟩, .slice none 0 0, .slice none 0 0] 39)).alloc (.cells #[.int .i64 1, .string fn, .string T, .int .i64 0, .bool false, .bool false, .string ⟨#[]⟩, .bool false, .bool false, .string ⟨#[]⟩, .slice none 0 0, .slice none 0 0] 39)).alloc (.cells #[.int .i64 1, .string fn, .string T, .int .i64 0, .bool false, .bool false, .string ⟨#[]⟩, .bool false, .bool false, .string ⟨#[]⟩, .slice none 0 0, .slice none 0 0, .int .i64 1, .string fn, .string T, .int .i64 0, .bool false, .bool false, .string ⟨#[]⟩, .bool false, .bool false, .string ⟨#[]⟩, .slice none 0 0, .slice none 0 0] 39)).alloc (.cells #[.int .i64 1, .string fn, .string T, .int .i64 0, .bool false, .bool false, .string ⟨#[]⟩, .bool false, .bool false, .string ⟨#[]⟩, .slice none 0 0, .slice none 0 0] 39)).heap.size = h + 5 by (try simp only [World.size_alloc]); omega] at k
    exact (k.alloc _)
  have K6 : Blk W8 (h + 6) 39 #[.int .i64 1, .string fn, .string T, .int .i64 0, .bool false, .bool false, .string ⟨#[]⟩, .bool false, .bool false, .string ⟨#[]⟩, .slice none 0 0, .slice none 0 0, .int .i64 13, .string ⟨#[]⟩, .string ⟨#[]⟩, .int .i64 0, .bool false, .bool false, .string ⟨#[]⟩, .bool false, .bool false, .string ⟨#[]⟩, .slice none 0 0, .slice (some ⟨h, 0, none⟩) 1 1, .int .i64 14, .string ⟨#[]⟩, .string ⟨#[]⟩, .int .i64 5, .bool false, .bool false, .string ⟨#[]⟩, .bool false, .bool false, .string ⟨#[]⟩, .slice none 0 0, .slice (some ⟨h + 1, 0, none⟩) 1 1, .int .i64 15, .string ⟨#[]⟩, .string ⟨#[]⟩, .int .i64 5, .bool false, .bool false, .string ⟨#[]⟩, .bool false, .bool false, .string ⟨#[]⟩, .slice none 0 0, .slice (some ⟨h + 2, 0, none⟩) 1 1, .int .i64 12, .string ⟨#[]⟩, .string ⟨#[]⟩, .int .i64 0, .bool false, .bool false, .string ⟨#[]⟩, .bool false, .bool false, .string ⟨#[]⟩, .slice none 0 0, .slice (some ⟨h + 3, 0, none⟩) 2 2, .int .i64 9, .string ⟨#[]⟩, .string ⟨#[]⟩, .int .i64 2, .bool false, .bool false, .string ⟨#[]⟩, .bool false, .bool false, .string ⟨#[]⟩, .slice (some ⟨h + 5, 0, none⟩) 1 1, .slice (some ⟨h + 4, 0, none⟩) 1 1] := by
    rw [hW8]
    have k := Blk.new ((((((W7.alloc (.cells #[.int .i64 1, .string fn, .string T, .int .i64 0, .bool false, .bool false, .string ⟨#[]⟩, .bool false, .bool false, .string ⟨#[]⟩, .slice none 0 0, .slice none 0 0] 39)).alloc (.cells #[.int .i64 1, .string fn, .string T, .int .i64 0, .bool false, .bool false, .string ⟨#[]⟩, .bool false, .bool false, .string ⟨#[]⟩, .slice none 0 0, .slice none 0 0] 39)).alloc (.cells #[.int .i64 1, .string fn, .string T, .int .i64 0, .bool false, .bool false, .string ⟨#[]⟩, .bool false, .bool false, .string ⟨#[]⟩, .slice none 0 0, .slice none 0 0] 39)).alloc (.cells #[.int .i64 1, .string fn, .string T, .int .i64 0, .bool false, .bool false, .string ⟨#[]⟩, .bool false, .bool false, .string ⟨#[]⟩, .slice none 0 0, .slice none 0 0, .int .i64 1, .string fn, .string T, .int .i64 0, .bool false, .bool false, .string ⟨#[]⟩, .bool false, .bool false, .string ⟨#[]⟩, .slice none 0 0, .slice none 0 0] 39)).alloc (.cells #[.int .i64 1, .string fn, .string T, .int .i64 0, .bool false, .bool false, .string ⟨#[]⟩, .bool false, .bool false, .string ⟨#[]⟩, .slice none 0 0, .slice none 0 0] 39)).alloc (.cells #[.int .i64 1] 3)) 39 #[.int .i64 1, .string fn, .string T, .int .i64 0, .bool false, .bool false, .string ⟨#[]⟩, .bool false, .bool false, .string ⟨#[]⟩, .slice none 0 0, .slice none 0 0, .int .i64 13, .string ⟨#[]⟩, .string ⟨#[]⟩, .int .i64 0, .bool false, .bool false, .string ⟨#[]⟩, .bool false, .bool false, .string ⟨#[]⟩, .slice none 0 0, .slice (some ⟨h, 0, none⟩) 1 1, .int .i64 14, .string ⟨#[]⟩, .string ⟨#[]⟩, .int .i64 5, .bool false, .bool false, .string ⟨#[]⟩, .bool false, .bool false, .string ⟨#[]⟩, .slice none 0 0, .slice (some ⟨h + 1, 0, none⟩) 1 1, .int .i64 15, .string ⟨#[]⟩, .string ⟨#[]⟩, .int .i64 5, .bool false, .bool false, .string ⟨#[]⟩, .bool false, .bool false, .string ⟨#[]⟩, .slice none 0 0, .slice (some ⟨h + 2, 0, none⟩) 1 1, .int .i64 12, .string ⟨#[]⟩, .string ⟨#[]⟩, .int .i64 0, .bool false, .bool false, .string ⟨#[]⟩, .bool false, .bool false, .string ⟨#[]⟩, .slice none 0 0, .slice (some ⟨h + 3, 0, none⟩) 2 2, .int .i64 9, .string ⟨#[]⟩, .string ⟨#[]⟩, .int .i64 2, .bool false, .bool false, .string ⟨#[]⟩, .bool false, .bool false, .string ⟨#[]⟩, .slice (some ⟨h + 5, 0, none⟩) 1 1, .slice (some ⟨h + 4, 0, none⟩) 1 1]
    rw [show ((((((W7.alloc (.cells #[.int .i64 1, .string fn, .string T, .int .i64 0, .bool false, .bool false, .string ⟨#[]⟩, .bool false, .bool false, .string ⟨#[]⟩, .slice none 0 0, .slice none 0 0] 39)).alloc (.cells #[.int .i64 1, .string fn, .string T, .int .i64 0, .bool false, .bool false, .string ⟨#[]⟩, .bool false, .bool false, .string ⟨#[]⟩, .slice none 0 0, .slice none 0 0] 39)).alloc (.cells #[.int .i64 1, .string fn, .string T, .int .i64 0, .bool false, .bool false, .string ⟨#[]⟩, .bool false, .bool false, .string ⟨#[]⟩, .slice none 0 0, .slice none 0 0] 39)).alloc (.cells #[.int .i64 1, .string fn, .string T, .int .i64 0, .bool false, .bool false, .string ⟨#[]⟩, .bool false, .bool false, .string ⟨#[]⟩, .slice none 0 0, .slice none 0 0, .int .i64 1, .string fn, .string T, .int .i64 0, .bool false, .bool false, .string ⟨#[]⟩, .bool false, .bool false, .string ⟨#[]⟩, .slice none 0 0, .slice none 0 0] 39)).alloc (.cells #[.int .i64 1, .string fn, .string T, .int .i64 0, .bool false, .bool false, .string ⟨#[]⟩, .bool false, .bool false, .string ⟨#[]⟩, .slice none 0 0, .slice none 0 0] 39)).alloc (.cells #[.int .i64 1] 3)).heap.size = h + 6 by (try simp only [World.size_alloc]); omega] at k
    exact k
  refine ⟨xcsOf h fn T, fun i y hy => ?_, fun i hi j u hu => ?_⟩
  · have c1 : ∀ b, Blk W8 b 39 #[.int .i64 1, .string fn, .string T, .int .i64 0, .bool false, .bool false, .string ⟨#[]⟩, .bool false, .bool false, .string ⟨#[]⟩, .slice none 0 0, .slice none 0 0] → ∀ i, i < 1 → ∀ j u, (gone0 fn T)[j]? = some u → W8.cell? ⟨b, 0 + i * 12 + j, none⟩ = some u := fun b hb i hi j u hu => by
      obtain rfl : i = 0 := by omega
      rw [show 0 + 0 * 12 + j = j by omega, hb.cell j]
      simpa [gone0] using hu
    rcases (by have := (List.getElem?_eq_some_iff.1 hy).1; simp [vans] at this; omega : i = 0 ∨ i = 1 ∨ i = 2 ∨ i = 3 ∨ i = 4 ∨ i = 5) with rfl | rfl | rfl | rfl | rfl | rfl
    · cases hy; exact gone_val W8 _ fn T
    · cases hy; exact over_val (m := 1) (occ := []) (by decide) rfl rfl (fun _ h => by cases h) (by decide) (Slc.nil _) (by omega) (c1 _ K0)
    · cases hy; exact over_val (m := 1) (occ := []) (by decide) rfl rfl (fun _ h => by cases h) (by decide) (Slc.nil _) (by omega) (c1 _ K1)
    · cases hy; exact over_val (m := 1) (occ := []) (by decide) rfl rfl (fun _ h => by cases h) (by decide) (Slc.nil _) (by omega) (c1 _ K2)
    · cases hy
      refine over_val (m := 2) (occ := []) (by decide) rfl rfl (fun _ h => by cases h) (by decide) (Slc.nil _) (by omega) fun i hi j u hu => ?_
      have hj : j < 12 := (List.getElem?_eq_some_iff.1 hu).1
      have h2 := fl_at (kc := fun _ => gone0 fn T) (sz := 12) 2 0 i j (fun _ _ _ => rfl) hi hj
      rw [show 0 + i * 12 + j = i * 12 + j by omega, K3.cell (i * 12 + j), List.getElem?_toArray]
      exact h2.trans hu
    · cases hy
      refine over_val (m := 1) (occ := [1]) (by decide) rfl rfl (fun _ h => by simp at h; subst h; rfl) (by decide) (fun _ => ⟨h + 5, 0, rfl, by omega, fun j u hu => ?_⟩) (by omega) (c1 _ K4)
      rw [Nat.zero_add, K5.cell j]
      simpa [ints] using hu
  · have hj : j < 12 := by
      have h1 := (List.getElem?_eq_some_iff.1 hu).1
      have h2 : (xcsOf h fn T i).length = 12 := by unfold xcsOf; split <;> rfl
      omega
    have h2 := fl_at (kc := xcsOf h fn T) (sz := 12) 6 0 i j (fun i _ _ => by unfold xcsOf; split <;> rfl) hi hj
    rw [show 0 + i * 12 + j = i * 12 + j by omega, K6.cell (i * 12 + j), List.getElem?_toArray]
    rw [Nat.zero_add, hu] at h2
    exact h2
set_option maxHeartbeats 8000000 in
theorem rest {u0 u1 u2 u8 u9 u10 u11 u12 u15 u16 u17 u18 u19 u20 u21 u22 u23 u24 u25 u26 u27 u28 u29 u30 u31 u32 u33 u34 u35 u36 u37 u38 u39 u40 u41 u42 u43 u44 u45 u46 u47 u48 u49 u50 u51 u52 u53 u54 u55 u56 u57 u58 u59 u60 u61 u62 u63 u64 u65 u66 u67 u68 u69 u70 u71 u72 u73 u74 u75 u76 u77 u78 u79 u80 u81 u82 u83 u84 u85 u86 u87 u88 u89 u90 u91 u92 u93 u94 u95 u96 u97 u98 u99 u100 u101 u102 u103 u104 u105 u106 u107 u108 u109 u110 u111 u112 u113 u114 u115 u116 u117 u118 u119 u120 u121 u122 u123 u124 : Value} {w V : World} {fl c gn gf : Nat} {fgo : Option Addr} {fn T : ByteArray} {at_ oc : Int} {no0 no1 no2 no3 no4 no5 no6 no7 no8 no9 no10 no11 : Value} (hB : Below w.heap.size w V) (s0 : V.cell? ⟨w.heap.size, 0, none⟩ = some (.slice fgo fl c)) (KN : Blk V gn 39 #[no0, no1, no2, no3, no4, no5, no6, no7, no8, no9, no10, no11]) (n0 : V.cell? ⟨gf, 0, none⟩ = some (.string fn))
    (BT : ∀ W, Below V.heap.size V W → ∀ x csx, x ∈ vans fn T → NVal W W.heap.size csx x → Calls Tryz.prog 16 #[.agg #[.slice fgo fl c], .agg csx.toArray] W (IsT noneQ .nilIface W))
    (KP : ∀ W, Below V.heap.size V W → ∀ x csx, x ∈ vans fn T → NVal W W.heap.size csx x → Calls Tryz.prog 36 #[.agg #[.slice fgo fl c], .agg #[no0, no1, no2, no3, no4, no5, no6, no7, no8, no9, no10, no11], .agg csx.toArray, .int .i64 at_, .int .i64 oc] W fun e w' => e = .returned (.bool true) ∧ Below W.heap.size W w') :
    Code.wp Tryz.prog (tailV 7) (bodyPost Tryz.prog Tryz.f7 fun e w' => e = .returned (.bool true) ∧ Below w.heap.size w w') ⟨#[u0, u1, u2, .string T, .int .i64 at_, .int .i64 oc, .pointer (some ⟨w.heap.size, 0, none⟩), .pointer (some ⟨gn, 0, none⟩), u8, u9, u10, u11, u12, .bool true, .pointer (some ⟨gf, 0, none⟩), u15, u16, u17, u18, u19, u20, u21, u22, u23, u24, u25, u26, u27, u28, u29, u30, u31, u32, u33, u34, u35, u36, u37, u38, u39, u40, u41, u42, u43, u44, u45, u46, u47, u48, u49, u50, u51, u52, u53, u54, u55, u56, u57, u58, u59, u60, u61, u62, u63, u64, u65, u66, u67, u68, u69, u70, u71, u72, u73, u74, u75, u76, u77, u78, u79, u80, u81, u82, u83, u84, u85, u86, u87, u88, u89, u90, u91, u92, u93, u94, u95, u96, u97, u98, u99, u100, u101, u102, u103, u104, u105, u106, u107, u108, u109, u110, u111, u112, u113, u114, u115, u116, u117, u118, u119, u120, u121, u122, u123, u124], []⟩ V := by
  unfold tailV
  conv => arg 2; whnf
  have HBT := Lib.hid BT
  have HKP := Lib.hid KP
  have HS0 := Lib.hid s0
  have HKN := Lib.hid KN
  clear BT KP s0 KN
  go_upto_region 8 with fail
  obtain ⟨W7, hW7⟩ : ∃ W, W = V.alloc (.cells #[.int .i64 1, .string fn, .string T, .int .i64 0, .bool false, .bool false, .string ⟨#[]⟩, .bool false, .bool false, .string ⟨#[]⟩, .slice none 0 0, .slice none 0 0] 39) := ⟨_, rfl⟩
  rw [← hW7]
  have KG : Blk W7 V.heap.size 39 #[.int .i64 1, .string fn, .string T, .int .i64 0, .bool false, .bool false, .string ⟨#[]⟩, .bool false, .bool false, .string ⟨#[]⟩, .slice none 0 0, .slice none 0 0] := by rw [hW7]; exact Blk.new V _ _
  have hb7 : Below V.heap.size V W7 := by rw [hW7]; exact balloc (Below.refl _ _) _
  obtain ⟨z0, z1, z2, z3, z4, z5, z6, z7, z8, z9, z10, z11⟩ := nrow KG
  have L1 := fun (o1 : Obj) => nrow (KG.alloc o1)
  have l1_0 := fun (o1 : Obj) => (L1 o1).1
  have l1_1 := fun (o1 : Obj) => (L1 o1).2.1
  have l1_2 := fun (o1 : Obj) => (L1 o1).2.2.1
  have l1_3 := fun (o1 : Obj) => (L1 o1).2.2.2.1
  have l1_4 := fun (o1 : Obj) => (L1 o1).2.2.2.2.1
  have l1_5 := fun (o1 : Obj) => (L1 o1).2.2.2.2.2.1
  have l1_6 := fun (o1 : Obj) => (L1 o1).2.2.2.2.2.2.1
  have l1_7 := fun (o1 : Obj) => (L1 o1).2.2.2.2.2.2.2.1
  have l1_8 := fun (o1 : Obj) => (L1 o1).2.2.2.2.2.2.2.2.1
  have l1_9 := fun (o1 : Obj) => (L1 o1).2.2.2.2.2.2.2.2.2.1
  have l1_10 := fun (o1 : Obj) => (L1 o1).2.2.2.2.2.2.2.2.2.2.1
  have l1_11 := fun (o1 : Obj) => (L1 o1).2.2.2.2.2.2.2.2.2.2.2
  clear L1
  have L2 := fun (o1 o2 : Obj) => nrow ((KG.alloc o1).alloc o2)
  have l2_0 := fun (o1 o2 : Obj) => (L2 o1 o2).1
  have l2_1 := fun (o1 o2 : Obj) => (L2 o1 o2).2.1
  have l2_2 := fun (o1 o2 : Obj) => (L2 o1 o2).2.2.1
  have l2_3 := fun (o1 o2 : Obj) => (L2 o1 o2).2.2.2.1
  have l2_4 := fun (o1 o2 : Obj) => (L2 o1 o2).2.2.2.2.1
  have l2_5 := fun (o1 o2 : Obj) => (L2 o1 o2).2.2.2.2.2.1
  have l2_6 := fun (o1 o2 : Obj) => (L2 o1 o2).2.2.2.2.2.2.1
  have l2_7 := fun (o1 o2 : Obj) => (L2 o1 o2).2.2.2.2.2.2.2.1
  have l2_8 := fun (o1 o2 : Obj) => (L2 o1 o2).2.2.2.2.2.2.2.2.1
  have l2_9 := fun (o1 o2 : Obj) => (L2 o1 o2).2.2.2.2.2.2.2.2.2.1
  have l2_10 := fun (o1 o2 : Obj) => (L2 o1 o2).2.2.2.2.2.2.2.2.2.2.1
  have l2_11 := fun (o1 o2 : Obj) => (L2 o1 o2).2.2.2.2.2.2.2.2.2.2.2
  clear L2
  have L3 := fun (o1 o2 o3 : Obj) => nrow (((KG.alloc o1).alloc o2).alloc o3)
  have l3_0 := fun (o1 o2 o3 : Obj) => (L3 o1 o2 o3).1
  have l3_1 := fun (o1 o2 o3 : Obj) => (L3 o1 o2 o3).2.1
  have l3_2 := fun (o1 o2 o3 : Obj) => (L3 o1 o2 o3).2.2.1
  have l3_3 := fun (o1 o2 o3 : Obj) => (L3 o1 o2 o3).2.2.2.1
  have l3_4 := fun (o1 o2 o3 : Obj) => (L3 o1 o2 o3).2.2.2.2.1
  have l3_5 := fun (o1 o2 o3 : Obj) => (L3 o1 o2 o3).2.2.2.2.2.1
  have l3_6 := fun (o1 o2 o3 : Obj) => (L3 o1 o2 o3).2.2.2.2.2.2.1
  have l3_7 := fun (o1 o2 o3 : Obj) => (L3 o1 o2 o3).2.2.2.2.2.2.2.1
  have l3_8 := fun (o1 o2 o3 : Obj) => (L3 o1 o2 o3).2.2.2.2.2.2.2.2.1
  have l3_9 := fun (o1 o2 o3 : Obj) => (L3 o1 o2 o3).2.2.2.2.2.2.2.2.2.1
  have l3_10 := fun (o1 o2 o3 : Obj) => (L3 o1 o2 o3).2.2.2.2.2.2.2.2.2.2.1
  have l3_11 := fun (o1 o2 o3 : Obj) => (L3 o1 o2 o3).2.2.2.2.2.2.2.2.2.2.2
  clear L3
  have L4 := fun (o1 o2 o3 o4 : Obj) => nrow ((((KG.alloc o1).alloc o2).alloc o3).alloc o4)
  have l4_0 := fun (o1 o2 o3 o4 : Obj) => (L4 o1 o2 o3 o4).1
  have l4_1 := fun (o1 o2 o3 o4 : Obj) => (L4 o1 o2 o3 o4).2.1
  have l4_2 := fun (o1 o2 o3 o4 : Obj) => (L4 o1 o2 o3 o4).2.2.1
  have l4_3 := fun (o1 o2 o3 o4 : Obj) => (L4 o1 o2 o3 o4).2.2.2.1
  have l4_4 := fun (o1 o2 o3 o4 : Obj) => (L4 o1 o2 o3 o4).2.2.2.2.1
  have l4_5 := fun (o1 o2 o3 o4 : Obj) => (L4 o1 o2 o3 o4).2.2.2.2.2.1
  have l4_6 := fun (o1 o2 o3 o4 : Obj) => (L4 o1 o2 o3 o4).2.2.2.2.2.2.1
  have l4_7 := fun (o1 o2 o3 o4 : Obj) => (L4 o1 o2 o3 o4).2.2.2.2.2.2.2.1
  have l4_8 := fun (o1 o2 o3 o4 : Obj) => (L4 o1 o2 o3 o4).2.2.2.2.2.2.2.2.1
  have l4_9 := fun (o1 o2 o3 o4 : Obj) => (L4 o1 o2 o3 o4).2.2.2.2.2.2.2.2.2.1
  have l4_10 := fun (o1 o2 o3 o4 : Obj) => (L4 o1 o2 o3 o4).2.2.2.2.2.2.2.2.2.2.1
  have l4_11 := fun (o1 o2 o3 o4 : Obj) => (L4 o1 o2 o3 o4).2.2.2.2.2.2.2.2.2.2.2
  clear L4
  clear hW7 n0
  obtain ⟨tq, htq⟩ : ∃ t, t = noneQ := ⟨_, rfl⟩
  have HTQ := Lib.hid htq
  rw [← htq] at HBT
  have HB := Lib.hid hB
  have HB7 := Lib.hid hb7
  have KGH := Lib.hid KG
  clear htq hB hb7 KG
  go_wp2_with fail
  obtain ⟨W8, hW8⟩ : ∃ W, W = ((((((W7.alloc (.cells #[.int .i64 1, .string fn, .string T, .int .i64 0, .bool false, .bool false, .string ⟨#[]⟩, .bool false, .bool false, .string ⟨#[]⟩, .slice none 0 0, .slice none 0 0] 39)).alloc (.cells #[.int .i64 1, .string fn, .string T, .int .i64 0, .bool false, .bool false, .string ⟨#[]⟩, .bool false, .bool false, .string ⟨#[]⟩, .slice none 0 0, .slice none 0 0] 39)).alloc (.cells #[.int .i64 1, .string fn, .string T, .int .i64 0, .bool false, .bool false, .string ⟨#[]⟩, .bool false, .bool false, .string ⟨#[]⟩, .slice none 0 0, .slice none 0 0] 39)).alloc (.cells #[.int .i64 1, .string fn, .string T, .int .i64 0, .bool false, .bool false, .string ⟨#[]⟩, .bool false, .bool false, .string ⟨#[]⟩, .slice none 0 0, .slice none 0 0, .int .i64 1, .string fn, .string T, .int .i64 0, .bool false, .bool false, .string ⟨#[]⟩, .bool false, .bool false, .string ⟨#[]⟩, .slice none 0 0, .slice none 0 0] 39)).alloc (.cells #[.int .i64 1, .string fn, .string T, .int .i64 0, .bool false, .bool false, .string ⟨#[]⟩, .bool false, .bool false, .string ⟨#[]⟩, .slice none 0 0, .slice none 0 0] 39)).alloc (.cells #[.int .i64 1] 3)).alloc (.cells #[.int .i64 1, .string fn, .string T, .int .i64 0, .bool false, .bool false, .string ⟨#[]⟩, .bool false, .bool false, .string ⟨#[]⟩, .slice none 0 0, .slice none 0 0, .int .i64 13, .string ⟨#[]⟩, .string ⟨#[]⟩, .int .i64 0, .bool false, .bool false, .string ⟨#[]⟩, .bool false, .bool false, .string ⟨#[]⟩, .slice none 0 0, .slice (some ⟨W7.heap.size, 0, none⟩) 1 1, .int .i64 14, .string ⟨#[]⟩, .string ⟨#[]⟩, .int .i64 5, .bool false, .bool false, .string ⟨#[]⟩, .bool false, .bool false, .string ⟨#[]⟩, .slice none 0 0, .slice (some ⟨W7.heap.size + 1, 0, none⟩) 1 1, .int .i64 15, .string ⟨#[]⟩, .string ⟨#[]⟩, .int .i64 5, .bool false, .bool false, .string ⟨#[]⟩, .bool false, .bool false, .string ⟨#[]⟩, .slice none 0 0, .slice (some ⟨W7.heap.size + 1 + 1, 0, none⟩) 1 1, .int .i64 12, .string ⟨#[]⟩, .string ⟨#[]⟩, .int .i64 0, .bool false, .bool false, .string ⟨#[]⟩, .bool false, .bool false, .string ⟨#[]⟩, .slice none 0 0, .slice (some ⟨W7.heap.size + 1 + 1 + 1, 0, none⟩) 2 2, .int .i64 9, .string ⟨#[]⟩, .string ⟨#[]⟩, .int .i64 2, .bool false, .bool false, .string ⟨#[]⟩, .bool false, .bool false, .string ⟨#[]⟩, .slice (some ⟨W7.heap.size + 1 + 1 + 1 + 1 + 1, 0, none⟩) 1 1, .slice (some ⟨W7.heap.size + 1 + 1 + 1 + 1, 0, none⟩) 1 1] 39) := ⟨_, rfl⟩
  rw [← hW8]
  obtain ⟨xcs, HNV, HXC⟩ := van_rows hW8
  have hb78 : Below W7.heap.size W7 W8 := by rw [hW8]; exact Base.bel
  have hlb : W7.heap.size + 6 < W8.heap.size := by rw [hW8]; simp only [World.size_alloc]; omega
  have HNV := Lib.hid HNV
  have HXC := Lib.hid HXC
  have hV8 : Below V.heap.size V W8 := bchain HB7.out hb78
  have HV8 := Lib.hid hV8
  have HLB := Lib.hid hlb
  clear hW8 hb78 hlb hV8 z0 z1 z2 z3 z4 z5 z6 z7 z8 z9 z10 z11 l1_0 l1_1 l1_2 l1_3 l1_4 l1_5 l1_6 l1_7 l1_8 l1_9 l1_10 l1_11 l2_0 l2_1 l2_2 l2_3 l2_4 l2_5 l2_6 l2_7 l2_8 l2_9 l2_10 l2_11 l3_0 l3_1 l3_2 l3_3 l3_4 l3_5 l3_6 l3_7 l3_8 l3_9 l3_10 l3_11 l4_0 l4_1 l4_2 l4_3 l4_4 l4_5 l4_6 l4_7 l4_8 l4_9 l4_10 l4_11
  go_loopw [98, 13] (fun i ok wr => ∃ j : Nat, j ≤ 6 ∧ i = .int .i64 j ∧ ok = .bool true ∧ Below W8.heap.size W8 wr) (fun i _ _ => 6 - (intOf i).toNat)
  case atStart => exact ⟨0, by decide, rfl, rfl, Below.refl _ _⟩
  case round =>
    obtain ⟨j, hj, rfl, rfl, hbr⟩ := hrel
    have HBR := Lib.hid hbr
    have hVr : Below V.heap.size V wr := bchain HV8.out hbr
    have HVR := Lib.hid hVr
    clear hbr hVr
    rcases Nat.lt_or_ge j 6 with hlt | hge
    · obtain ⟨x, hx1⟩ : ∃ x, (vans fn T)[j]? = some x := ⟨_, List.getElem?_eq_getElem (by simpa [vans] using hlt)⟩
      have hq : NVal wr W8.heap.size (xcs j) x := (HNV.out j x hx1).kept HBR.out (Nat.le_refl _)
      obtain ⟨B1, B2, d1, d2, e, x0, x1, x2, x3, x4, x5, x6, x7, x8, x9, x10, x11⟩ := nkid_cells hq (g := W7.heap.size + 6) (o := 0) (i := j) (fun j' u hu => (HBR.out.cell (p := ⟨W7.heap.size + 6, 0 + j * 12 + j', none⟩) HLB.out).trans (HXC.out j hlt j' u hu))
      rw [Nat.zero_add] at x0 x1 x2 x3 x4 x5 x6 x7 x8 x9 x10 x11
      have hmem := List.mem_of_getElem? hx1
      have i1 : (j : Int) < 6 := by omega
      have i3 : j < 6 := hlt
      have i2 : (j : Int) < 9223372036854775807 := by omega
      have HQ := Lib.hid hq
      have HE := Lib.hid e
      have HMEM := Lib.hid hmem
      clear hq e hx1 hmem
      unfold ncells at HE
      go_upto_region 11 with fail
      obtain ⟨wc, hwc⟩ : ∃ W, W = wr.alloc (.cells #[.int .i64 x.h.kind, .string x.h.field, .string x.h.text, .int .i64 x.h.n, .bool x.h.lo.op, .bool x.h.lo.inn, .string x.h.lo.text, .bool x.h.hi.op, .bool x.h.hi.inn, .string x.h.hi.text, .slice B1 x.h.occur.length d1, .slice B2 x.kids.length d2] 39) := ⟨_, rfl⟩
      rw [← hwc]
      have hbc : Below wr.heap.size wr wc := by rw [hwc]; exact balloc (Below.refl _ _) _
      have KX : Blk wc wr.heap.size 39 #[.int .i64 x.h.kind, .string x.h.field, .string x.h.text, .int .i64 x.h.n, .bool x.h.lo.op, .bool x.h.lo.inn, .string x.h.lo.text, .bool x.h.hi.op, .bool x.h.hi.inn, .string x.h.hi.text, .slice B1 x.h.occur.length d1, .slice B2 x.kids.length d2] := by rw [hwc]; exact Blk.new wr _ _
      have hVc : Below V.heap.size V wc := bchain HVR.out hbc
      have lt0 : w.heap.size < V.heap.size := World.block_lt_of_cell? V _ HS0.out
      have s0 : wc.cell? ⟨w.heap.size, 0, none⟩ = some (.slice fgo fl c) := (hVc.cell (p := ⟨w.heap.size, 0, none⟩) lt0).trans HS0.out
      have BT := Lib.hid (HBT.out wc hVc x (xcs j) HMEM.out ((HQ.out.kept (hbc.mono (Nat.le_refl _)) HBR.out.size).mono (Nat.le_trans HBR.out.size hbc.size)))
      rw [HE.out] at BT
      obtain ⟨z0, z1, z2, z3, z4, z5, z6, z7, z8, z9, z10, z11⟩ := nrow KX
      clear x0 x1 x2 x3 x4 x5 x6 x7 x8 x9 x10 x11 hwc
      go_upto_region 12 with (go_at_call 16; refine BT.out.mono ?_; rintro e vp ⟨cs, rfl, hFp, hbp⟩; obtain ⟨p, pk, P1, P2, P3, P4, pc1, pc2, pc3, pc4, pkc, pw, pl, p1, p2, p3, p4, p5⟩ := hFp.val; clear pw pl p1 p2 p3 p4 p5)
      obtain ⟨Vp, hVp⟩ : ∃ W, W = vp.alloc (.cells #[.int .i64 p.kind, .int .i64 p.field, .string p.text, .slice P1 p.terms.length pc1, .slice P2 p.offs.length pc2, .int .i64 p.n, .int .u64 p.weight, .bool p.lo.op, .bool p.lo.inn, .string p.lo.text, .bool p.hi.op, .bool p.hi.inn, .string p.hi.text, .slice P3 p.occur.length pc3, .slice P4 pk.length pc4] 29) := ⟨_, rfl⟩
      rw [← hVp]
      have Kp : Blk Vp vp.heap.size 29 #[.int .i64 p.kind, .int .i64 p.field, .string p.text, .slice P1 p.terms.length pc1, .slice P2 p.offs.length pc2, .int .i64 p.n, .int .u64 p.weight, .bool p.lo.op, .bool p.lo.inn, .string p.lo.text, .bool p.hi.op, .bool p.hi.inn, .string p.hi.text, .slice P3 p.occur.length pc3, .slice P4 pk.length pc4] := by rw [hVp]; exact Blk.new vp _ _
      have Fp : Fresh 0 Vp [.int .i64 p.kind, .int .i64 p.field, .string p.text, .slice P1 p.terms.length pc1, .slice P2 p.offs.length pc2, .int .i64 p.n, .int .u64 p.weight, .bool p.lo.op, .bool p.lo.inn, .string p.lo.text, .bool p.hi.op, .bool p.hi.inn, .string p.hi.text, .slice P3 p.occur.length pc3, .slice P4 pk.length pc4] (.mk p pk) := by rw [hVp]; exact (Fresh.below hFp (balloc (Below.refl _ _) _)).mono (Nat.zero_le _)
      have hbVp : Below wc.heap.size wc Vp := by rw [hVp]; exact balloc hbp _
      have KX2 := KX.below hbVp KX.lt
      have SS := Lib.hid (same_true (cs := [.int .i64 p.kind, .int .i64 p.field, .string p.text, .slice P1 p.terms.length pc1, .slice P2 p.offs.length pc2, .int .i64 p.n, .int .u64 p.weight, .bool p.lo.op, .bool p.lo.inn, .string p.lo.text, .bool p.hi.op, .bool p.hi.inn, .string p.hi.text, .slice P3 p.occur.length pc3, .slice P4 pk.length pc4]) (cs2 := [.int .i64 1, .int .i64 0, .string ⟨#[]⟩, .slice none 0 0, .slice none 0 0, .int .i64 0, .int .u64 0, .bool false, .bool false, .string ⟨#[]⟩, .bool false, .bool false, .string ⟨#[]⟩, .slice none 0 0, .slice none 0 0]) Fp.val (by rw [HTQ.out]; exact lit_none _ _))
      clear s0 z0 z1 z2 z3 z4 z5 z6 z7 z8 z9 z10 z11 hVp hFp hbp BT Fp
      obtain ⟨z0, z1, z2, z3, z4, z5, z6, z7, z8, z9, z10, z11, z12, z13, z14⟩ := qrow Kp
      clear Kp
      generalize Value.tuple #[Value.agg #[.int .i64 p.kind, .int .i64 p.field, .string p.text, .slice P1 p.terms.length pc1, .slice P2 p.offs.length pc2, .int .i64 p.n, .int .u64 p.weight, .bool p.lo.op, .bool p.lo.inn, .string p.lo.text, .bool p.hi.op, .bool p.hi.inn, .string p.hi.text, .slice P3 p.occur.length pc3, .slice P4 pk.length pc4], Value.nilIface] = gtp
      go_upto_region 14 with (go_at_call 33; refine SS.out.mono ?_; rintro e vs ⟨rfl, hbs⟩)
      have hb5 : Below wc.heap.size wc vs := bchain hbVp hbs
      have hV5 : Below V.heap.size V vs := bchain hVc hb5
      have s0 : vs.cell? ⟨w.heap.size, 0, none⟩ = some (.slice fgo fl c) := (hV5.cell (p := ⟨w.heap.size, 0, none⟩) lt0).trans HS0.out
      have KX3 := KX2.below hbs KX2.lt
      have KN3 := HKN.out.below hV5 HKN.out.lt
      have hr5 : Below wr.heap.size wr vs := bchain hbc hb5
      have KP := Lib.hid (HKP.out vs hV5 x (xcs j) HMEM.out ((HQ.out.kept hr5 HBR.out.size).mono (Nat.le_trans HBR.out.size hr5.size)))
      rw [HE.out] at KP
      clear z0 z1 z2 z3 z4 z5 z6 z7 z8 z9 z10 z11 z12 z13 z14 SS KX2
      obtain ⟨z0, z1, z2, z3, z4, z5, z6, z7, z8, z9, z10, z11⟩ := nrow KX3
      obtain ⟨y0, y1, y2, y3, y4, y5, y6, y7, y8, y9, y10, y11⟩ := nrow KN3
      go_wp2_with (go_at_call 36; refine KP.out.mono ?_; rintro e v6 ⟨rfl, hb6⟩)
      go_roundw
      case rel => exact ⟨j + 1, by omega, by go_num, rfl, bchain HBR.out (bchain hr5 hb6)⟩
      case measure => simp [intOf]; omega
    · have i1 : ¬ ((j : Int) < 6) := by omega
      have i2 : decide ((j : Int) < 6) = false := decide_eq_false i1
      go_wp2_with fail
      go_ret
      exact ⟨rfl, bchain HB.out HVR.out⟩
end Go.Proofs.YtkcfgcdlnojaeaaGreatDoor.VanRest
