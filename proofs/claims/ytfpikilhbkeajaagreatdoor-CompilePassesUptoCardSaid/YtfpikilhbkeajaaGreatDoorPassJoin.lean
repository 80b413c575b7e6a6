/-
  A program that compile hands back passes the verifier, and its code reads back.
-/
import Derived.Test.YtfpikilhbkeajaaGreatDoorCVerH
import Derived.Test.YtfpikilhbkeajaaGreatDoorCPassA
set_option linter.unusedVariables false
set_option linter.unusedSimpArgs false
namespace Go.Proofs.YtfpikilhbkeajaaGreatDoor.PassJoin
set_option maxRecDepth 100000
open Go.RowKit Go.PlainAid Base Query QrySize EmitPlain EmitBase EmitQ0 LeafMap AllLeaves EmitExt TextPlain GoodLoc GoodPl TabPlain Avg ProgTail VerPlain VerOps VerNear VerTables HitBase TabMem VerMeet VerPass CodePlain Writer Args Encode _root_.Go.Proofs.YtfpikilhbkeajaaGreatDoor.Decode VerRounds VerHeights VerCheck PassPlain

theorem flat3 : ∀ (L : List (List Value)), (∀ l ∈ L, l.length = 3) → ∀ (i j : Nat) (u : Value) (l : List Value), L[i]? = some l → l[j]? = some u → L.flatten[i * 3 + j]? = some u
  | [], _, i, j, u, l, h, _ => by simp at h
  | x :: r, hl, 0, j, u, l, h, hu => by
    simp only [List.getElem?_cons_zero, Option.some.injEq] at h
    subst h
    rw [List.flatten_cons, List.getElem?_append_left (by have := (List.getElem?_eq_some_iff.1 hu).1; omega)]
    simpa using hu
  | x :: r, hl, i + 1, j, u, l, h, hu => by
    have hx : x.length = 3 := hl x (by simp)
    rw [List.flatten_cons, List.getElem?_append_right (by omega), hx, show (i + 1) * 3 + j - 3 = i * 3 + j by omega]
    exact flat3 r (fun l hl' => hl l (by simp [hl'])) i j u l (by simpa using h) hu
theorem slcT_slc {w : World} {t : TypeId} {A : Option Addr} {xs : List Value} (h : SlcT w t A xs) : Slc w w.heap.size A xs := fun _ => by
  obtain ⟨g, o, cs, fr, e, hg, hc⟩ := h
  exact ⟨g, o, e, (Array.getElem?_eq_some_iff.1 hg).1, hc⟩
theorem ns_of {w : World} {base : Nat} {AN : Option Addr} {ns : List Nr} {nc : List Value} {cN : Nat} (ho : w.ownsRow base 86 3 (.slice AN ns.length cN) ns.length nc) (hr : NrsV w ns nc) : NS w w.heap.size AN ns := fun hne => by
  obtain ⟨f, rfl, hf⟩ := hr
  have hlen : ∀ l ∈ (List.range ns.length).map f, l.length = 3 := fun l hl => by
    obtain ⟨i, hi, rfl⟩ := List.mem_map.1 hl
    obtain ⟨A1, c1, A2, c2, e, _⟩ := hf i _ (List.getElem?_eq_getElem (List.mem_range.1 hi))
    rw [e]
    rfl
  have hat : ∀ i, i < ns.length → ∀ j u, (f i)[j]? = some u → ((List.range ns.length).map f).flatten[i * 3 + j]? = some u := fun i hi j u hu => flat3 _ hlen i j u (f i) (by rw [List.getElem?_map, List.getElem?_range hi]; rfl) hu
  have hpos := List.length_pos_iff.2 hne
  have hx : ((List.range ns.length).map f).flatten ≠ [] := fun e => by
    obtain ⟨A1, c1, A2, c2, e2, _⟩ := hf 0 _ (List.getElem?_eq_getElem hpos)
    have := hat 0 hpos 0 _ (by rw [e2]; rfl)
    rw [e] at this
    simp at this
  obtain ⟨g, o, e, hg, hc⟩ := slc_own ho hx
  refine ⟨g, o, f, e, hg, fun i hi j u hu => ?_, fun i n hn => ?_⟩
  · have := hc _ _ (hat i hi j u hu)
    rw [← Nat.add_assoc] at this
    exact this
  · obtain ⟨A1, c1, A2, c2, e, h1, h2⟩ := hf i n hn
    exact ⟨A1, c1, A2, c2, e, slcT_slc h1, slcT_slc h2⟩
theorem prog_passes (q : Qry) (all : Bool) (dr C : List Lf) (avgs : List Int) (hg : goodPl avgs.length q all dr = true) (hC : Ris C) (hm : ∀ l, l ∈ C ↔ l ∈ leafs q ++ dr) (hG : GoodQ q) (hW : WfQ q) (hsz : q.size ≤ 16777216) (hlen : (leafs q).length + dr.length ≤ 1073741824) (havg : ∀ a ∈ avgs, 0 ≤ a)
    (AA AC AN AV AK : Option Addr) (cA cC cN cV cK base : Nat) (nc : List Value) (w : World) (SA : Slc w w.heap.size AA (ints avgs)) (SC : Slc w w.heap.size AC (lfCs C)) (SV : Slc w w.heap.size AV (ints (driveL (numOf C) dr))) (SK : Slc w w.heap.size AK (byteCells (enc (codeOf C q)))) (ho : w.ownsRow base 86 3 (.slice AN (nearsOf C q).length cN) (nearsOf C q).length nc) (hr : NrsV w (nearsOf C q) nc) (T : Tab w) (hT : 24 < w.heap.size) :
    (codeOf C q).length ≤ 3 * q.size ∧ ∀ W, Below w.heap.size w W →
      (Calls Tryz.prog 16 #[.agg (prC AA AC AN AV AK avgs.length C.length (nearsOf C q).length (driveL (numOf C) dr).length (enc (codeOf C q)).length cA cC cN cV cK all)] W fun e w' => ∃ most : Int, 1 ≤ most ∧ e = .returned (.tuple #[.agg #[.int .i64 (codeOf C q).length, .int .i64 most], .nilIface]) ∧ Below W.heap.size W w') ∧
      Calls Tryz.prog 17 #[.slice AK (enc (codeOf C q)).length cK] W (DecR (codeOf C q) W) := by
  have hCl : C.length ≤ 1073741824 := by
    have h1 := LeafRange.len_sub hC.nodup fun l hl => (hm l).1 hl
    rw [List.length_append] at h1
    omega
  obtain ⟨TG, hcl, m, H, PS⟩ := pass_facts q all dr C avgs hg hm hG hW hsz hCl havg
  have hnum : ∀ l, 0 ≤ numOf C l ∧ numOf C l < 9223372036854775808 := fun l => by have := numOf_bnd C l; omega
  have KB := emit_kb (numOf C) hnum q hG hW (by omega) true
  have hNl : (nearsOf C q).length ≤ q.size := KB.nears 0
  have hDl : (driveL (numOf C) dr).length ≤ 1073741824 := by
    have := ddup_len ((dr.map (numOf C)).mergeSort fun a b => decide (a ≤ b))
    rw [List.length_mergeSort, List.length_map] at this
    unfold driveL
    omega
  have HI : ∀ i ∈ codeOf C q, okI i := fun i hi => by
    unfold codeOf at hi
    rcases List.mem_append.1 hi with hi | hi
    · exact KB.ok 0 (by omega) i hi
    · rw [List.mem_singleton.1 hi]
      exact okI_bare (by rfl)
  have NSW := ns_of ho hr
  refine ⟨hcl, fun W hb => ⟨?_, decode_any _ AK cK W ((SK.below hb (Nat.le_refl _)).mono hb.size) (T.below hb hT) (Nat.lt_of_lt_of_le hT hb.size) HI (by omega)⟩⟩
  exact check_any AA AC AN AV AK _ _ _ _ _ cA cC cN cV cK _ all W (fun V hV => by
    have hv : Below w.heap.size w V := hb.trans (hV.mono hb.size)
    exact heights_ok avgs C (nearsOf C q) all (driveL (numOf C) dr) (fldOf C) (codeOf C q) m H TG PS AA AC AN AV AK cA cC cN cV cK V ((SA.below hv (Nat.le_refl _)).mono hv.size) ((SC.below hv (Nat.le_refl _)).mono hv.size) (NS.mono (NSW.below hv (Nat.le_refl _)) hv.size) ((SV.below hv (Nat.le_refl _)).mono hv.size) ((SK.below hv (Nat.le_refl _)).mono hv.size) (T.below hv hT) (Nat.lt_of_lt_of_le hT hv.size) HI (by omega) (by omega) (by omega) (by omega)) (by omega)
end Go.Proofs.YtfpikilhbkeajaaGreatDoor.PassJoin
