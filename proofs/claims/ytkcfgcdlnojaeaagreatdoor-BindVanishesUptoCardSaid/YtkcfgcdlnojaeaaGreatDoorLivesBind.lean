/-
  The fixed fact of layer 16's laws.
-/
import Derived.Test.YtkcfgcdlnojaeaaGreatDoorDBind
import Derived.Test.YtkcfgcdlnojaeaaGreatDoorDTerm
set_option linter.unusedVariables false
set_option linter.unusedSimpArgs false
namespace Go.Proofs.YtkcfgcdlnojaeaaGreatDoor.LivesBind
set_option maxRecDepth 100000
open Go.RowKit Go.PlainAid Base Query BindBase NodeTerm Binder WordPlain WordsWalk StopsWalk OfText OfAny WordsOne BindTerm OpenField FieldPlain SchemaCheck BindAll TermCheck Bytes Digits Quoted LineTerm TextTerm

def fs3 : List Fld := [⟨⟨#[116, 105, 116, 108, 101]⟩, 1, true, true, true⟩, ⟨⟨#[116, 97, 103]⟩, 2, false, false, false⟩, ⟨⟨#[112, 114, 105, 99, 101]⟩, 3, false, false, false⟩]
def theCats : ByteArray := ⟨#[84, 104, 101, 32, 67, 97, 116, 115]⟩
def cat : ByteArray := ⟨#[99, 97, 116]⟩
theorem good3 : schemaB fs3 = true := by kernel_rfl
theorem of_cats : ofT 1 true true true theCats = [⟨cat, 0, 1, 4, 8⟩] := by kernel_rfl
theorem cats_ne : theCats.toList ≠ [] := fun e => by
  have h : theCats.toList.length = 8 := by kernel_rfl
  rw [e] at h
  cases h
theorem info_comp : ∃ i, Tryz.prog.info? 274 = some i ∧ i.comparable = true := by
  have h : (Tryz.prog.info? 274).map (·.comparable) = some true := by kernel_rfl
  cases e : Tryz.prog.info? 274 with
  | none => rw [e] at h; cases h
  | some i => rw [e] at h; exact ⟨i, rfl, by simpa using h⟩
theorem info_str : ∃ i, Tryz.prog.info? 298 = some i := by
  have h : (Tryz.prog.info? 298).isSome = true := by kernel_rfl
  exact Option.isSome_iff_exists.1 h
theorem plain_cat : Plain cat := by
  intro k hk
  have hk3 : k < 3 := hk
  rcases (by omega : k = 0 ∨ k = 1 ∨ k = 2) with rfl | rfl | rfl
  · show odd (bt cat 0) = false; kernel_rfl
  · show odd (bt cat 1) = false; kernel_rfl
  · show odd (bt cat 2) = false; kernel_rfl
theorem line_cat : (⟨(lineT 0 cat).toArray⟩ : ByteArray) = ⟨#[40, 116, 101, 114, 109, 32, 48, 32, 34, 99, 97, 116, 34, 32, 48, 41]⟩ := by
  unfold lineT
  rw [digs_small (by decide)]
  kernel_rfl

set_option maxHeartbeats 1000000 in
theorem schemaOf_any (w : World) : Calls Tryz.prog 44 #[] w fun e w' => ∃ g, e = .returned (.agg #[.slice (some ⟨g, 0, none⟩) 3 3]) ∧ Blk w' g 67 (fldCells fs3).toArray ∧ Below w.heap.size w w' := by
  go_enter Tryz.func44, Tryz.ntmps44
  go_wp2_with fail
  refine bodyPost_ret (v := .agg #[.slice (some ⟨w.heap.size + 1, 0, none⟩) 3 3]) (by simp [results, Tryz.results44, go_sem]) rfl ⟨w.heap.size + 1, rfl, ?_, ?_⟩
  · have h := Blk.new (w.alloc (.cells #[.slice (some ⟨w.heap.size + 1, 0, none⟩) 3 3] 36)) 67 (fldCells fs3).toArray
    rw [show ((w.alloc (.cells #[.slice (some ⟨w.heap.size + 1, 0, none⟩) 3 3] 36)).heap.size) = w.heap.size + 1 by simp] at h
    exact h
  · (repeat (first | exact Below.refl _ _ | assumption | refine balloc ?_ _ | refine bdrew ?_ | refine bdrewN ?_ _ | refine bset ?_ (by first | assumption | omega) _ | refine bchain ?_ (by assumption)))

set_option maxHeartbeats 4000000 in
theorem lives_any (es : Value) (a : Addr) (w : World) (ht : Tab w) (ha : Ask1 w) (he : w.cell? ⟨0, 0, none⟩ = some es) (hn : w.cell? ⟨1, 0, none⟩ = some (.iface 274 (.pointer (some a)))) (h0 : 3 < w.heap.size) :
    Calls Tryz.prog 11 #[] w fun e w' => e = .returned (.bool true) ∧ Below w.heap.size w w' := by
  obtain ⟨ev, hev⟩ : ∃ ev : Value, ev = .iface 274 (.pointer (some a)) := ⟨_, rfl⟩
  rw [← hev] at hn
  have HE := Lib.hid he
  have HN := Lib.hid hn
  have HT := Lib.hid ht
  have HA := Lib.hid ha
  have HV := Lib.hid hev
  clear he hn ht ha hev
  go_enter Tryz.func11, Tryz.ntmps11
  go_wp2_with (first
    | (go_at_call 44; refine (schemaOf_any _).mono ?_; rintro e w1 ⟨g, rfl, hg, hb1⟩))
  go_at_call 16
  refine (bindAll_term theCats ⟨⟨#[116, 105, 116, 108, 101]⟩, 1, true, true, true⟩ [⟨⟨#[116, 97, 103]⟩, 2, false, false, false⟩, ⟨⟨#[112, 114, 105, 99, 101]⟩, 3, false, false, false⟩] ⟨cat, 0, 1, 4, 8⟩ g 0 3 es w1.heap.size w1 good3 rfl of_cats (by decide) cats_ne (tab_below HT.out hb1 h0) (HA.out.below hb1 (by omega)) ((hb1.cell (p := ⟨0, 0, none⟩) (by show 0 < _; omega)).trans HE.out) (Nat.lt_of_lt_of_le h0 hb1.size) hg.lt (fun j u hu => by rw [Nat.zero_add, hg.cell]; simpa [fs3] using hu) (by decide)).mono ?_
  rintro e w2 ⟨rfl, hb2⟩
  have c15 : bareQ 4 0 (Tok.text ⟨cat, 0, 1, 4, 8⟩) = #[.int .i64 4, .int .i64 0, .string ⟨#[99, 97, 116]⟩, .slice none 0 0, .slice none 0 0, .int .i64 0, .int .u64 0, .bool false, .bool false, .string ⟨#[]⟩, .bool false, .bool false, .string ⟨#[]⟩, .slice none 0 0, .slice none 0 0] := rfl
  obtain ⟨W3, hW3⟩ : ∃ W, W = w2.alloc (.cells (bareQ 4 0 cat) 29) := ⟨_, rfl⟩
  have K3 : Blk W3 w2.heap.size 29 (bareQ 4 0 cat) := by rw [hW3]; exact Blk.new w2 _ _
  have hsz : w2.heap.size + 1 = W3.heap.size := by rw [hW3]; simp
  have hb3 : Below w2.heap.size w2 W3 := by rw [hW3]; exact Base.bel
  have hbW : Below w.heap.size w W3 := bchain hb1 (bchain hb2 hb3)
  have hle := hbW.size
  have n3 : W3.cell? ⟨1, 0, none⟩ = some ev := (hbW.cell (p := ⟨1, 0, none⟩) (by show 1 < _; omega)).trans HN.out
  have GN := Bw.cell (B := W3.heap.size) n3 (by show 1 < _; omega)
  have TX : ∀ b : Bw W3.heap.size W3, Calls Tryz.prog 13 #[.agg (bareQ 4 0 cat)] b.at_ fun e w' => e = .returned (.string ⟨#[40, 116, 101, 114, 109, 32, 48, 32, 34, 99, 97, 116, 34, 32, 48, 41]⟩) ∧ ∃ b' : Bw W3.heap.size W3, w' = b'.at_ := fun b => line_cat ▸ calls_bw (Nat.le_refl _) (text_term 0 (by decide) cat plain_cat ev _ (by decide) (GN b) (by have := b.below.size; omega))
  have C1 : ∀ b : Bw W3.heap.size W3, Calls Tryz.prog 19 #[.agg (bareQ 4 0 cat), .int .i64 1, .bool true] b.at_ fun e w' => e = .returned .nilIface ∧ ∃ b' : Bw W3.heap.size W3, w' = b'.at_ := fun b => calls_bw (Nat.le_refl _) (check_term 0 1 cat true ev _ (GN b) (by have := b.below.size; omega))
  have C0 : ∀ b : Bw W3.heap.size W3, Calls Tryz.prog 19 #[.agg (bareQ 4 0 cat), .int .i64 0, .bool true] b.at_ fun e w' => e = .returned ev ∧ ∃ b' : Bw W3.heap.size W3, w' = b'.at_ := fun b => calls_bw (Nat.le_refl _) (check_term 0 0 cat true ev _ (GN b) (by have := b.below.size; omega))
  have EE : ∀ wx : World, (binOp .eql 42 ev ev).run Tryz.prog wx = .ok (.bool true) wx := fun wx => by
    rw [HV.out]
    obtain ⟨i, hi, hc⟩ := info_comp
    obtain ⟨j, hj⟩ := info_str
    exact run_eql_iface_ptr_same wx a Tryz.underlying42 Tryz.underlying274 hi hc hj
  have z0 := Bw.cell (B := W3.heap.size) (show W3.cell? ⟨w2.heap.size, 0, none⟩ = some (.int .i64 4) from K3.cell 0) (by show w2.heap.size < _; omega)
  have z1 := Bw.cell (B := W3.heap.size) (show W3.cell? ⟨w2.heap.size, 1, none⟩ = some (.int .i64 0) from K3.cell 1) (by show w2.heap.size < _; omega)
  have z2 := Bw.cell (B := W3.heap.size) (show W3.cell? ⟨w2.heap.size, 2, none⟩ = some (.string ⟨#[99, 97, 116]⟩) from K3.cell 2) (by show w2.heap.size < _; omega)
  have z3 := Bw.cell (B := W3.heap.size) (show W3.cell? ⟨w2.heap.size, 3, none⟩ = some (.slice none 0 0) from K3.cell 3) (by show w2.heap.size < _; omega)
  have z4 := Bw.cell (B := W3.heap.size) (show W3.cell? ⟨w2.heap.size, 4, none⟩ = some (.slice none 0 0) from K3.cell 4) (by show w2.heap.size < _; omega)
  have z5 := Bw.cell (B := W3.heap.size) (show W3.cell? ⟨w2.heap.size, 5, none⟩ = some (.int .i64 0) from K3.cell 5) (by show w2.heap.size < _; omega)
  have z6 := Bw.cell (B := W3.heap.size) (show W3.cell? ⟨w2.heap.size, 6, none⟩ = some (.int .u64 0) from K3.cell 6) (by show w2.heap.size < _; omega)
  have z7 := Bw.cell (B := W3.heap.size) (show W3.cell? ⟨w2.heap.size, 7, none⟩ = some (.bool false) from K3.cell 7) (by show w2.heap.size < _; omega)
  have z8 := Bw.cell (B := W3.heap.size) (show W3.cell? ⟨w2.heap.size, 8, none⟩ = some (.bool false) from K3.cell 8) (by show w2.heap.size < _; omega)
  have z9 := Bw.cell (B := W3.heap.size) (show W3.cell? ⟨w2.heap.size, 9, none⟩ = some (.string ⟨#[]⟩) from K3.cell 9) (by show w2.heap.size < _; omega)
  have z10 := Bw.cell (B := W3.heap.size) (show W3.cell? ⟨w2.heap.size, 10, none⟩ = some (.bool false) from K3.cell 10) (by show w2.heap.size < _; omega)
  have z11 := Bw.cell (B := W3.heap.size) (show W3.cell? ⟨w2.heap.size, 11, none⟩ = some (.bool false) from K3.cell 11) (by show w2.heap.size < _; omega)
  have z12 := Bw.cell (B := W3.heap.size) (show W3.cell? ⟨w2.heap.size, 12, none⟩ = some (.string ⟨#[]⟩) from K3.cell 12) (by show w2.heap.size < _; omega)
  have z13 := Bw.cell (B := W3.heap.size) (show W3.cell? ⟨w2.heap.size, 13, none⟩ = some (.slice none 0 0) from K3.cell 13) (by show w2.heap.size < _; omega)
  have z14 := Bw.cell (B := W3.heap.size) (show W3.cell? ⟨w2.heap.size, 14, none⟩ = some (.slice none 0 0) from K3.cell 14) (by show w2.heap.size < _; omega)
  have q15 : bareQ 4 0 cat = #[.int .i64 4, .int .i64 0, .string ⟨#[99, 97, 116]⟩, .slice none 0 0, .slice none 0 0, .int .i64 0, .int .u64 0, .bool false, .bool false, .string ⟨#[]⟩, .bool false, .bool false, .string ⟨#[]⟩, .slice none 0 0, .slice none 0 0] := rfl
  have HW := Lib.hid hW3
  rw [q15] at TX C1 C0 HW
  rw [c15]
  clear c15 q15 K3 hW3 n3 hsz hle
  go_upto_region 4 with fail
  rw [← HW.out]
  refine wp_region_bw W3.heap.size (by kernel_rfl) (by kernel_rfl) ?_
  repeat (go_big_quiet_step (first | (go_at_call 13; with_reducible exact TX _) | (go_at_call 19; first | with_reducible exact C1 _ | with_reducible exact C0 _)))
  refine BigFrame.wpQuiet_want (by kernel_rfl) ?_
  intro K hK
  refine ⟨.bool true, fun wx _ => ?_, hK _ ?_⟩
  · unfold Oper.quietAt
    clear hK
    go_simp
    rw [HV.out]
    go_simp
  clear hK K
  simp only [Act.put, Base.s1, Base.s2, Base.s3]
  repeat (go_big_quiet_step (fail))
  refine wpQuiet_nil ?_
  intro _ hw'
  obtain ⟨⟨wq, hbq⟩, hw''⟩ := hw'
  subst hw''
  go_wp2_with fail
  go_ret
  exact ⟨rfl, bchain hbW hbq⟩
end Go.Proofs.YtkcfgcdlnojaeaaGreatDoor.LivesBind
