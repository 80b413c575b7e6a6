/-
  The texts of what binding makes of a tree fit.
  A load of a whole struct, met in a quiet region: one value in every world of the class.
  The walk of bind.Check over whatever query whose texts fit.
-/
import Derived.Test.YtkcfgcdlnojaeaaGreatDoorDGood
import Derived.Test.YtkcfgcdlnojaeaaGreatDoorGoodAll
import Derived.Test.YtkcfgcdlnojaeaaGreatDoorBase
import Derived.Test.YtkcfgcdlnojaeaaGreatDoorDTerm
set_option linter.unusedVariables false
set_option linter.unusedSimpArgs false
namespace Go.Proofs.YtkcfgcdlnojaeaaGreatDoor.GoodTxt
set_option maxRecDepth 100000
open Go.RowKit Go.PlainAid Base Query NodeTree NodePlain TextPlain WordPlain OfAny OpenField FieldPlain WordsAny LeafBase SchFind FoldLeaf WildBind SpanBind TreePlain PatApp GoodBind GoodAll

theorem txt_leaf {hd : Head} (h : hd.text.size ≤ 1099511627776) : Txt (.mk hd []) := .mk hd [] h fun _ h => by cases h
theorem txt_bare {k f : Int} {t : ByteArray} (h : t.size ≤ 1099511627776) : Txt (.mk (bareH k f t) []) := txt_leaf h
theorem txt_none : Txt noneQ := txt_bare (Nat.zero_le _)
theorem leafQ_txt (f : Fld) (i : Int) (hd : NHead) (hT : hd.text.size ≤ 1048576) : Txt (leafQ f i hd).1 := by
  unfold leafQ
  split
  · unfold wordsQ
    split
    · split
      · exact txt_none
      · exact txt_bare (by omega)
    · split
      · simp only
        split
        · exact txt_none
        · refine txt_bare ?_
          rename_i v _
          have e : (NumPlain.termN v).size = (NumPlain.tbytes v 8).length := List.size_toArray ..
          rw [e, NumPlain.tbytes_len]
          omega
      · have hs := fun t (ht : t ∈ ofT f.kd f.fold f.stop f.stem hd.text) => of_size ht
        generalize ofT f.kd f.fold f.stop f.stem hd.text = ts at hs
        match ts, hs with
        | [], _ => exact txt_bare (Nat.zero_le _)
        | [t], hs => exact txt_bare (by have := hs t (by simp); omega)
        | t :: u :: r, _ => exact txt_leaf (Nat.zero_le _)
  · split
    · unfold prefixQ
      split
      · exact txt_none
      · refine txt_leaf ?_
        show (foldedS f hd.text).size ≤ _
        rw [folded_size]; omega
    · split
      · unfold wildQ
        split
        · exact txt_none
        · refine txt_bare ?_
          have := wGo_size f hd.text _ 0 ⟨#[]⟩ [] (Nat.le_refl _)
          have h0 : (⟨#[]⟩ : ByteArray).size = 0 := rfl
          simp only [List.length_nil, h0] at this
          omega
      · split
        · unfold fuzzyQ
          split
          · exact txt_none
          · refine txt_leaf ?_
            show (foldedS f hd.text).size ≤ _
            rw [folded_size]; omega
        · split
          · unfold spanQ
            split
            · exact txt_leaf (Nat.zero_le _)
            · exact txt_none
          · exact txt_bare (Nat.zero_le _)
theorem bind_txt (fs : List Fld) (q : Nod) : q.bulk ≤ 1048576 → Txt (bindT fs q).1 := by
  induction q using Nod.ind with
  | h q ih =>
    intro hbk
    obtain ⟨hd, ks⟩ := q
    simp only [Nod.kids] at ih
    simp only [Nod.bulk, nbulk] at hbk
    rw [bindT]
    split
    · exact txt_bare (Nat.zero_le _)
    · split
      · unfold leafT
        split
        · exact txt_none
        · exact leafQ_txt _ _ _ (by omega)
      · unfold innerT
        split
        · exact txt_bare (Nat.zero_le _)
        · refine .mk _ _ (Nat.zero_le _) fun k hk => ?_
          have hm := keptQ_mem hk
          rw [bindTs_map] at hm
          obtain ⟨x, hx, e⟩ := List.mem_map.1 hm
          have h1 := ih x hx (by have := nbulks_mem hx; omega)
          rw [e] at h1
          exact h1
theorem top_txt (fs : List Fld) (q : Nod) (hbk : q.bulk ≤ 1048576) : Txt (topQ fs q) := by
  unfold topQ
  split
  · exact bind_txt fs q hbk
  · exact txt_none
theorem size_bulk (q : Nod) : q.size ≤ q.bulk := by
  induction q using Nod.ind with
  | h q ih =>
    obtain ⟨hd, ks⟩ := q
    simp only [Nod.kids] at ih
    simp only [Nod.size, Nod.bulk, nbulk]
    have : ∀ l : List Nod, (∀ k ∈ l, k.size ≤ k.bulk) → nsizes l ≤ nbulks l := by
      intro l
      induction l with
      | nil => intro _; simp [nsizes, nbulks]
      | cons k r ihl =>
        intro h
        have h1 := ihl fun x hx => h x (List.mem_cons_of_mem _ hx)
        have h2 := h k (by simp)
        simp only [nsizes, nbulks]
        omega
    have := this ks ih
    omega
theorem wrap_small (n : Nat) (h : n ≤ 1048576) : wrap64 (n : Int) = n := by unfold wrap64; omega
end Go.Proofs.YtkcfgcdlnojaeaaGreatDoor.GoodTxt

namespace Go.Proofs.YtkcfgcdlnojaeaaGreatDoor.QuietLoad
open Go.RowKit Go.PlainAid Base
section
variable {P : Program} {C : World → Prop} {o : Oper} {a : Act}

theorem quiet_load {K : Act → Prop} (ty : TypeId) (x : Operand) (ad : Addr) (v : Value) (ho : o.op = .load ty x) (hx : a.eval x = .pointer (some ad))
    (hv : ∀ w, C w → (loadVar ty ad).run P w = .ok v w) (hk : K (a.put o.dst v)) : o.quiet P a C K :=
  ⟨v, fun w hw => by
    unfold Oper.quietAt execOp
    simp only [ho, hx, Instr.loadAt, Instr.sureAddr, Sem.run_bind, Sem.run_pure, Result.andThen_ok, hv w hw]
    exact ⟨rfl, rfl⟩, hk⟩

theorem loads_blk {w : World} {B g : Nat} {t ty : TypeId} {cs : Array Value} {d : TypeDesc} (hb : Blk w g t cs) (hg : g < B) (hu : P.underlying ty = some d) (hd : (match d with | .struct _ | .array _ _ => true | _ => false) = true) (hi : (P.info? ty).map (·.size) = some cs.size) :
    ∀ wx, (∃ b : Bw B w, wx = b.at_) → (loadVar ty ⟨g, 0, none⟩).run P wx = .ok (.agg cs) wx := by
  rintro wx ⟨b, rfl⟩
  exact run_loadVar_row b.at_ g t ty cs (0, 0) d (hb.below b.below hg) hu hd hi
end
end Go.Proofs.YtkcfgcdlnojaeaaGreatDoor.QuietLoad

namespace Go.Proofs.YtkcfgcdlnojaeaaGreatDoor.CheckAll
set_option maxRecDepth 100000
open Go.RowKit Go.PlainAid Base Query QrySize BindBase TextPlain TextLine LineBase GoodAll QuietLoad TermCheck

set_option maxHeartbeats 4000000 in
theorem check_txt (q : Qry) (cs : List Value) (B : Nat) (n : Int) (ev : Value) (w : World) (hq : QVal w B cs q) (hB : B ≤ w.heap.size) (hbk : Txt q) (he : w.cell? ⟨1, 0, none⟩ = some ev) (h0 : 1 < w.heap.size) :
    Calls Tryz.prog 19 #[.agg cs.toArray, .int .i64 n, .bool false] w fun e w' => e = .returned (errUnless (good n false q) ev) ∧ Below w.heap.size w w' := by
  obtain ⟨C, hC⟩ : ∃ C, C = cs.toArray := ⟨_, rfl⟩
  have hlen : C.size = 15 := by rw [hC]; simpa using hq.len
  obtain ⟨W1, hW1⟩ : ∃ W, W = w.alloc (.cells C 29) := ⟨_, rfl⟩
  have K1 : Blk W1 w.heap.size 29 C := by rw [hW1]; exact Blk.new w _ _
  have hsz : w.heap.size + 1 = W1.heap.size := by rw [hW1]; simp
  have hbW : Below w.heap.size w W1 := by rw [hW1]; (repeat (first | exact Below.refl _ _ | assumption | refine balloc ?_ _ | refine bdrew ?_ | refine bdrewN ?_ _ | refine bchain ?_ (by assumption)))
  obtain ⟨r, hr⟩ : ∃ r, r = good n false q := ⟨_, rfl⟩
  have KA : ∀ b : Bw W1.heap.size W1, Calls Tryz.prog 47 #[] b.at_ fun e w' => e = .returned (.agg kindsA) ∧ ∃ b' : Bw W1.heap.size W1, w' = b'.at_ := fun b => calls_bw (Nat.le_refl _) (kinds_any _)
  have GT : ∀ b : Bw W1.heap.size W1, Calls Tryz.prog 55 #[.agg kindsA, .agg C, .int .i64 n, .bool false] b.at_ fun e w' => e = .returned (.bool r) ∧ ∃ b' : Bw W1.heap.size W1, w' = b'.at_ := fun b => by
    rw [hr, hC]
    exact calls_bw (Nat.le_refl _) (good_txt q cs B n b.at_ (hq.kept (bchain hbW b.below) hB) (Nat.le_trans hB (Nat.le_trans hbW.size b.below.size)) hbk)
  have L1 := loads_blk (P := Tryz.prog) (ty := 29) K1 (show w.heap.size < W1.heap.size by omega) Tryz.underlying29 rfl (by rw [qInfo, hlen])
  rw [← hr, ← hC]
  generalize kindsA = K at KA GT
  have HW := Lib.hid hW1
  clear hW1 hr hC hq hlen
  cases r
  · go_enter Tryz.func19, Tryz.ntmps19
    go_upto_region 1 with fail
    rw [← HW.out]
    refine wp_region_bw W1.heap.size (by kernel_rfl) (by kernel_rfl) ?_
    repeat (first | (refine BigFrame.wpQuiet_want (by kernel_rfl) ?_; intro KK hK; refine quiet_load _ _ _ (.agg C) rfl rfl L1 (hK _ ?_); clear hK KK; simp only [Act.put, Base.s1, Base.s2, Base.s3]) | go_big_quiet_step ((first | (go_at_call 47; with_reducible exact KA _) | (go_at_call 55; with_reducible exact GT _))))
    refine wpQuiet_nil ?_
    intro wq hw'
    obtain ⟨⟨wz, hbq⟩, hw''⟩ := hw'
    subst hw''
    have he2 := (hbq.cell (p := ⟨1, 0, none⟩) (by show 1 < _; omega)).trans ((hbW.cell (p := ⟨1, 0, none⟩) h0).trans he)
    go_wp2_with fail
    go_ret
    exact ⟨rfl, bchain hbW hbq⟩
  · go_enter Tryz.func19, Tryz.ntmps19
    go_upto_region 1 with fail
    rw [← HW.out]
    refine wp_region_bw W1.heap.size (by kernel_rfl) (by kernel_rfl) ?_
    repeat (first | (refine BigFrame.wpQuiet_want (by kernel_rfl) ?_; intro KK hK; refine quiet_load _ _ _ (.agg C) rfl rfl L1 (hK _ ?_); clear hK KK; simp only [Act.put, Base.s1, Base.s2, Base.s3]) | go_big_quiet_step ((first | (go_at_call 47; with_reducible exact KA _) | (go_at_call 55; with_reducible exact GT _))))
    refine wpQuiet_nil ?_
    intro wq hw'
    obtain ⟨⟨wz, hbq⟩, hw''⟩ := hw'
    subst hw''
    go_wp2_with fail
    go_ret
    exact ⟨rfl, bchain hbW hbq⟩
end Go.Proofs.YtkcfgcdlnojaeaaGreatDoor.CheckAll
