/-
  sort.Slice and all that it reaches, as this program bears it.
  The walk of sort.pdqsort_func where 'less' may make memory.
  The order of leaves; newTables' own less.
  sort.Slice over a row of leaves: the row ends sorted, all else stays.
-/
import Derived.Test.YtfpikilhbkeajaaGreatDoorChecked
import Derived.Shelf.GgSortFunc.Lays
import Derived.Test.YtfpikilhbkeajaaGreatDoorCSort
import Derived.Test.YtfpikilhbkeajaaGreatDoorCEmitA
import Derived.Sort.LotA
import Derived.Shelf.GgSortFunc.Tiny
set_option linter.unusedVariables false
set_option linter.unusedSimpArgs false
namespace Go.Proofs.YtfpikilhbkeajaaGreatDoor.SortLay
open Go.Shelf
set_option maxRecDepth 100000

def ren : Go.Shelf.Ren := ⟨fun | 6 => 46 | 10 => 70 | 11 => 71 | 12 => 72 | 13 => 73 | 14 => 74 | 24 => 101 | 25 => 102 | 26 => 103 | 27 => 104 | 28 => 105 | 29 => 106 | 30 => 107 | 31 => 108 | 32 => 109 | 33 => 110 | 34 => 116 | 35 => 117 | 36 => 118 | 37 => 119 | 38 => 120 | 39 => 123 | n => n, fun | 20 => 20 | 26 => 116 | 35 => 149 | 0 => 0 | 37 => 151 | 3 => 3 | 41 => 154 | 44 => 157 | 49 => 175 | 51 => 24 | 4 => 4 | 54 => 179 | 53 => 178 | 58 => 106 | 5 => 5 | 9 => 9 | 60 => 193 | 64 => 197 | 66 => 205 | 67 => 206 | 17 => 17 | 32 => 146 | 33 => 147 | 82 => 238 | 12 => 12 | 75 => 231 | 76 => 232 | 77 => 233 | 78 => 234 | 79 => 235 | 80 => 236 | n => n, fun n => n⟩
theorem lays : LaysGg.n6 Tryz.prog ren := {
  mixed := by kernel_rfl,
  f6 := Tryz.func46.trans (congrArg some (by kernel_rfl)),
  f10 := Tryz.func70.trans (congrArg some (by kernel_rfl)),
  f11 := Tryz.func71.trans (congrArg some (by kernel_rfl)),
  f12 := Tryz.func72.trans (congrArg some (by kernel_rfl)),
  f13 := Tryz.func73.trans (congrArg some (by kernel_rfl)),
  f14 := Tryz.func74.trans (congrArg some (by kernel_rfl)),
  f24 := Tryz.func101.trans (congrArg some (by kernel_rfl)),
  f25 := Tryz.func102.trans (congrArg some (by kernel_rfl)),
  f26 := Tryz.func103.trans (congrArg some (by kernel_rfl)),
  f27 := Tryz.func104.trans (congrArg some (by kernel_rfl)),
  f28 := Tryz.func105.trans (congrArg some (by kernel_rfl)),
  f29 := Tryz.func106.trans (congrArg some (by kernel_rfl)),
  f30 := Tryz.func107.trans (congrArg some (by kernel_rfl)),
  f31 := Tryz.func108.trans (congrArg some (by kernel_rfl)),
  f32 := Tryz.func109.trans (congrArg some (by kernel_rfl)),
  f33 := Tryz.func110.trans (congrArg some (by kernel_rfl)),
  f34 := Tryz.func116.trans (congrArg some (by kernel_rfl)),
  f35 := Tryz.func117.trans (congrArg some (by kernel_rfl)),
  f36 := Tryz.func118.trans (congrArg some (by kernel_rfl)),
  f37 := Tryz.func119.trans (congrArg some (by kernel_rfl)),
  f38 := Tryz.func120.trans (congrArg some (by kernel_rfl)),
  f39 := Tryz.func123.trans (congrArg some (by kernel_rfl)),
  t0 := Tryz.underlying0,
  a0 := Tryz.isAgg0,
  z0 := Tryz.sizeOf0,
  v0 := Tryz.zeroValue0,
  i0 := by kernel_rfl,
  t3 := Tryz.underlying3,
  a3 := Tryz.isAgg3,
  z3 := Tryz.sizeOf3,
  v3 := Tryz.zeroValue3,
  i3 := by kernel_rfl,
  t4 := Tryz.underlying4,
  a4 := Tryz.isAgg4,
  z4 := Tryz.sizeOf4,
  v4 := Tryz.zeroValue4,
  i4 := by kernel_rfl,
  t5 := Tryz.underlying5,
  a5 := Tryz.isAgg5,
  z5 := Tryz.sizeOf5,
  v5 := Tryz.zeroValue5,
  i5 := by kernel_rfl,
  t9 := Tryz.underlying9,
  a9 := Tryz.isAgg9,
  z9 := Tryz.sizeOf9,
  v9 := Tryz.zeroValue9,
  i9 := by kernel_rfl,
  t12 := Tryz.underlying12,
  a12 := Tryz.isAgg12,
  z12 := Tryz.sizeOf12,
  v12 := Tryz.zeroValue12,
  i12 := by kernel_rfl,
  t17 := Tryz.underlying17,
  a17 := Tryz.isAgg17,
  z17 := Tryz.sizeOf17,
  v17 := Tryz.zeroValue17,
  i17 := by kernel_rfl,
  t20 := Tryz.underlying20,
  a20 := Tryz.isAgg20,
  z20 := Tryz.sizeOf20,
  v20 := Tryz.zeroValue20,
  i20 := by kernel_rfl,
  t26 := Tryz.underlying116,
  a26 := Tryz.isAgg116,
  z26 := Tryz.sizeOf116,
  v26 := Tryz.zeroValue116,
  i26 := by kernel_rfl,
  t32 := Tryz.underlying146,
  a32 := Tryz.isAgg146,
  z32 := Tryz.sizeOf146,
  v32 := Tryz.zeroValue146,
  i32 := by kernel_rfl,
  t33 := Tryz.underlying147,
  a33 := Tryz.isAgg147,
  z33 := Tryz.sizeOf147,
  v33 := Tryz.zeroValue147,
  i33 := by kernel_rfl,
  t35 := Tryz.underlying149,
  a35 := Tryz.isAgg149,
  z35 := Tryz.sizeOf149,
  v35 := Tryz.zeroValue149,
  i35 := by kernel_rfl,
  t37 := Tryz.underlying151,
  a37 := Tryz.isAgg151,
  z37 := Tryz.sizeOf151,
  v37 := Tryz.zeroValue151,
  i37 := by kernel_rfl,
  t41 := Tryz.underlying154,
  a41 := Tryz.isAgg154,
  z41 := Tryz.sizeOf154,
  v41 := Tryz.zeroValue154,
  i41 := by kernel_rfl,
  t44 := Tryz.underlying157,
  a44 := Tryz.isAgg157,
  z44 := Tryz.sizeOf157,
  v44 := Tryz.zeroValue157,
  i44 := by kernel_rfl,
  t49 := Tryz.underlying175,
  a49 := Tryz.isAgg175,
  z49 := Tryz.sizeOf175,
  v49 := Tryz.zeroValue175,
  i49 := by kernel_rfl,
  t51 := Tryz.underlying24,
  a51 := Tryz.isAgg24,
  z51 := Tryz.sizeOf24,
  v51 := Tryz.zeroValue24,
  i51 := by kernel_rfl,
  t53 := Tryz.underlying178,
  a53 := Tryz.isAgg178,
  z53 := Tryz.sizeOf178,
  v53 := Tryz.zeroValue178,
  i53 := by kernel_rfl,
  t54 := Tryz.underlying179,
  a54 := Tryz.isAgg179,
  z54 := Tryz.sizeOf179,
  v54 := Tryz.zeroValue179,
  i54 := by kernel_rfl,
  t58 := Tryz.underlying106,
  a58 := Tryz.isAgg106,
  z58 := Tryz.sizeOf106,
  v58 := Tryz.zeroValue106,
  i58 := by kernel_rfl,
  t60 := Tryz.underlying193,
  a60 := Tryz.isAgg193,
  z60 := Tryz.sizeOf193,
  v60 := Tryz.zeroValue193,
  i60 := by kernel_rfl,
  t64 := Tryz.underlying197,
  a64 := Tryz.isAgg197,
  z64 := Tryz.sizeOf197,
  v64 := Tryz.zeroValue197,
  i64 := by kernel_rfl,
  t66 := Tryz.underlying205,
  a66 := Tryz.isAgg205,
  z66 := Tryz.sizeOf205,
  v66 := Tryz.zeroValue205,
  i66 := by kernel_rfl,
  t67 := Tryz.underlying206,
  a67 := Tryz.isAgg206,
  z67 := Tryz.sizeOf206,
  v67 := Tryz.zeroValue206,
  i67 := by kernel_rfl,
  t75 := Tryz.underlying231,
  a75 := Tryz.isAgg231,
  z75 := Tryz.sizeOf231,
  v75 := Tryz.zeroValue231,
  i75 := by kernel_rfl,
  t76 := Tryz.underlying232,
  a76 := Tryz.isAgg232,
  z76 := Tryz.sizeOf232,
  v76 := Tryz.zeroValue232,
  i76 := by kernel_rfl,
  t77 := Tryz.underlying233,
  a77 := Tryz.isAgg233,
  z77 := Tryz.sizeOf233,
  v77 := Tryz.zeroValue233,
  i77 := by kernel_rfl,
  t78 := Tryz.underlying234,
  a78 := Tryz.isAgg234,
  z78 := Tryz.sizeOf234,
  v78 := Tryz.zeroValue234,
  i78 := by kernel_rfl,
  t79 := Tryz.underlying235,
  a79 := Tryz.isAgg235,
  z79 := Tryz.sizeOf235,
  v79 := Tryz.zeroValue235,
  i79 := by kernel_rfl,
  t80 := Tryz.underlying236,
  a80 := Tryz.isAgg236,
  z80 := Tryz.sizeOf236,
  v80 := Tryz.zeroValue236,
  i80 := by kernel_rfl,
  t82 := Tryz.underlying238,
  a82 := Tryz.isAgg238,
  z82 := Tryz.sizeOf238,
  v82 := Tryz.zeroValue238,
  i82 := by kernel_rfl }
end Go.Proofs.YtfpikilhbkeajaaGreatDoor.SortLay

namespace Go.Proofs.YtfpikilhbkeajaaGreatDoor.SortPdq
set_option maxRecDepth 100000
open Go.Shelf Go.RowKit Go.Lib Go.Sort Go.PlainAid HitPlain Base HitBase SortBase SortIns SortHeap SortPart SortPartE SortPartial SortPivot SortLay

section
variable {w0 : World} {blk off n g sf : Nat} {lb sb : Array Value} {lt : Hit → Hit → Bool}

theorem foot_world (W : World) (blk off m : Nat) (D : Array Hit) (os : Array Obj) : Foot W (sortWorldK hitC 2 W blk off m D os) (fun g => g ≠ blk) := by
  have hsz : (sortWorldK hitC 2 W blk off m D os).heap.size = W.heap.size + os.size := by
    unfold sortWorldK
    rw [size_grow]
    simp [putRowK, putRow, mapBlock, Sort.ahead]
  refine ⟨rfl, rfl, rfl, by omega, fun k hk hne => ?_⟩
  show ((putRowK hitC 2 (Sort.ahead W m) blk off D).heap ++ os)[k]? = _
  have hs2 : (putRowK hitC 2 (Sort.ahead W m) blk off D).heap.size = W.heap.size := by simp [putRowK, putRow, mapBlock, Sort.ahead]
  rw [Array.getElem?_append_left (by rw [hs2]; exact hk)]
  simp [putRowK, putRow, mapBlock, Sort.ahead, Array.getElem?_modify, Ne.symm hne]

theorem shape_world {w0 W : World} {blk : Nat} (h : Shape w0 W blk) (hlt : blk < W.heap.size) (off m : Nat) (D : Array Hit) (os : Array Obj) : Shape w0 (sortWorldK hitC 2 W blk off m D os) blk := by
  have h1 : Shape w0 (Sort.ahead W m) blk := h
  have h2 : Shape w0 (putRowK hitC 2 (Sort.ahead W m) blk off D) blk := h1.map _ (fun c => by simp [putCells])
  refine h2.same ?_
  show ((putRowK hitC 2 (Sort.ahead W m) blk off D).heap ++ os)[blk]? = _
  have hs2 : (putRowK hitC 2 (Sort.ahead W m) blk off D).heap.size = W.heap.size := by simp [putRowK, putRow, mapBlock, Sort.ahead]
  rw [Array.getElem?_append_left (by rw [hs2]; exact hlt)]

theorem Rw.world {W w' : World} {d D : Array Hit} (h : Rw w0 blk off n W d) (hs : D.size = n) (hw : ∃ m os, w' = sortWorldK hitC 2 W blk off m D os) : SortLeaves w0 blk off n W D w' := by
  obtain ⟨m, os, rfl⟩ := hw
  have hf := foot_world W blk off m D os
  exact ⟨⟨holdsK_sortWorldK hitC 2 W blk off m d D os h.ltW h.holds (hs.trans h.size.symm), hs, h.lt, h.foot.trans hf, shape_world h.shape h.ltW off m D os⟩, hf⟩

set_option maxRecDepth 1000000 in
set_option maxHeartbeats 32000000 in
theorem pdq_any (hO : SWO lt) (L : Ls w0 blk off n g lb sf sb lt) : ∀ (N a b limit : Nat) (d : Array Hit) (W : World), b - a < N → Rw w0 blk off n W d → a ≤ b → b ≤ n → limit < 4611686018427387904 → Go.Sort.Below lt a b d →
    Calls Tryz.prog 74 #[.agg #[.func (.func g) #[] lb, .func (.func sf) #[] sb], .int .i64 a, .int .i64 b, .int .i64 limit] W fun e w' => e = .returned (.tuple #[]) ∧ SortLeaves w0 blk off n W (pdq lt d a b limit true true) w' := by
  have hbig := L.big
  have eg := L.enter
  intro N
  induction N with
  | zero => intro _ _ _ _ _ h; exact absurd h (Nat.not_lt_zero _)
  | succ N ih =>
    intro a b limit d W hN hR hab hb hlimit hBel0
    have hne : W.heap.size ≠ blk := by have := hR.ltW; omega
    go_enter Tryz.func74, Tryz.ntmps74
    go_wp2_with fail
    go_loopw [1, 2, 3, 8, 9] (fun s1 s2 s3 s8 s9 wr => ∃ (a' b' lim : Nat) (wb wp : Bool) (dk : Array Hit), s1 = .int .i64 a' ∧ s2 = .int .i64 b' ∧ s3 = .int .i64 lim ∧ s8 = .bool wb ∧ s9 = .bool wp ∧
      a' ≤ b' ∧ b' ≤ n ∧ b' - a' ≤ b - a ∧ lim ≤ limit ∧ Go.Sort.Below lt a' b' dk ∧ Rw w0 blk off n wr dk ∧ Bx wr W.heap.size g lb sf sb ∧ Foot W wr (fun g => g ≠ blk) ∧ pdq lt dk a' b' lim wb wp = pdq lt d a b limit true true) (fun s1 s2 _ _ _ _ => (intOf s2 - intOf s1).toNat)
    case atStart => exact ⟨a, b, limit, true, true, d, rfl, rfl, rfl, rfl, rfl, hab, hb, Nat.le_refl _, Nat.le_refl _, hBel0, hR.alloc _, Bx.new _ _ _ _ _, (Foot.refl _ _).alloc _, rfl⟩
    case round =>
      obtain ⟨a', b', lim, wb, wp, dk, rfl, rfl, rfl, rfl, rfl, hab', hb', hkN, hlim, hBel, hr, hx, hf, heq⟩ := hrel
      have A := Lib.hid heq
      clear heq hR
      have hds := hr.size
      have x0 := hx.c0
      have x1 := hx.c1
      by_cases h12 : b' - a' ≤ 12
      · have h12z : (b' : Int) - (a' : Int) ≤ 12 := by omega
        have HV : Hid (pdq lt d a b limit true true = insertionSort lt dk a' b') := Lib.hid (by rw [← A.out, pdq_small h12])
        go_wp2_with (go_at_call 103; refine (insertion_any L _ dk hr a' b' hab' hb').mono ?_; rintro e w1 ⟨rfl, hl⟩)
        (try simp only [Exit.inBlock, Exit.then]); refine bodyPost_ret (results_none rfl _ _ _) rfl ?_
        rw [HV.out]
        exact ⟨rfl, hl.1, hf.trans hl.2⟩
      · have h12z : ¬ ((b' : Int) - (a' : Int) ≤ 12) := by omega
        by_cases hl0 : lim = 0
        · have hl0z : ((lim : Int) == 0) = true := by rw [hl0]; rfl
          have HV : Hid (pdq lt d a b limit true true = heapSort lt dk a' b') := Lib.hid (by rw [← A.out, pdq_heap h12 hl0])
          clear hl0
          go_wp2_with (go_at_call 104; refine (heap_any L _ dk hr a' b' (by omega) hb').mono ?_; rintro e w1 ⟨rfl, hl⟩)
          (try simp only [Exit.inBlock, Exit.then]); refine bodyPost_ret (results_none rfl _ _ _) rfl ?_
          rw [HV.out]
          exact ⟨rfl, hl.1, hf.trans hl.2⟩
        · have hl0z : ((lim : Int) == 0) = false := beq_eq_false_iff_ne.2 (by omega)
          obtain ⟨s1, B1, hc1, s2, B2, hpv, s3, B3⟩ := rd_facts (lt := lt) (limit := lim) (wb := wb) (wp := wp) hO partialInsertionSort_holds reverseRange_holds (show a' < b' by omega) (show b' ≤ dk.size by omega) hBel
          have hd1 : (rd lt dk a' b' lim wb wp).d1.size = n := s1.trans hds
          have hd2 : (rd lt dk a' b' lim wb wp).d2.size = n := s2.trans hds
          have hd3 : (rd lt dk a' b' lim wb wp).pi.1.size = n := s3.trans hds
          have hll := rd_lim_le (lt := lt) (d := dk) (a := a') (b := b') (limit := lim) (wb := wb) (wp := wp)
          clear hBel s1 s2 s3
          go_upto_if 35 with fail
          go_cut [3] from 19 to 129 (fun s3 wx => s3 = .int .i64 (rd lt dk a' b' lim wb wp).lim ∧ Rw w0 blk off n wx (rd lt dk a' b' lim wb wp).d1 ∧ Bx wx W.heap.size g lb sf sb ∧ Foot W wx (fun g => g ≠ blk))
          case first =>
            cases wb
            · have hc := Any.breakPatterns_func_cells_w (P := Tryz.prog) (ρ := ren) { lays with } hitC 2 hitC_len (.func g) #[] lb sf sb blk off a' b' dk wr (by rw [hds]; exact L.swap) hr.holds hr.ltW hab' (by omega) (by omega)
              change Calls Tryz.prog 105 _ _ _ at hc
              go_wp2_with (go_at_call 105; refine hc.mono ?_; rintro e w1 ⟨rfl, hw1⟩)
              go_meet
              have hl := Rw.world hr hd1 hw1
              refine ⟨?_, hl.1, hx.foot hl.2 hne, hf.trans hl.2⟩
              show Value.int .i64 ((lim : Int) - 1) = Value.int .i64 ((lim - 1 : Nat) : Int)
              congr 1
              omega
            · go_wp2_with fail
              go_meet
              exact ⟨rfl, hr, hx, hf⟩
          case rest =>
            clear hr hx hf x0 x1
            obtain ⟨rfl, hr, hx, hf⟩ := hcut
            have y0 := hx.c0
            have y1 := hx.c1
            have hpc := pivot_any L wc (rd lt dk a' b' lim wb wp).d1 hr a' b' (by omega) hb'
            rw [← rd_c] at hpc
            go_upto_if 50 with (go_at_call 106; refine hpc.mono ?_; rintro e w2 ⟨rfl, hl2⟩)
            have hr2 := hl2.1
            have hx2 := hx.foot hl2.2 hne
            have hf2 := hf.trans hl2.2
            clear hpc hr hx hf y0 y1 hl2
            have z0 := hx2.c0
            have z1 := hx2.c1
            go_cut [11, 12] from 19 to 129 (fun s11 s12 wx => s11 = .int .i64 (rd lt dk a' b' lim wb wp).pivot ∧ s12 = .int .i64 (hintCode (rd lt dk a' b' lim wb wp).hint) ∧ Rw w0 blk off n wx (rd lt dk a' b' lim wb wp).d2 ∧ Bx wx W.heap.size g lb sf sb ∧ Foot W wx (fun g => g ≠ blk))
            case first =>
              by_cases hh : (rd lt dk a' b' lim wb wp).c.2 = .decreasing
              · have hcode : hintCode (rd lt dk a' b' lim wb wp).c.2 = 2 := by rw [hh]; rfl
                obtain ⟨e2, epv, eht⟩ := rd_dec hh
                have hc18 := Any.reverseRange_func_cells_w (P := Tryz.prog) (ρ := ren) { lays with } hitC 2 hitC_len (.func g) #[] lb sf sb blk off a' b' (rd lt dk a' b' lim wb wp).d1 w2 (by rw [hd1]; exact L.swap) hr2.holds hr2.ltW hab' (by omega) (by omega)
                change Calls Tryz.prog 107 _ _ _ at hc18
                rw [← e2] at hc18
                have E2 := Lib.hid e2
                have EP := Lib.hid epv
                have EH := Lib.hid eht
                clear e2 epv eht
                go_wp2_with (go_at_call 107; refine hc18.mono ?_; rintro e w3 ⟨rfl, hw3⟩)
                go_meet
                have hl := Rw.world hr2 hd2 hw3
                refine ⟨?_, by rw [EH.out]; rfl, hl.1, hx2.foot hl.2 hne, hf2.trans hl.2⟩
                rw [EP.out]
                congr 1
                omega
              · have hcode : ¬ (hintCode (rd lt dk a' b' lim wb wp).c.2 = 2) := fun h => hh (hintCode_two h)
                obtain ⟨e2, epv, eht⟩ := rd_not hh
                have E2 := Lib.hid e2
                have EP := Lib.hid epv
                have EH := Lib.hid eht
                clear e2 epv eht
                go_wp2_with fail
                go_meet
                exact ⟨by rw [EP.out], by rw [EH.out], by rw [E2.out]; exact hr2, hx2, hf2⟩
            case rest =>
              clear hr2 hx2 hf2 z0 z1
              obtain ⟨rfl, rfl, hr3, hx3, hf3⟩ := hcut
              have v0 := hx3.c0
              have v1 := hx3.c1
              go_upto_region 16 with fail
              go_cut [12, 68] from 19 to 129 (fun s12 s68 wx => s12 = .int .i64 (hintCode (rd lt dk a' b' lim wb wp).hint) ∧ s68 = .bool (wb && wp && decide ((rd lt dk a' b' lim wb wp).hint = .increasing)) ∧ wx = wc)
              case first =>
                cases wb <;> cases wp <;> cases hh3 : (rd lt dk a' b' lim _ _).hint <;>
                  (have hcode3 := congrArg hintCode hh3
                   simp only [hintCode] at hcode3
                   go_wp2_with fail
                   go_meet
                   exact ⟨by simp [hh3, hintCode], by simp [hh3, hintCode], rfl⟩)
              case rest =>
                obtain ⟨rfl, rfl, rfl⟩ := hcut
                go_upto_if 68 with fail
                go_cut [] from 19 to 129 (fun wx => (rd lt dk a' b' lim wb wp).pi.2 = false ∧ Rw w0 blk off n wx (rd lt dk a' b' lim wb wp).pi.1 ∧ Bx wx W.heap.size g lb sf sb ∧ Foot W wx (fun g => g ≠ blk))
                case first =>
                  cases h68 : (wb && wp && decide ((rd lt dk a' b' lim wb wp).hint = .increasing))
                  · have epi := rd_pi_no h68
                    have EPI := Lib.hid epi
                    clear epi
                    go_wp2_with fail
                    go_meet
                    exact ⟨by rw [EPI.out], by rw [EPI.out]; exact hr3, hx3, hf3⟩
                  · have epi := rd_pi_yes h68
                    have hc19 := partial_any L wc (rd lt dk a' b' lim wb wp).d2 hr3 a' b' (by omega) hb'
                    rw [← epi] at hc19
                    clear epi
                    cases h2 : (rd lt dk a' b' lim wb wp).pi.2
                    · rw [h2] at hc19
                      have H2 := Lib.hid h2
                      clear h2
                      go_wp2_with (go_at_call 108; refine hc19.mono ?_; rintro e w4 ⟨rfl, hl4⟩)
                      go_meet
                      exact ⟨H2.out, hl4.1, hx3.foot hl4.2 hne, hf3.trans hl4.2⟩
                    · rw [h2] at hc19
                      have HV : Hid (pdq lt d a b limit true true = (rd lt dk a' b' lim wb wp).pi.1) := Lib.hid (by rw [← A.out, pdq_done h12 hl0 h2])
                      clear h2
                      go_wp2_with (go_at_call 108; refine hc19.mono ?_; rintro e w4 ⟨rfl, hl4⟩)
                      (try simp only [Exit.inBlock, Exit.then]); refine bodyPost_ret (results_none rfl _ _ _) rfl ?_
                      rw [HV.out]
                      exact ⟨rfl, hl4.1, hf3.trans hl4.2⟩
                case rest =>
                  clear hr3 hx3 hf3 v0 v1
                  obtain ⟨hp2, hr5, hx5, hf5⟩ := hcut
                  have HP2 := Lib.hid hp2
                  clear hp2
                  have t0 := hx5.c0
                  have t1 := hx5.c1
                  go_upto_region 18 with fail
                  go_cut [83] from 19 to 129 (fun s83 wx => s83 = .bool (decide (a' > 0) && !lt (rd lt dk a' b' lim wb wp).pi.1[a' - 1]! (rd lt dk a' b' lim wb wp).pi.1[(rd lt dk a' b' lim wb wp).pivot]!) ∧ Rw w0 blk off n wx (rd lt dk a' b' lim wb wp).pi.1 ∧ Bx wx W.heap.size g lb sf sb ∧ Foot W wx (fun g => g ≠ blk))
                  case first =>
                    rcases Nat.eq_zero_or_pos a' with ha0 | ha0
                    · have ha0z : decide ((a' : Int) > 0) = false := decide_eq_false (by omega)
                      have ha1z : decide (0 < a') = false := decide_eq_false (by omega)
                      have ha2z : (a' : Int) ≤ 0 := by omega
                      have ha3z : ¬ 0 < a' := by omega
                      have HA0 := Lib.hid ha0
                      clear ha0
                      go_wp2_with fail
                      go_meet
                      exact ⟨by simp [HA0.out], hr5, hx5, hf5⟩
                    · have ha0z : (a' : Int) > 0 := by omega
                      cases hlv : lt (rd lt dk a' b' lim wb wp).pi.1[a' - 1]! (rd lt dk a' b' lim wb wp).pi.1[(rd lt dk a' b' lim wb wp).pivot]!
                      all_goals
                        have HLV := Lib.hid hlv
                        clear hlv
                        have hl := L.at_ hr5 (i := a' - 1) (j := (rd lt dk a' b' lim wb wp).pivot) (x := (a' : Int) - 1) (y := ((rd lt dk a' b' lim wb wp).pivot : Int)) (by omega) (by omega) (by omega) rfl HLV.out
                        go_wp2_with (go_at_fn g; refine hl.mono ?_; rintro e w' ⟨rfl, hb6⟩)
                        go_meet
                        exact ⟨by simp [ha0, HLV.out], hr5.below hb6, hx5.below hb6, hf5.trans (Foot.ofBelow hb6 _)⟩
                  case rest =>
                    clear hr5 hx5 hf5 t0 t1
                    obtain ⟨rfl, hr6, hx6, hf6⟩ := hcut
                    have q0 := hx6.c0
                    have q1 := hx6.c1
                    cases h87 : (decide (a' > 0) && !lt (rd lt dk a' b' lim wb wp).pi.1[a' - 1]! (rd lt dk a' b' lim wb wp).pi.1[(rd lt dk a' b' lim wb wp).pivot]!)
                    · obtain ⟨mid, ap, d4, hX⟩ : ∃ mid ap d4, partition lt (rd lt dk a' b' lim wb wp).pi.1 a' b' (rd lt dk a' b' lim wb wp).pivot = (mid, ap, d4) := ⟨_, _, _, rfl⟩
                      obtain ⟨r1, r2, r3, r4, r5, r6, r7⟩ := round_part hO (partition_holds lt) hpv.1 hpv.2 (show b' ≤ (rd lt dk a' b' lim wb wp).pi.1.size by omega) B3 hX
                      have hc22 := part_any L wc (rd lt dk a' b' lim wb wp).pi.1 hr6 a' b' (rd lt dk a' b' lim wb wp).pivot hpv.1 hpv.2 hb'
                      rw [hX] at hc22
                      have X := Lib.hid hX
                      have H87 := Lib.hid h87
                      clear hX
                      go_upto_if 109 with (go_at_call 110; refine hc22.mono ?_; rintro e w7 ⟨rfl, hl7⟩)
                      have hr7 := hl7.1
                      have hx7 := hx6.foot hl7.2 hne
                      have hf7 := hf6.trans hl7.2
                      clear hc22 hr6 hx6 hf6 q0 q1
                      have p0 := hx7.c0
                      have p1 := hx7.c1
                      have hs4 := hr7.size
                      by_cases h4 : mid - a' < b' - mid
                      · have h4z : (mid : Int) - (a' : Int) < (b' : Int) - (mid : Int) := by omega
                        have hih := ih a' mid (rd lt dk a' b' lim wb wp).lim d4 w7 (by omega) hr7 (by omega) (by omega) (Nat.lt_of_le_of_lt (Nat.le_trans hll hlim) hlimit) r4
                        obtain ⟨pL, sL⟩ := pdq_sorts lt hO d4 a' mid (rd lt dk a' b' lim wb wp).lim true true (by omega) (by omega) r4
                        go_wp2_with (go_at_call 74; refine hih.mono ?_; rintro e w8 ⟨rfl, hl8⟩)
                        go_roundw
                        case rel =>
                          have hX := X.out
                          refine ⟨mid + 1, b', (rd lt dk a' b' lim wb wp).lim, decide (mid - a' ≥ (b' - a') / 8), ap, pdq lt d4 a' mid (rd lt dk a' b' lim wb wp).lim true true, by simp, rfl, rfl, ?_, rfl, by omega, by omega, by omega, Nat.le_trans hll hlim, (r6 _ pL sL).1, hl8.1, hx7.foot hl8.2 hne, hf7.trans hl8.2, ?_⟩
                          · exact congrArg Value.bool (eighth (by omega) (by omega))
                          · rw [← A.out, pdq_left h12 hl0 HP2.out H87.out (by rw [hX]; exact ⟨r1, r2⟩) (by rw [hX]; exact h4), hX]
                        case measure => simp [intOf]; omega
                      · have h4z : ¬ ((mid : Int) - (a' : Int) < (b' : Int) - (mid : Int)) := by omega
                        have hih := ih (mid + 1) b' (rd lt dk a' b' lim wb wp).lim d4 w7 (by omega) hr7 (by omega) (by omega) (Nat.lt_of_le_of_lt (Nat.le_trans hll hlim) hlimit) r5
                        rw [show ((mid + 1 : Nat) : Int) = (mid : Int) + 1 by omega] at hih
                        obtain ⟨pL, sL⟩ := pdq_sorts lt hO d4 (mid + 1) b' (rd lt dk a' b' lim wb wp).lim true true (by omega) (by omega) r5
                        go_wp2_with (go_at_call 74; refine hih.mono ?_; rintro e w8 ⟨rfl, hl8⟩)
                        go_roundw
                        case rel =>
                          have hX := X.out
                          refine ⟨a', mid, (rd lt dk a' b' lim wb wp).lim, decide (b' - mid ≥ (b' - a') / 8), ap, pdq lt d4 (mid + 1) b' (rd lt dk a' b' lim wb wp).lim true true, rfl, rfl, rfl, ?_, rfl, by omega, by omega, by omega, Nat.le_trans hll hlim, (r7 _ pL sL).1, hl8.1, hx7.foot hl8.2 hne, hf7.trans hl8.2, ?_⟩
                          · exact congrArg Value.bool (eighth (by omega) (by omega))
                          · rw [← A.out, pdq_right h12 hl0 HP2.out H87.out (by rw [hX]; exact ⟨r1, r2⟩) (by rw [hX]; exact h4), hX]
                        case measure => simp [intOf]; omega
                    · have h87' := h87
                      simp only [Bool.and_eq_true, decide_eq_true_eq, Bool.not_eq_true'] at h87'
                      obtain ⟨mid, d4, hX⟩ : ∃ mid d4, partitionEqual lt (rd lt dk a' b' lim wb wp).pi.1 a' b' (rd lt dk a' b' lim wb wp).pivot = (mid, d4) := ⟨_, _, rfl⟩
                      obtain ⟨r1, r2, r3, r4, _⟩ := round_eq hO (partitionEqual_holds lt) h87'.1 hpv.1 hpv.2 (show b' ≤ (rd lt dk a' b' lim wb wp).pi.1.size by omega) B3 h87'.2 hX
                      have hc21 := partEq_any L wc (rd lt dk a' b' lim wb wp).pi.1 hr6 a' b' (rd lt dk a' b' lim wb wp).pivot hpv.1 hpv.2 hb'
                      rw [hX] at hc21
                      have X := Lib.hid hX
                      have H87 := Lib.hid h87
                      clear hX h87'
                      go_wp2_with (go_at_call 109; refine hc21.mono ?_; rintro e w7 ⟨rfl, hl7⟩)
                      go_roundw
                      case rel =>
                        have hX := X.out
                        exact ⟨mid, b', (rd lt dk a' b' lim wb wp).lim, wb, wp, d4, rfl, rfl, rfl, rfl, rfl, r2, hb', by omega, Nat.le_trans hll hlim, r4, hl7.1, hx6.foot hl7.2 hne, hf6.trans hl7.2, by rw [← A.out, pdq_eq h12 hl0 HP2.out H87.out (by rw [hX]; exact ⟨r1, r2⟩), hX]⟩
                      case measure => simp [intOf]; omega
end
end Go.Proofs.YtfpikilhbkeajaaGreatDoor.SortPdq

namespace Go.Proofs.YtfpikilhbkeajaaGreatDoor.SortLeaf
set_option maxRecDepth 100000
open Go.Shelf Go.RowKit Go.Lib Go.Sort Go.PlainAid HitPlain Base HitBase SortBase EmitPlain

def lfLt (a b : Lf) : Bool := if a.field = b.field then ltStr a.term.toList b.term.toList else decide (a.field < b.field)
theorem swo_lfLt : SWO lfLt where
  irrefl := fun x => by unfold lfLt; rw [if_pos rfl]; exact swo_ltStr.irrefl _
  trans := fun x y z h k => by
    unfold lfLt at *
    by_cases e1 : x.field = y.field
    · by_cases e2 : y.field = z.field
      · rw [if_pos e1] at h
        rw [if_pos e2] at k
        rw [if_pos (e1.trans e2)]
        exact swo_ltStr.trans _ _ _ h k
      · rw [if_neg e2] at k
        rw [if_neg (by rw [e1]; exact e2), e1]
        exact k
    · rw [if_neg e1] at h
      by_cases e2 : y.field = z.field
      · rw [if_neg (by rw [← e2]; exact e1), ← e2]
        exact h
      · rw [if_neg e2] at k
        simp only [decide_eq_true_eq] at h k
        rw [if_neg (by omega)]
        simp only [decide_eq_true_eq]
        omega
  ntrans := fun x y z h k => by
    unfold lfLt at *
    by_cases e1 : x.field = y.field
    · by_cases e2 : y.field = z.field
      · rw [if_pos e1] at h
        rw [if_pos e2] at k
        rw [if_pos (e1.trans e2)]
        exact swo_ltStr.ntrans _ _ _ h k
      · rw [if_neg e2] at k
        rw [if_neg (by rw [e1]; exact e2), e1]
        exact k
    · rw [if_neg e1] at h
      by_cases e2 : y.field = z.field
      · rw [if_neg (by rw [← e2]; exact e1), ← e2]
        exact h
      · rw [if_neg e2] at k
        simp only [decide_eq_false_iff_not] at h k
        by_cases e3 : x.field = z.field
        · omega
        · rw [if_neg e3]
          simp only [decide_eq_false_iff_not]
          omega

theorem hold0 {W : World} {blk : Nat} {dk : Array Hit} (h : HoldsK hitC 2 W blk 0 dk) {i : Nat} (hi : i < dk.size) : W.cell? ⟨blk, i * 2, none⟩ = some (.int .i64 dk[i]!.field) := by
  have := (h.cell (i := i) (c := 0) hi (by omega)).1
  simpa [hitC] using this
theorem hold1 {W : World} {blk : Nat} {dk : Array Hit} (h : HoldsK hitC 2 W blk 0 dk) {i : Nat} (hi : i < dk.size) : W.cell? ⟨blk, i * 2 + 1, none⟩ = some (.string dk[i]!.term) := by
  have := (h.cell (i := i) (c := 1) hi (by omega)).1
  simpa [hitC] using this

set_option maxHeartbeats 2000000 in
theorem less_row (blk n c Bs : Nat) (W : World) (dk : Array Hit) (hs : W.cell? ⟨Bs, 1, none⟩ = some (.slice (some ⟨blk, 0, none⟩) n c)) (hd : dk.size = n) (hH : HoldsK hitC 2 W blk 0 dk) (i j : Nat) (hi : i < n) (hj : j < n) :
    Calls Tryz.prog 47 #[.int .i64 i, .int .i64 j, .pointer (some ⟨Bs, 0, none⟩)] W fun e w' => e = .returned (.bool (lfLt dk[i]! dk[j]!)) ∧ Go.RowKit.Below W.heap.size W w' := by
  have x0 := hold0 hH (i := i) (by omega)
  have x1 := hold1 hH (i := i) (by omega)
  have y0 := hold0 hH (i := j) (by omega)
  have y1 := hold1 hH (i := j) (by omega)
  have i1 : (0 : Int) ≤ (i : Int) := by omega
  have i2 : (i : Int) < (n : Int) := by omega
  have j1 : (0 : Int) ≤ (j : Int) := by omega
  have j2 : (j : Int) < (n : Int) := by omega
  generalize dk[i]! = x at x0 x1 ⊢
  generalize dk[j]! = y at y0 y1 ⊢
  obtain ⟨xa, xb⟩ := x
  obtain ⟨ya, yb⟩ := y
  have up : ∀ {p : Addr} {v : Value}, W.cell? p = some v → ∀ o, (W.alloc o).cell? p = some v := fun {p v} h o => ((Below.refl _ _).alloc (Nat.le_refl _) o).cell (World.block_lt_of_cell? W p h) |>.trans h
  have up2 : ∀ {p : Addr} {v : Value}, W.cell? p = some v → ∀ o q, ((W.alloc o).alloc q).cell? p = some v := fun {p v} h o q => (((Below.refl _ _).alloc (Nat.le_refl _) o).alloc (by simp) q).cell (World.block_lt_of_cell? W p h) |>.trans h
  have sa := up hs
  have sb := up2 hs
  have x0a := up x0
  have x0b := up2 x0
  have x1a := up x1
  have x1b := up2 x1
  have y0a := up y0
  have y0b := up2 y0
  have y1a := up y1
  have y1b := up2 y1
  clear up up2
  clear hd hH
  go_enter Tryz.func47, Tryz.ntmps47
  go_upto_region 1 with fail
  go_region
  all_goals
    clear x0 x1 y0 y1 hs sa sb x0a x0b x1a x1b y0a y0b y1a y1b i1 i2 j1 j2
    by_cases hxy : xa = ya
    · have HE : Hid (lfLt ⟨xa, xb⟩ ⟨ya, yb⟩ = ltStr xb.toList yb.toList) := Lib.hid (by unfold lfLt; rw [if_pos hxy])
      have bxy : (xa == ya) = true := beq_iff_eq.2 hxy
      have bne : (xa != ya) = false := by rw [bne, bxy]; rfl
      clear hxy
      go_wp2_with fail
      go_ret
      have hb : Op.bytesLess xb.toList yb.toList = lfLt ⟨xa, xb⟩ ⟨ya, yb⟩ := by rw [HE.out, bytesLess_eq]; rfl
      exact ⟨by rw [← hb]; rfl, by exact Base.bel⟩
    · have HE : Hid (lfLt ⟨xa, xb⟩ ⟨ya, yb⟩ = decide (xa < ya)) := Lib.hid (by unfold lfLt; rw [if_neg hxy])
      have bxy : (xa == ya) = false := beq_eq_false_iff_ne.2 hxy
      have bne : (xa != ya) = true := by rw [bne, bxy]; rfl
      clear hxy
      go_wp2_with fail
      go_ret
      exact ⟨by rw [HE.out]; rfl, by exact Base.bel⟩
end Go.Proofs.YtfpikilhbkeajaaGreatDoor.SortLeaf

namespace Go.Proofs.YtfpikilhbkeajaaGreatDoor.SortSlice
set_option maxRecDepth 100000
open Go.Shelf Go.RowKit Go.Lib Go.Sort Go.PlainAid HitPlain Base HitBase SortBase SortLay SortPdq SortLeaf EmitPlain

noncomputable def hT : TypeInfo := (Tryz.prog.info? 30).get (by kernel_rfl)
noncomputable def hE : TypeInfo := (Tryz.prog.info? 51).get (by kernel_rfl)
theorem hK (n : Nat) (h2 : 2 ≤ n) : swapperK n hE 25 = 9 := by
  have a : hE.hasPointers = true := by kernel_rfl
  have b : hE.bytes = 24 := by kernel_rfl
  have c : (n == 0) = false := by simp; omega
  have d : (n == 1) = false := by simp; omega
  simp [swapperK, a, b, c, d]

theorem fn_tiny (m : Nat) (h : m ≤ 1) : Tryz.prog.funcs.findIdx? (·.name == "internal/reflectlite" ++ ".Swapper$" ++ toString (m + 1)) = some (92 + m) := by
  rcases Nat.eq_zero_or_pos m with h0 | h0
  · subst h0; kernel_rfl
  · obtain rfl : m = 1 := by omega
    kernel_rfl

set_option maxRecDepth 100000 in
theorem slice_any (blk c Bs : Nat) (d : Array Hit) (w : World) (hH : HoldsK hitC 2 w blk 0 d) (hblk : blk < w.heap.size) (hsz : d.size < 4611686018427387904)
    (hs : w.cell? ⟨Bs, 1, none⟩ = some (.slice (some ⟨blk, 0, none⟩) d.size c)) (hBs : Bs < w.heap.size) (hne : Bs ≠ blk) :
    Calls Tryz.prog 46 #[.iface 30 (.slice (some ⟨blk, 0, none⟩) d.size c), .func (.func 47) #[] #[.pointer (some ⟨Bs, 0, none⟩)]] w fun e w' =>
      e = .returned (.tuple #[]) ∧ ∃ d' : Array Hit, PermIn 0 d.size d d' ∧ SortedIn lfLt 0 d.size d' ∧ Rw w blk 0 d.size w' d' := by
  by_cases h2 : 2 ≤ d.size
  · have hbw : Go.RowKit.Below w.heap.size w (sliceWorld Tryz.prog ren 30 (some ⟨blk, 0, none⟩) d.size c w) := by
      unfold sliceWorld
      exact ((Below.refl _ _).alloc (Nat.le_refl _) _).alloc (by simp) _
    have hr0 : Rw w blk 0 d.size (sliceWorld Tryz.prog ren 30 (some ⟨blk, 0, none⟩) d.size c w) d := (Rw.start hH hblk).below hbw
    have hL : Ls w blk 0 d.size 47 #[.pointer (some ⟨Bs, 0, none⟩)] 100 #[.slice (some ⟨blk, 0, none⟩) d.size c, typeHandle Tryz.prog 51] lfLt := {
      enter := enters_of Tryz.func47 (by kernel_rfl) rfl,
      less := fun W dk hR i j hi hj => by
        have h1 : W.cell? ⟨Bs, 1, none⟩ = some (.slice (some ⟨blk, 0, none⟩) d.size c) := (hR.foot.cell (p := ⟨Bs, 1, none⟩) hBs hne).trans hs
        exact less_row blk d.size c Bs W dk h1 hR.size hR.holds i j hi hj,
      swap := swapSwapsK_of_literal (P := Tryz.prog) false 100 (fun args W => run_callFunc_extern Tryz.func100 (by kernel_rfl) (by kernel_rfl) (by kernel_rfl) (e := Extern.ReflectliteSwapper.swap false) (by kernel_rfl) args W)
        51 hE (by kernel_rfl) hitC 2 (fun _ => rfl) (by kernel_rfl) (fun _ => by kernel_rfl) (fun x v hv => by simp [hitC] at hv; rcases hv with rfl | rfl <;> rfl) blk 0 d.size c,
      big := hsz }
    have hlim : Lib.bitLen d.size < 4611686018427387904 := Nat.lt_of_le_of_lt (Lib.bitLen_le d.size 62 (by omega) (by omega)) (by omega)
    have hp := pdq_any swo_lfLt hL (d.size + 1) 0 d.size (Lib.bitLen d.size) d _ (by omega) hr0 (Nat.zero_le _) (Nat.le_refl _) hlim (Or.inl rfl)
    refine Any.sort_Slice_of_pdq (P := Tryz.prog) (ρ := ren) lays 30 51 hT hE (by kernel_rfl) (by kernel_rfl) (by kernel_rfl) (by kernel_rfl) 25 (fun _ => by kernel_rfl) (some ⟨blk, 0, none⟩) d.size c hsz 100 (by rw [hK _ h2]; kernel_rfl) (.func 47) #[] #[.pointer (some ⟨Bs, 0, none⟩)] w (fun w' => ∃ d' : Array Hit, PermIn 0 d.size d d' ∧ SortedIn lfLt 0 d.size d' ∧ Rw w blk 0 d.size w' d') ?_
    have hB : sliceBound Tryz.prog 51 hE 25 (some ⟨blk, 0, none⟩) d.size c = #[.slice (some ⟨blk, 0, none⟩) d.size c, typeHandle Tryz.prog 51] := by
      unfold sliceBound; rw [hK _ h2]; rfl
    rw [hB]
    refine hp.mono ?_
    rintro e w' ⟨rfl, hl, _⟩
    refine ⟨rfl, ?_⟩
    obtain ⟨q1, q2⟩ := pdq_sorts lfLt swo_lfLt d 0 d.size (Lib.bitLen d.size) true true (Nat.zero_le _) (Nat.le_refl _) (Or.inl rfl)
    exact ⟨_, q1, q2, hl⟩
  · have hK1 : swapperK d.size hE 25 = d.size + 1 := by
      rcases Nat.eq_zero_or_pos d.size with h | h
      · rw [h]; simp [swapperK]
      · have : d.size = 1 := by omega
        rw [this]; simp [swapperK]
    have hS := Any.sort_Slice_tiny (P := Tryz.prog) (ρ := ren) lays 30 51 hT hE (by kernel_rfl) (by kernel_rfl) (by kernel_rfl) (by kernel_rfl) 25 (fun _ => by kernel_rfl) (some ⟨blk, 0, none⟩) d.size c (by omega) (92 + d.size) (by rw [hK1]; exact fn_tiny d.size (by omega)) (.func 47) #[] #[.pointer (some ⟨Bs, 0, none⟩)] w
    refine hS.mono ?_
    rintro e w' ⟨rfl, os, rfl⟩
    have hb : Go.RowKit.Below w.heap.size w (Sort.grow w os) := ⟨rfl, rfl, rfl, by rw [size_grow]; omega, fun k hk => by
      show (w.heap ++ os)[k]? = _
      rw [Array.getElem?_append_left hk]⟩
    exact ⟨rfl, d, ⟨rfl, fun _ _ => rfl, List.Perm.refl _⟩, fun i j h1 h3 h4 => by omega, (Rw.start hH hblk).below hb⟩
end Go.Proofs.YtfpikilhbkeajaaGreatDoor.SortSlice
