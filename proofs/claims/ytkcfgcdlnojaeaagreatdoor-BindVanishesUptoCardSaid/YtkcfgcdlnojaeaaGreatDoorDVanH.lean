/-
  The walk of concordlaw16.BindVanishes where the schema, the field or the tree is not good.
  The walk of concordlaw16.BindVanishes up to region 7.
-/
import Derived.Test.YtkcfgcdlnojaeaaGreatDoorNodeCheck
import Derived.Test.YtkcfgcdlnojaeaaGreatDoorDNodT
import Derived.Test.YtkcfgcdlnojaeaaGreatDoorKeepsRest
import Derived.Test.YtkcfgcdlnojaeaaGreatDoorVanPlain
import Derived.Test.YtkcfgcdlnojaeaaGreatDoorLivesBind
import Derived.Test.YtkcfgcdlnojaeaaGreatDoorVanRest
import Derived.Test.YtkcfgcdlnojaeaaGreatDoorDChains
set_option linter.unusedVariables false
set_option linter.unusedSimpArgs false
namespace Go.Proofs.YtkcfgcdlnojaeaaGreatDoor.VanEarly
set_option maxRecDepth 100000
open Go.RowKit Go.PlainAid Base Query BindBase NodeTerm NodeTree NodePlain TextPlain NodeWalk NodeCheck TermCheck Binder WordPlain WordsWalk StopsWalk OfText OfAny WordsOne OpenField FieldPlain GoodName SchemaCheck WordsAny WordsMany LeafBase TreePlain BindTop MemOf Small LivesBind VanPlain KeepsRest

set_option maxHeartbeats 8000000 in
theorem early (fs : List Fld) (fgo : Option Addr) (c B B0 : Nat) (q : Nod) (nk nn : Int) (nf nT : ByteArray) (nR : NRest) (field : Int) (T : ByteArray) (at_ oc : Int) (a1 a2 : Addr) (w : World) (m : Mem fs fgo B0 a1 a2 w) (hlen : fs.length ≤ 1099511627776) (hnm : ∀ f ∈ fs, f.nm.size ≤ 9223372036854775807) (hn : NVal w B [.int .i64 nk, .string nf, .string nT, .int .i64 nn, .bool nR.lo.op, .bool nR.lo.inn, .string nR.lo.text, .bool nR.hi.op, .bool nR.hi.inn, .string nR.hi.text, .slice nR.A1 nR.n1 nR.c1, .slice nR.A2 nR.n2 nR.c2] q) (hBw : B ≤ w.heap.size) (hbk : q.bulk ≤ 1048576) (hq : schemaB fs = false ∨ field < 0 ∨ (fs.length : Int) ≤ field ∨ nodB q = false) :
    Calls Tryz.prog 7 #[.agg #[.slice fgo fs.length c], .agg #[.int .i64 nk, .string nf, .string nT, .int .i64 nn, .bool nR.lo.op, .bool nR.lo.inn, .string nR.lo.text, .bool nR.hi.op, .bool nR.hi.inn, .string nR.hi.text, .slice nR.A1 nR.n1 nR.c1, .slice nR.A2 nR.n2 nR.c2], .int .i64 field, .string T, .int .i64 at_, .int .i64 oc] w fun e w' => e = .returned (.bool true) ∧ Below w.heap.size w w' := by
  obtain ⟨W2, hW2⟩ : ∃ W, W = (w.alloc (.cells #[.slice fgo fs.length c] 36)).alloc (.cells #[.int .i64 nk, .string nf, .string nT, .int .i64 nn, .bool nR.lo.op, .bool nR.lo.inn, .string nR.lo.text, .bool nR.hi.op, .bool nR.hi.inn, .string nR.hi.text, .slice nR.A1 nR.n1 nR.c1, .slice nR.A2 nR.n2 nR.c2] 39) := ⟨_, rfl⟩
  have K1 : Blk W2 w.heap.size 36 #[.slice fgo fs.length c] := by rw [hW2]; exact (Blk.new w _ _).alloc _
  have KN : Blk W2 (w.heap.size + 1) 39 #[.int .i64 nk, .string nf, .string nT, .int .i64 nn, .bool nR.lo.op, .bool nR.lo.inn, .string nR.lo.text, .bool nR.hi.op, .bool nR.hi.inn, .string nR.hi.text, .slice nR.A1 nR.n1 nR.c1, .slice nR.A2 nR.n2 nR.c2] := by
    rw [hW2]
    have := Blk.new (w.alloc (.cells #[.slice fgo fs.length c] 36)) 39 #[.int .i64 nk, .string nf, .string nT, .int .i64 nn, .bool nR.lo.op, .bool nR.lo.inn, .string nR.lo.text, .bool nR.hi.op, .bool nR.hi.inn, .string nR.hi.text, .slice nR.A1 nR.n1 nR.c1, .slice nR.A2 nR.n2 nR.c2]
    rwa [World.size_alloc] at this
  have hsz : W2.heap.size = w.heap.size + 2 := by rw [hW2]; simp
  have hbW : Below w.heap.size w W2 := by rw [hW2]; exact Base.bel
  have le : ∀ W : World, Below W2.heap.size W2 W → Below w.heap.size w W := fun W h => bchain hbW h
  have h63 : fs.length ≤ 9223372036854775807 := by omega
  have LV := Lib.hid (by have m2 := m.below hbW; exact lives_any (errV a1) a2 W2 m2.ht (MemOf.ask1_of m2.ha) m2.he1 m2.he2 m2.h0)
  have SM := Lib.hid (fun W (hW : Below W2.heap.size W2 W) => small_any q [.int .i64 nk, .string nf, .string nT, .int .i64 nn, .bool nR.lo.op, .bool nR.lo.inn, .string nR.lo.text, .bool nR.hi.op, .bool nR.hi.inn, .string nR.hi.text, .slice nR.A1 nR.n1 nR.c1, .slice nR.A2 nR.n2 nR.c2] B W (hn.kept (le W hW) hBw) (Nat.le_trans hBw (le W hW).size))
  have SC := Lib.hid (fun W (hW : Below W2.heap.size W2 W) => by have m2 := m.below (le W hW); exact schemaCheck_any fs fgo c B0 (errV a1) W m2.hB0 m2.h1 hnm h63 m2.he1 m2.h3)
  have NC := Lib.hid (fun W (hW : Below W2.heap.size W2 W) => by have m2 := m.below (le W hW); exact nodeCheck_any q [.int .i64 nk, .string nf, .string nT, .int .i64 nn, .bool nR.lo.op, .bool nR.lo.inn, .string nR.lo.text, .bool nR.hi.op, .bool nR.hi.inn, .string nR.hi.text, .slice nR.A1 nR.n1 nR.c1, .slice nR.A2 nR.n2 nR.c2] B a2 W (hn.kept (le W hW) hBw) (Nat.le_trans hBw (le W hW).size) (by omega) m2.ha m2.h2 m2.he2 m2.h4)
  have ltS : w.heap.size < W2.heap.size := by omega
  have ltN : w.heap.size + 1 < W2.heap.size := by omega
  have HW := Lib.hid hW2
  have HLS := Lib.hid ltS
  have HLN := Lib.hid ltN
  have HK1 := Lib.hid K1
  have HKN := Lib.hid KN
  obtain ⟨gs, hgs⟩ : ∃ x, x = schemaB fs := ⟨_, rfl⟩
  obtain ⟨gn, hgn⟩ : ∃ x, x = nodB q := ⟨_, rfl⟩
  rw [← hgs] at SC hq
  rw [← hgn] at NC hq
  unfold errV at SC
  simp only [errIf] at SC
  simp only [errUnless] at NC
  have HQ := Lib.hid hq
  clear hW2 hsz hgs hgn m hq hn hnm hlen hBw hbk ltS ltN K1 KN h63
  go_enter Tryz.func7, Tryz.ntmps7
  go_upto_region 1 with fail
  rw [← HW.out]
  cases gs
  · simp only [Bool.false_eq_true, if_false] at SC
    go_wp2_with (first | (go_at_call 11; refine LV.out.mono ?_; rintro e w3 ⟨rfl, hb3⟩; obtain ⟨n0, n1, n2, n3, n4, n5, n6, n7, n8, n9, n10, n11⟩ := nrow (HKN.out.below hb3 HLN.out)) | (go_at_call 15; refine (SM.out _ hb3).mono ?_; rintro e w4 ⟨⟨sb, rfl⟩, hb4⟩; have h24 := bchain hb3 hb4; have s0 : w4.cell? ⟨w.heap.size, 0, none⟩ = some (.slice fgo fs.length c) := (HK1.out.below h24 HLS.out).cell 0; clear n0 n1 n2 n3 n4 n5 n6 n7 n8 n9 n10 n11; cases sb) | (go_at_call 17; refine (SC.out _ h24).mono ?_; rintro e w5 ⟨rfl, hb5⟩; have h25 := bchain h24 hb5; have s1 : w5.cell? ⟨w.heap.size, 0, none⟩ = some (.slice fgo fs.length c) := (HK1.out.below h25 HLS.out).cell 0; obtain ⟨n0, n1, n2, n3, n4, n5, n6, n7, n8, n9, n10, n11⟩ := nrow (HKN.out.below h25 HLN.out)) | (go_at_call 18; refine (NC.out _ h25).mono ?_; rintro e w6 ⟨rfl, hb6⟩; have h26 := bchain h25 hb6; have s2 : w6.cell? ⟨w.heap.size, 0, none⟩ = some (.slice fgo fs.length c) := (HK1.out.below h26 HLS.out).cell 0; clear n0 n1 n2 n3 n4 n5 n6 n7 n8 n9 n10 n11))
    all_goals
      go_ret
      first
      | exact ⟨rfl, bchain hbW h24⟩
      | exact ⟨rfl, bchain hbW h25⟩
      | exact ⟨rfl, bchain hbW h26⟩
  simp only [if_true] at SC
  rcases (by omega : field < 0 ∨ 0 ≤ field) with q1 | q1
  · have d1 : decide (field < 0) = true := decide_eq_true q1
    go_wp2_with (first | (go_at_call 11; refine LV.out.mono ?_; rintro e w3 ⟨rfl, hb3⟩; obtain ⟨n0, n1, n2, n3, n4, n5, n6, n7, n8, n9, n10, n11⟩ := nrow (HKN.out.below hb3 HLN.out)) | (go_at_call 15; refine (SM.out _ hb3).mono ?_; rintro e w4 ⟨⟨sb, rfl⟩, hb4⟩; have h24 := bchain hb3 hb4; have s0 : w4.cell? ⟨w.heap.size, 0, none⟩ = some (.slice fgo fs.length c) := (HK1.out.below h24 HLS.out).cell 0; clear n0 n1 n2 n3 n4 n5 n6 n7 n8 n9 n10 n11; cases sb) | (go_at_call 17; refine (SC.out _ h24).mono ?_; rintro e w5 ⟨rfl, hb5⟩; have h25 := bchain h24 hb5; have s1 : w5.cell? ⟨w.heap.size, 0, none⟩ = some (.slice fgo fs.length c) := (HK1.out.below h25 HLS.out).cell 0; obtain ⟨n0, n1, n2, n3, n4, n5, n6, n7, n8, n9, n10, n11⟩ := nrow (HKN.out.below h25 HLN.out)) | (go_at_call 18; refine (NC.out _ h25).mono ?_; rintro e w6 ⟨rfl, hb6⟩; have h26 := bchain h25 hb6; have s2 : w6.cell? ⟨w.heap.size, 0, none⟩ = some (.slice fgo fs.length c) := (HK1.out.below h26 HLS.out).cell 0; clear n0 n1 n2 n3 n4 n5 n6 n7 n8 n9 n10 n11))
    all_goals
      go_ret
      first
      | exact ⟨rfl, bchain hbW h24⟩
      | exact ⟨rfl, bchain hbW h25⟩
      | exact ⟨rfl, bchain hbW h26⟩
  have d1 : decide (field < 0) = false := decide_eq_false (by omega)
  rcases (by omega : (fs.length : Int) ≤ field ∨ field < (fs.length : Int)) with q2 | q2
  · have d2 : decide ((fs.length : Int) ≤ field) = true := decide_eq_true q2
    go_wp2_with (first | (go_at_call 11; refine LV.out.mono ?_; rintro e w3 ⟨rfl, hb3⟩; obtain ⟨n0, n1, n2, n3, n4, n5, n6, n7, n8, n9, n10, n11⟩ := nrow (HKN.out.below hb3 HLN.out)) | (go_at_call 15; refine (SM.out _ hb3).mono ?_; rintro e w4 ⟨⟨sb, rfl⟩, hb4⟩; have h24 := bchain hb3 hb4; have s0 : w4.cell? ⟨w.heap.size, 0, none⟩ = some (.slice fgo fs.length c) := (HK1.out.below h24 HLS.out).cell 0; clear n0 n1 n2 n3 n4 n5 n6 n7 n8 n9 n10 n11; cases sb) | (go_at_call 17; refine (SC.out _ h24).mono ?_; rintro e w5 ⟨rfl, hb5⟩; have h25 := bchain h24 hb5; have s1 : w5.cell? ⟨w.heap.size, 0, none⟩ = some (.slice fgo fs.length c) := (HK1.out.below h25 HLS.out).cell 0; obtain ⟨n0, n1, n2, n3, n4, n5, n6, n7, n8, n9, n10, n11⟩ := nrow (HKN.out.below h25 HLN.out)) | (go_at_call 18; refine (NC.out _ h25).mono ?_; rintro e w6 ⟨rfl, hb6⟩; have h26 := bchain h25 hb6; have s2 : w6.cell? ⟨w.heap.size, 0, none⟩ = some (.slice fgo fs.length c) := (HK1.out.below h26 HLS.out).cell 0; clear n0 n1 n2 n3 n4 n5 n6 n7 n8 n9 n10 n11))
    all_goals
      go_ret
      first
      | exact ⟨rfl, bchain hbW h24⟩
      | exact ⟨rfl, bchain hbW h25⟩
      | exact ⟨rfl, bchain hbW h26⟩
  have d2 : decide ((fs.length : Int) ≤ field) = false := decide_eq_false (by omega)
  cases gn
  · simp only [Bool.false_eq_true, if_false] at NC
    go_wp2_with (first | (go_at_call 11; refine LV.out.mono ?_; rintro e w3 ⟨rfl, hb3⟩; obtain ⟨n0, n1, n2, n3, n4, n5, n6, n7, n8, n9, n10, n11⟩ := nrow (HKN.out.below hb3 HLN.out)) | (go_at_call 15; refine (SM.out _ hb3).mono ?_; rintro e w4 ⟨⟨sb, rfl⟩, hb4⟩; have h24 := bchain hb3 hb4; have s0 : w4.cell? ⟨w.heap.size, 0, none⟩ = some (.slice fgo fs.length c) := (HK1.out.below h24 HLS.out).cell 0; clear n0 n1 n2 n3 n4 n5 n6 n7 n8 n9 n10 n11; cases sb) | (go_at_call 17; refine (SC.out _ h24).mono ?_; rintro e w5 ⟨rfl, hb5⟩; have h25 := bchain h24 hb5; have s1 : w5.cell? ⟨w.heap.size, 0, none⟩ = some (.slice fgo fs.length c) := (HK1.out.below h25 HLS.out).cell 0; obtain ⟨n0, n1, n2, n3, n4, n5, n6, n7, n8, n9, n10, n11⟩ := nrow (HKN.out.below h25 HLN.out)) | (go_at_call 18; refine (NC.out _ h25).mono ?_; rintro e w6 ⟨rfl, hb6⟩; have h26 := bchain h25 hb6; have s2 : w6.cell? ⟨w.heap.size, 0, none⟩ = some (.slice fgo fs.length c) := (HK1.out.below h26 HLS.out).cell 0; clear n0 n1 n2 n3 n4 n5 n6 n7 n8 n9 n10 n11))
    all_goals
      go_ret
      first
      | exact ⟨rfl, bchain hbW h24⟩
      | exact ⟨rfl, bchain hbW h25⟩
      | exact ⟨rfl, bchain hbW h26⟩
  · rcases HQ.out with h | h | h | h
    · cases h
    · omega
    · omega
    · cases h
end Go.Proofs.YtkcfgcdlnojaeaaGreatDoor.VanEarly

namespace Go.Proofs.YtkcfgcdlnojaeaaGreatDoor.VanHead
set_option maxRecDepth 100000
open Go.RowKit Go.PlainAid Base Query BindBase NodeTerm NodeTree NodePlain TextPlain NodeWalk NodeCheck TermCheck Binder WordPlain WordsWalk StopsWalk OfText OfAny WordsOne OpenField FieldPlain GoodName SchemaCheck WordsAny WordsMany LeafBase TreePlain BindTop MemOf KeepsAny VanRest Small LivesBind VanPlain KeepsRest

set_option maxHeartbeats 8000000 in
theorem late (fs : List Fld) (fgo : Option Addr) (c B B0 : Nat) (q : Nod) (nk nn : Int) (nf nT : ByteArray) (nR : NRest) (field : Int) (T : ByteArray) (at_ oc : Int) (a1 a2 : Addr) (w : World) (m : Mem fs fgo B0 a1 a2 w) (hlen : fs.length ≤ 1099511627776) (hnm : ∀ f ∈ fs, f.nm.size ≤ 9223372036854775807) (hn : NVal w B [.int .i64 nk, .string nf, .string nT, .int .i64 nn, .bool nR.lo.op, .bool nR.lo.inn, .string nR.lo.text, .bool nR.hi.op, .bool nR.hi.inn, .string nR.hi.text, .slice nR.A1 nR.n1 nR.c1, .slice nR.A2 nR.n2 nR.c2] q) (hBw : B ≤ w.heap.size) (hbk : q.bulk ≤ 1048576) (hcap : Caps [.int .i64 nk, .string nf, .string nT, .int .i64 nn, .bool nR.lo.op, .bool nR.lo.inn, .string nR.lo.text, .bool nR.hi.op, .bool nR.hi.inn, .string nR.hi.text, .slice nR.A1 nR.n1 nR.c1, .slice nR.A2 nR.n2 nR.c2]) (hs : T.size ≤ 1048576) (hbk2 : ∀ f ∈ fs, 2 * (f.nm.size + T.size) + q.bulk + 10 ≤ 2097152) (hg : schemaB fs = true) (q1 : 0 ≤ field) (q2 : field < (fs.length : Int)) (gq : nodB q = true) :
    Calls Tryz.prog 7 #[.agg #[.slice fgo fs.length c], .agg #[.int .i64 nk, .string nf, .string nT, .int .i64 nn, .bool nR.lo.op, .bool nR.lo.inn, .string nR.lo.text, .bool nR.hi.op, .bool nR.hi.inn, .string nR.hi.text, .slice nR.A1 nR.n1 nR.c1, .slice nR.A2 nR.n2 nR.c2], .int .i64 field, .string T, .int .i64 at_, .int .i64 oc] w fun e w' => e = .returned (.bool true) ∧ Below w.heap.size w w' := by
  obtain ⟨W2, hW2⟩ : ∃ W, W = (w.alloc (.cells #[.slice fgo fs.length c] 36)).alloc (.cells #[.int .i64 nk, .string nf, .string nT, .int .i64 nn, .bool nR.lo.op, .bool nR.lo.inn, .string nR.lo.text, .bool nR.hi.op, .bool nR.hi.inn, .string nR.hi.text, .slice nR.A1 nR.n1 nR.c1, .slice nR.A2 nR.n2 nR.c2] 39) := ⟨_, rfl⟩
  have K1 : Blk W2 w.heap.size 36 #[.slice fgo fs.length c] := by rw [hW2]; exact (Blk.new w _ _).alloc _
  have KN : Blk W2 (w.heap.size + 1) 39 #[.int .i64 nk, .string nf, .string nT, .int .i64 nn, .bool nR.lo.op, .bool nR.lo.inn, .string nR.lo.text, .bool nR.hi.op, .bool nR.hi.inn, .string nR.hi.text, .slice nR.A1 nR.n1 nR.c1, .slice nR.A2 nR.n2 nR.c2] := by
    rw [hW2]
    have := Blk.new (w.alloc (.cells #[.slice fgo fs.length c] 36)) 39 #[.int .i64 nk, .string nf, .string nT, .int .i64 nn, .bool nR.lo.op, .bool nR.lo.inn, .string nR.lo.text, .bool nR.hi.op, .bool nR.hi.inn, .string nR.hi.text, .slice nR.A1 nR.n1 nR.c1, .slice nR.A2 nR.n2 nR.c2]
    rwa [World.size_alloc] at this
  have hsz : W2.heap.size = w.heap.size + 2 := by rw [hW2]; simp
  have hbW : Below w.heap.size w W2 := by rw [hW2]; exact Base.bel
  have le : ∀ W : World, Below W2.heap.size W2 W → Below w.heap.size w W := fun W h => bchain hbW h
  have h63 : fs.length ≤ 9223372036854775807 := by omega
  have LV := Lib.hid (by have m2 := m.below hbW; exact lives_any (errV a1) a2 W2 m2.ht (MemOf.ask1_of m2.ha) m2.he1 m2.he2 m2.h0)
  have SM := Lib.hid (fun W (hW : Below W2.heap.size W2 W) => small_any q [.int .i64 nk, .string nf, .string nT, .int .i64 nn, .bool nR.lo.op, .bool nR.lo.inn, .string nR.lo.text, .bool nR.hi.op, .bool nR.hi.inn, .string nR.hi.text, .slice nR.A1 nR.n1 nR.c1, .slice nR.A2 nR.n2 nR.c2] B W (hn.kept (le W hW) hBw) (Nat.le_trans hBw (le W hW).size))
  have SC := Lib.hid (fun W (hW : Below W2.heap.size W2 W) => by have m2 := m.below (le W hW); exact schemaCheck_any fs fgo c B0 (errV a1) W m2.hB0 m2.h1 hnm h63 m2.he1 m2.h3)
  have NC := Lib.hid (fun W (hW : Below W2.heap.size W2 W) => by have m2 := m.below (le W hW); exact nodeCheck_any q [.int .i64 nk, .string nf, .string nT, .int .i64 nn, .bool nR.lo.op, .bool nR.lo.inn, .string nR.lo.text, .bool nR.hi.op, .bool nR.hi.inn, .string nR.hi.text, .slice nR.A1 nR.n1 nR.c1, .slice nR.A2 nR.n2 nR.c2] B a2 W (hn.kept (le W hW) hBw) (Nat.le_trans hBw (le W hW).size) (by omega) m2.ha m2.h2 m2.he2 m2.h4)
  have ltS : w.heap.size < W2.heap.size := by omega
  have ltN : w.heap.size + 1 < W2.heap.size := by omega
  have HW := Lib.hid hW2
  have HLS := Lib.hid ltS
  have HLN := Lib.hid ltN
  have HK1 := Lib.hid K1
  have HKN := Lib.hid KN
  rw [hg] at SC
  rw [gq] at NC
  unfold errV at SC
  simp only [errIf, if_true] at SC
  simp only [errUnless, if_true] at NC
  have HM := Lib.hid m
  obtain ⟨j, rfl⟩ : ∃ j : Nat, field = j := ⟨field.toNat, by omega⟩
  have hj : j < fs.length := by omega
  obtain ⟨f, hf⟩ : ∃ f, fs[j]? = some f := ⟨_, List.getElem?_eq_getElem hj⟩
  obtain ⟨fg, fo, rfl, hfg, hfc⟩ := HM.out.h1 (by intro e; have := congrArg List.length e; rw [fldCells_len] at this; simp at this; omega)
  have d1 : decide ((j : Int) < 0) = false := decide_eq_false (by omega)
  have d2 : decide ((fs.length : Int) ≤ (j : Int)) = false := decide_eq_false (by omega)
  have i1 : (j : Int) < (fs.length : Int) := q2
  have hbf := hbk2 _ (List.mem_of_getElem? hf)
  obtain ⟨fn, kd, fb, sb', mb⟩ := f
  simp only at hbf
  have fcell : ∀ W, Below w.heap.size w W → W.cell? ⟨fg, fo + j * 5, none⟩ = some (.string fn) ∧ W.cell? ⟨fg, fo + j * 5 + 1, none⟩ = some (.int .i64 kd) ∧ W.cell? ⟨fg, fo + j * 5 + 2, none⟩ = some (.bool fb) ∧ W.cell? ⟨fg, fo + j * 5 + 3, none⟩ = some (.bool sb') ∧ W.cell? ⟨fg, fo + j * 5 + 4, none⟩ = some (.bool mb) := fun W hW => by
    have q : ∀ (i : Nat) (u : Value), (fldC ⟨fn, kd, fb, sb', mb⟩)[i]? = some u → W.cell? ⟨fg, fo + j * 5 + i, none⟩ = some u := fun i u hu => by
      have hi : i < 5 := (List.getElem?_eq_some_iff.1 hu).1
      rw [Nat.add_assoc]
      have hlt : fg < w.heap.size := Nat.lt_of_lt_of_le hfg m.hB0
      exact (hW.cell (p := ⟨fg, fo + (j * 5 + i), none⟩) hlt).trans (hfc (j * 5 + i) u ((fldCells_at fs j i _ hf hi).trans hu))
    exact ⟨q 0 _ rfl, q 1 _ rfl, q 2 _ rfl, q 3 _ rfl, q 4 _ rfl⟩
  have OF := Lib.hid (fun W (hW : Below W2.heap.size W2 W) => by have m2 := m.below (le W hW); exact of_any fn kd fb sb' mb T W (by omega) m2.ht m2.h0)
  have HX := Lib.hid (fun (hk : kd = 1) (hT : T.size ≠ 0) (ho : ofT kd fb sb' mb T = []) W (hW : Below w.heap.size w W) x csx (hx : x ∈ vans fn T) (hv : NVal W W.heap.size csx x) => (by
    have h := bind_tree (c := c) (m.below hW) hnm h63 hv (Nat.le_refl _) hg (vans_good hT x hx) (by have := vans_bulk x hx; omega)
    rw [vans_top (f := ⟨fn, kd, fb, sb', mb⟩) hg hf hk ho x hx] at h
    exact h : Calls Tryz.prog 16 #[.agg #[.slice (some ⟨fg, fo, none⟩) fs.length c], .agg csx.toArray] W (IsT noneQ .nilIface W)))
  have HY := Lib.hid (fun (hk : kd = 1) (hT : T.size ≠ 0) (ho : ofT kd fb sb' mb T = []) W (hW : Below w.heap.size w W) x csx (hx : x ∈ vans fn T) (hv : NVal W W.heap.size csx x) => (by
    exact keeps_any at_ oc (m.below hW) hnm h63 hg ((hn.kept hW hBw).mono (Nat.le_trans hBw hW.size)) hcap hv (Nat.le_refl _) gq (vans_good hT x hx) (vans_bind (f := ⟨fn, kd, fb, sb', mb⟩) hg hf hk ho x hx) (by have := vans_bulk x hx; omega) : Calls Tryz.prog 36 #[.agg #[.slice (some ⟨fg, fo, none⟩) fs.length c], .agg #[.int .i64 nk, .string nf, .string nT, .int .i64 nn, .bool nR.lo.op, .bool nR.lo.inn, .string nR.lo.text, .bool nR.hi.op, .bool nR.hi.inn, .string nR.hi.text, .slice nR.A1 nR.n1 nR.c1, .slice nR.A2 nR.n2 nR.c2], .agg csx.toArray, .int .i64 at_, .int .i64 oc] W fun e w' => e = .returned (.bool true) ∧ Below W.heap.size W w'))
  have HFC := Lib.hid fcell
  clear hW2 hsz m hn hnm hlen hBw hbk ltS ltN K1 KN h63 hcap hbk2 hg q1 q2 gq hbf hfc hfg fcell hf HM
  go_enter Tryz.func7, Tryz.ntmps7
  go_upto_region 1 with fail
  rw [← HW.out]
  go_upto_region 4 with (first | (go_at_call 11; refine LV.out.mono ?_; rintro e w3 ⟨rfl, hb3⟩; obtain ⟨n0, n1, n2, n3, n4, n5, n6, n7, n8, n9, n10, n11⟩ := nrow (HKN.out.below hb3 HLN.out)) | (go_at_call 15; refine (SM.out _ hb3).mono ?_; rintro e w4 ⟨⟨sb, rfl⟩, hb4⟩; have h24 := bchain hb3 hb4; have s0 : w4.cell? ⟨w.heap.size, 0, none⟩ = some (.slice (some ⟨fg, fo, none⟩) fs.length c) := (HK1.out.below h24 HLS.out).cell 0; clear n0 n1 n2 n3 n4 n5 n6 n7 n8 n9 n10 n11; cases sb) | (go_at_call 17; refine (SC.out _ h24).mono ?_; rintro e w5 ⟨rfl, hb5⟩; have h25 := bchain h24 hb5; have s1 : w5.cell? ⟨w.heap.size, 0, none⟩ = some (.slice (some ⟨fg, fo, none⟩) fs.length c) := (HK1.out.below h25 HLS.out).cell 0; obtain ⟨n0, n1, n2, n3, n4, n5, n6, n7, n8, n9, n10, n11⟩ := nrow (HKN.out.below h25 HLN.out)) | (go_at_call 18; refine (NC.out _ h25).mono ?_; rintro e w6 ⟨rfl, hb6⟩; have h26 := bchain h25 hb6; have s2 : w6.cell? ⟨w.heap.size, 0, none⟩ = some (.slice (some ⟨fg, fo, none⟩) fs.length c) := (HK1.out.below h26 HLS.out).cell 0; clear n0 n1 n2 n3 n4 n5 n6 n7 n8 n9 n10 n11))
  · go_wp2_with fail
    go_ret
    exact ⟨rfl, bchain hbW h24⟩
  obtain ⟨x0, x1, x2, x3, x4⟩ := HFC.out w6 (le w6 h26)
  clear d1 d2 s0 s1
  go_upto_region 5 with fail
  obtain ⟨W7, hW7⟩ : ∃ W, W = w6.alloc (.cells #[.string fn, .int .i64 kd, .bool fb, .bool sb', .bool mb] 67) := ⟨_, rfl⟩
  rw [← hW7]
  have KF : Blk W7 w6.heap.size 67 #[.string fn, .int .i64 kd, .bool fb, .bool sb', .bool mb] := by rw [hW7]; exact Blk.new w6 _ _
  have h27 : Below W2.heap.size W2 W7 := by rw [hW7]; exact balloc h26 _
  have f0 : W7.cell? ⟨w6.heap.size, 0, none⟩ = some (.string fn) := KF.cell 0
  have f1 : W7.cell? ⟨w6.heap.size, 1, none⟩ = some (.int .i64 kd) := KF.cell 1
  have f2 : W7.cell? ⟨w6.heap.size, 2, none⟩ = some (.bool fb) := KF.cell 2
  have f3 : W7.cell? ⟨w6.heap.size, 3, none⟩ = some (.bool sb') := KF.cell 3
  have f4 : W7.cell? ⟨w6.heap.size, 4, none⟩ = some (.bool mb) := KF.cell 4
  clear x0 x1 x2 x3 x4 s2 hW7
  rcases Decidable.em (kd = 1) with hk | hk
  rotate_left 1
  · have dk : (kd != 1) = true := bne_iff_ne.2 hk
    clear hk
    go_wp2_with fail
    go_ret
    exact ⟨rfl, bchain hbW h27⟩
  have dk : (kd != 1) = false := by rw [hk]; rfl
  have HKD := Lib.hid hk
  clear hk
  rcases (by omega : T.size = 0 ∨ 0 < T.size) with q3 | q3
  · have d3 : T.toList.isEmpty = true := by rw [WordsAny.tl_empty]; exact beq_iff_eq.2 q3
    clear q3
    go_wp2_with fail
    go_ret
    exact ⟨rfl, bchain hbW h27⟩
  have d3 : T.toList.isEmpty = false := by rw [WordsAny.tl_empty]; exact beq_eq_false_iff_ne.2 (by omega)
  have HT0 := Lib.hid (show T.size ≠ 0 by omega)
  clear q3
  rcases (by omega : 4096 < T.size ∨ T.size ≤ 4096) with q4 | q4
  · have d4 : decide ((4096 : Int) < (T.size : Int)) = true := decide_eq_true (by omega)
    have d4n : decide (4096 < T.size) = true := decide_eq_true q4
    clear q4
    go_wp2_with fail
    go_ret
    exact ⟨rfl, bchain hbW h27⟩
  have d4 : decide ((4096 : Int) < (T.size : Int)) = false := decide_eq_false (by omega)
  have d4n : decide (4096 < T.size) = false := decide_eq_false (by omega)
  clear q4
  obtain ⟨ts, hts⟩ : ∃ ts, ts = ofT kd fb sb' mb T := ⟨_, rfl⟩
  rw [← hts] at OF HX HY
  rcases Decidable.em (ts.length = 0) with q5 | q5
  rotate_left 1
  · have d5 : decide ((0 : Int) < (ts.length : Int)) = true := decide_eq_true (by omega)
    have d5n : decide (0 < ts.length) = true := decide_eq_true (by omega)
    clear q5 hts
    go_wp2_with (go_at_call 35; refine (OF.out _ h27).mono ?_; rintro e w8 ⟨A8, c8, rfl, ho8, hb8⟩)
    go_ret
    exact ⟨rfl, bchain hbW (bchain h27 hb8)⟩
  have hnil : ts = [] := List.length_eq_zero_iff.1 q5
  have HNIL := Lib.hid hnil
  have d5 : decide ((0 : Int) < (ts.length : Int)) = false := decide_eq_false (by omega)
  have d5n : decide (0 < ts.length) = false := decide_eq_false (by omega)
  clear q5 hts hnil
  go_upto_if 73 with (go_at_call 35; refine (OF.out _ h27).mono ?_; rintro e w8 ⟨A8, c8, rfl, ho8, hb8⟩)
  clear ho8
  go_cut [] (fun wx => wx = w8)
  case first =>
    go_wp2_with fail
    go_meet
    rfl
  case rest =>
    subst hcut
    obtain ⟨w8, rfl⟩ : ∃ W, W = wc := ⟨_, rfl⟩
    have hk := ‹∀ (a : Act) (w : World), Code.wp Tryz.prog _ _ a w → _›
    refine hk _ _ ?_
    refine cast_code (c := tailV 7) (by kernel_rfl) ?_
    have h28 := bchain h27 hb8
    exact VanRest.rest (w := w) (le w8 h28) ((HK1.out.below h28 HLS.out).cell 0) (HKN.out.below h28 HLN.out) ((KF.below hb8 KF.lt).cell 0)
      (fun W hW x csx hx hv => HX.out HKD.out HT0.out HNIL.out W (bchain (le w8 h28) hW) x csx hx hv) (fun W hW x csx hx hv => HY.out HKD.out HT0.out HNIL.out W (bchain (le w8 h28) hW) x csx hx hv)
end Go.Proofs.YtkcfgcdlnojaeaaGreatDoor.VanHead
