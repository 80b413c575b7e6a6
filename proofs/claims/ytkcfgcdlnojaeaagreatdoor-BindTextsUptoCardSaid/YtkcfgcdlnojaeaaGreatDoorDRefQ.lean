/-
  The walks of the reference's quoted, ended and digits over whatever text.
  The walks of the reference's digits and ended.
  Strings put together, one operation.
-/
import Derived.Test.YtkcfgcdlnojaeaaGreatDoorDNumA
set_option linter.unusedVariables false
set_option linter.unusedSimpArgs false
namespace Go.Proofs.YtkcfgcdlnojaeaaGreatDoor.RefQuote
set_option maxRecDepth 100000
open Go.RowKit Go.PlainAid Base Query Bytes Digits Quoted QuoteAll TextLine NumAll

set_option maxHeartbeats 4000000 in
theorem rquoted_any (s : ByteArray) (w : World) (hl : 3 * s.size ≤ 35184372088000) :
    Calls Tryz.prog 86 #[.string s] w fun e w' => e = .returned (.string ⟨(quoteL s).toArray⟩) ∧ Below w.heap.size w w' := by
  go_enter Tryz.func86, Tryz.ntmps86
  go_wp2_with fail
  go_loopw [4, 3] (fun i u wr => ∃ (k : Nat) (v2 : Value), k ≤ s.size ∧ i = .int .i64 k ∧ u = v2 ∧ Byt wr w.heap.size v2 ([34] ++ qfrom s k) ∧ Below w.heap.size w wr) (fun i _ _ => s.size - (intOf i).toNat)
  case atStart => exact ⟨0, _, Nat.zero_le _, rfl, rfl, World.ownsRow_lit w #[.int .u8 34] 1 (Nat.le_refl _) (by decide) rfl, (by (repeat (first | exact Below.refl _ _ | assumption | refine balloc ?_ _ | refine bdrew ?_ | refine bdrewN ?_ _ | refine bchain ?_ (by assumption))))⟩
  case round =>
    obtain ⟨k, v2, hk, rfl, rfl, hown, hbel⟩ := hrel
    have hq := qfrom_len s k
    have hbr : w.heap.size ≤ wr.heap.size := hbel.size
    have hlen : ([34] ++ qfrom s k).length = 1 + (qfrom s k).length := by simp; omega
    have HO := Lib.hid hown
    have HBL := Lib.hid hbel
    rcases Nat.lt_or_ge k s.size with hlt | hge
    · have hgb := get_bt s
      have r0 := bt_nonneg s k
      have r1 := bt_le s k
      have i3 : (k : Int) < 9223372036854775807 := by omega
      cases hodd : odd (bt s k)
      · obtain ⟨q1, q2, q3, q4⟩ := odd_iff hodd
        have hqb : qb (bt s k) = [UInt8.ofNat (bt s k).toNat] := by unfold qb; rw [hodd]; rfl
        have b1 : decide (bt s k < 32) = false := decide_eq_false (by omega)
        have b2 : decide (126 < bt s k) = false := decide_eq_false (by omega)
        have b3 : (bt s k == 34) = false := beq_eq_false_iff_ne.2 q3
        have b4 : (bt s k == 92) = false := beq_eq_false_iff_ne.2 q4
        have ho2 := hown.below (Below.alloc (Below.refl wr.heap.size wr) (Nat.le_refl _) (.cells #[.int .u8 (bt s k)] 5))
        have hsr2 := src_blk (Blk.new wr 5 #[.int .u8 (bt s k)]) [UInt8.ofNat (bt s k).toNat] (byte_cell r0 r1).symm
        have HQ := Lib.hid hqb
        clear hown hbel hodd hqb
        go_wp2_with (at_builtin; refine wpList_addB rfl _ _ rfl rfl ho2 rfl hsr2 (by exact Nat.zero_lt_one) (by simp; omega) (by rw [hlen]; simp; omega) ?_; intro v3 w3 ha3)
        go_roundw
        case rel =>
          refine ⟨k + 1, v3, by omega, by go_num, rfl, ?_, HBL.out.trans ((((Below.refl wr.heap.size wr).alloc (Nat.le_refl _) _).mono hbr).trans (NumAll.AddB.below ha3 ho2 (by simp; omega)))⟩
          rw [qfrom_succ, HQ.out, ← List.append_assoc]
          exact ha3.1
        case measure => simp [intOf]; omega
      · have hqb : qb (bt s k) = [92, hexd (bt s k / 16).toNat, hexd (bt s k % 16).toNat] := by unfold qb; rw [hodd]; rfl
        have hxl := hex_lit
        have hdv : IntKind.u8.wrap ((bt s k).tdiv 16) = bt s k / 16 := by
          rw [Int.tdiv_eq_ediv_of_nonneg r0]
          show (bt s k / 16) % 256 = bt s k / 16
          omega
        have hmd : (bt s k).tmod 16 = bt s k % 16 := Int.tmod_eq_emod_of_nonneg r0
        have m0 : 0 ≤ bt s k / 16 := by omega
        have m1 : bt s k / 16 < 16 := by omega
        have m2 : 0 ≤ bt s k % 16 := by omega
        have m3 : bt s k % 16 < 16 := by omega
        have H2 := Lib.hid hqb
        have hcase : (decide (bt s k < 32) = true) ∨ (decide (bt s k < 32) = false ∧ decide (126 < bt s k) = true) ∨ (decide (bt s k < 32) = false ∧ decide (126 < bt s k) = false ∧ (bt s k == 34) = true) ∨ (decide (bt s k < 32) = false ∧ decide (126 < bt s k) = false ∧ (bt s k == 34) = false ∧ (bt s k == 92) = true) := by
          unfold odd at hodd
          revert hodd
          cases decide (bt s k < 32) <;> cases decide (126 < bt s k) <;> cases (bt s k == 34) <;> cases (bt s k == 92) <;> simp
        have ho2 := hown.below (((Below.refl wr.heap.size wr).drew).alloc (Nat.le_refl _) (.cells #[.int .u8 92, .int .u8 (hexd (bt s k / 16).toNat).toNat, .int .u8 (hexd (bt s k % 16).toNat).toNat] 5))
        have hsr2 := src_blk (Blk.new wr.drew 5 #[.int .u8 92, .int .u8 (hexd (bt s k / 16).toNat).toNat, .int .u8 (hexd (bt s k % 16).toNat).toNat]) [92, hexd (bt s k / 16).toNat, hexd (bt s k % 16).toNat] rfl
        have hbr2 : w.heap.size ≤ (wr.drew.alloc (.cells #[.int .u8 92, .int .u8 (hexd (bt s k / 16).toNat).toNat, .int .u8 (hexd (bt s k % 16).toNat).toNat] 5)).heap.size := by simp; omega
        clear hown hbel hqb hodd
        rcases hcase with b1 | ⟨b1, b2⟩ | ⟨b1, b2, b3⟩ | ⟨b1, b2, b3, b4⟩
        all_goals
          go_upto_region 7 with fail
          go_region_law ((refine step_addB (by rfl) _ _ (by rfl) (by rfl) ho2 (by rfl) hsr2 (by exact Nat.zero_lt_succ _) hbr2 (by rw [hlen]; simp; omega) ?_); intro v3 w3 ha3)
        all_goals
          go_wp2_with fail
          go_roundw
          case rel =>
            refine ⟨k + 1, v3, by omega, by go_num, rfl, ?_, HBL.out.trans ((((Below.refl wr.heap.size wr).drew.alloc (Nat.le_refl _) _).mono hbr).trans (NumAll.AddB.below ha3 ho2 hbr2))⟩
            rw [qfrom_succ, H2.out, ← List.append_assoc]
            exact ha3.1
          case measure => simp [intOf]; omega
    · obtain rfl : k = s.size := by omega
      have ho2 := hown.below (Below.alloc (Below.refl wr.heap.size wr) (Nat.le_refl _) (.cells #[.int .u8 34] 5))
      have hsr2 := src_blk (Blk.new wr 5 #[.int .u8 34]) [34] rfl
      clear hown hbel
      go_wp2_with (at_builtin; refine wpList_addB rfl _ _ rfl rfl ho2 rfl hsr2 (by decide) (by simp; omega) (by rw [hlen]; simp; omega) ?_; intro v3 w3 ha3; have hcv := run_string_own (P := Tryz.prog) (B := 82) (S := 9) u8und Tryz.underlying5 Tryz.underlying9 ha3.1)
      go_ret
      refine ⟨?_, HBL.out.trans ((((Below.refl wr.heap.size wr).alloc (Nat.le_refl _) _).mono hbr).trans (NumAll.AddB.below ha3 ho2 (by simp; omega)))⟩
      rfl
end Go.Proofs.YtkcfgcdlnojaeaaGreatDoor.RefQuote

namespace Go.Proofs.YtkcfgcdlnojaeaaGreatDoor.RefDigits
set_option maxRecDepth 100000
open Go.RowKit Go.PlainAid Base Query Bytes Digits Quoted QuoteAll TextLine NumAll LineBase RefQuote Rel

theorem oneV_stable {c : UInt8} (v : Value) (w w' : World) (hb : Below w.heap.size w w') (h : One c v w) : One c v w' := One.stays (.inl hb) h
theorem ba_app (a b : List UInt8) : ((⟨a.toArray⟩ : ByteArray) ++ (⟨b.toArray⟩ : ByteArray)) = ⟨(a ++ b).toArray⟩ := by
  apply ByteArray.ext
  rw [ByteArray.data_append]
  simp
theorem conv_one (w : World) {c : UInt8} {v : Value} (h : One c v w) : (convert 82 9 v).run Tryz.prog w = .ok (.string ⟨#[c]⟩) w := by
  obtain ⟨g, rfl, hg, hc⟩ := h
  exact run_convert_bytes_back (l := [c]) w 82 9 5 ⟨g, 0, none⟩ 1 u8und Tryz.underlying5 Tryz.underlying9 (fun j hj => by
    have : j = 0 := by simpa using hj
    subst this
    rw [Addr.add_lit]
    exact hc)
theorem dd_big {n : Nat} (h : ¬ n < 10) : Lib.decDigits n = Lib.decDigits (n / 10) ++ [UInt8.ofNat (48 + n % 10)] := by rw [Lib.decDigits, dif_neg h]

set_option maxHeartbeats 4000000 in
theorem rdigits_any (n : Nat) : ∀ (w : World), n < 18446744073709551616 → Calls Tryz.prog 85 #[.int .u64 n] w fun e w' => e = .returned (.string ⟨(Lib.decDigits n).toArray⟩) ∧ Below w.heap.size w w' := by
  induction n using Nat.strongRecOn with
  | _ n ih =>
    intro w hn
    by_cases h10 : n < 10
    · have h1 : (n : Int) < 10 := by omega
      have hd : decide ((n : Int) < 10) = true := decide_eq_true h1
      have hw1 : IntKind.u64.wrap (48 + (n : Int)) = 48 + (n : Int) := by show (48 + (n : Int)) % 18446744073709551616 = 48 + (n : Int); omega
      have hw2 : IntKind.u8.wrap (48 + (n : Int)) = 48 + (n : Int) := by show (48 + (n : Int)) % 256 = 48 + (n : Int); omega
      obtain ⟨c, hcc⟩ : ∃ c : UInt8, c = UInt8.ofNat (48 + n) := ⟨_, rfl⟩
      have hc : (c.toNat : Int) = 48 + (n : Int) := by rw [hcc, UInt8.toNat_ofNat']; omega
      rw [Lib.decDigits_one h10, ← hcc]
      have hcv := conv_one (w.alloc (.cells #[.int .u8 (48 + (n : Int))] 5)) (c := c) (by rw [← hc]; exact one_new w c _ rfl)
      clear hcc hc
      go_enter Tryz.func85, Tryz.ntmps85
      go_wp2_with fail
      go_ret
      exact ⟨rfl, (by (repeat (first | exact Below.refl _ _ | assumption | refine balloc ?_ _ | refine bdrew ?_ | refine bdrewN ?_ _ | refine bchain ?_ (by assumption))))⟩
    · have h1 : ¬ ((n : Int) < 10) := by omega
      have hd : decide ((n : Int) < 10) = false := decide_eq_false h1
      have hdv : (n : Int).tdiv 10 = ((n / 10 : Nat) : Int) := by rw [Int.tdiv_eq_ediv_of_nonneg (by omega)]; omega
      have hmd : (n : Int).tmod 10 = ((n % 10 : Nat) : Int) := by rw [Int.tmod_eq_emod_of_nonneg (by omega)]; omega
      have hw0 : IntKind.u64.wrap ((n / 10 : Nat) : Int) = ((n / 10 : Nat) : Int) := by show ((n / 10 : Nat) : Int) % 18446744073709551616 = _; omega
      have hw1 : IntKind.u64.wrap (48 + ((n % 10 : Nat) : Int)) = 48 + ((n % 10 : Nat) : Int) := by show (48 + ((n % 10 : Nat) : Int)) % 18446744073709551616 = _; omega
      have hw2 : IntKind.u8.wrap (48 + ((n % 10 : Nat) : Int)) = 48 + ((n % 10 : Nat) : Int) := by show (48 + ((n % 10 : Nat) : Int)) % 256 = _; omega
      have IH := Lib.hid (fun W => ih (n / 10) (by omega) W (by omega))
      obtain ⟨c, hcc⟩ : ∃ c : UInt8, c = UInt8.ofNat (48 + n % 10) := ⟨_, rfl⟩
      have hc : (c.toNat : Int) = 48 + ((n % 10 : Nat) : Int) := by rw [hcc, UInt8.toNat_ofNat']; omega
      rw [dd_big h10, ← hcc]
      have hlm : ¬ (9223372036854775807 < (Lib.decDigits (n / 10)).length + 1) := by
        have := (dlen (n := n / 10) (by omega)).2
        omega
      generalize n / 10 = m at *
      generalize n % 10 = r at *
      have HC := Lib.hid hc
      clear ih hcc
      go_enter Tryz.func85, Tryz.ntmps85
      go_upto_region 3 with fail
      refine Rel.wp_region_rel (fun wx => Below w.heap.size w wx) (fun wa wb => Below wa.heap.size wa wb) (by kernel_rfl) (by kernel_rfl) (bdrew (Below.refl _ _)) (fun _ => Below.refl _ _) ?_
      apply Rel.rel_one2 1 [] rfl (by kernel_rfl) (by kernel_rfl)
      case hs =>
        intro wx hx
        try simp only [Act.put, Base.s1, Base.s2, Base.s3]
        intro KK hK
        go_simp
        exact hK _ _ hx (Below.refl _ _) rfl
      apply Rel.rel_one2 2 [(0, 10)] rfl (by kernel_rfl) (by kernel_rfl)
      case hs =>
        intro wx hx
        rintro _ rfl
        try simp only [Act.put, Base.s1, Base.s2, Base.s3]
        intro KK hK
        go_simp
        exact hK _ _ hx (Below.refl _ _) rfl
      apply Rel.rel_one2 3 [(1, 11)] rfl (by kernel_rfl) (by kernel_rfl)
      case hs =>
        intro wx hx
        rintro _ rfl
        try simp only [Act.put, Base.s1, Base.s2, Base.s3]
        intro KK hK
        go_simp
        go_at_call 85
        refine (IH.out wx).mono ?_
        rintro e wy ⟨rfl, hby⟩
        exact hK _ _ (bchain hx hby) hby rfl
      apply Rel.rel_one2 4 [] rfl (by kernel_rfl) (by kernel_rfl)
      case hs =>
        intro wx hx
        try simp only [Act.put, Base.s1, Base.s2, Base.s3]
        intro KK hK
        go_simp
        exact hK _ _ hx (Below.refl _ _) rfl
      apply Rel.rel_one2 5 [(3, 13)] rfl (by kernel_rfl) (by kernel_rfl)
      case hs =>
        intro wx hx
        rintro _ rfl
        try simp only [Act.put, Base.s1, Base.s2, Base.s3]
        intro KK hK
        go_simp
        exact hK _ _ hx (Below.refl _ _) rfl
      apply Rel.rel_one2 6 [(4, 14)] rfl (by kernel_rfl) (by kernel_rfl)
      case hs =>
        intro wx hx
        rintro _ rfl
        try simp only [Act.put, Base.s1, Base.s2, Base.s3]
        intro KK hK
        go_simp
        exact hK _ _ hx (Below.refl _ _) rfl
      apply Rel.rel_one2 7 [(5, 15)] rfl (by kernel_rfl) (by kernel_rfl)
      case hs =>
        intro wx hx
        rintro _ rfl
        try simp only [Act.put, Base.s1, Base.s2, Base.s3]
        intro KK hK
        go_simp
        exact hK _ _ hx (Below.refl _ _) rfl
      apply Rel.rel_kind2 8 [(6, 16)] (One c) rfl (by kernel_rfl) (by kernel_rfl) (oneV_stable)
      case hs =>
        intro wx hx
        rintro _ rfl
        try simp only [Act.put, Base.s1, Base.s2, Base.s3]
        intro KK hK
        go_simp
        exact hK _ _ (balloc hx _) (balloc (Below.refl _ _) _) (one_new wx c _ hc.symm)
      apply Rel.rel_one2 9 [(7, 17)] rfl (by kernel_rfl) (by kernel_rfl)
      case hs =>
        intro wx hx
        rintro _ ⟨g17, rfl, h17, k17⟩
        try simp only [Act.put, Base.s1, Base.s2, Base.s3]
        intro KK hK
        go_simp
        have hcv := conv_one wx (c := c) ⟨g17, rfl, h17, k17⟩
        go_simp
        exact hK _ _ hx (Below.refl _ _) rfl
      apply Rel.rel_one2 10 [(2, 12), (8, 18)] rfl (by kernel_rfl) (by kernel_rfl)
      case hs =>
        intro wx hx
        rintro _ rfl _ rfl
        try simp only [Act.put, Base.s1, Base.s2, Base.s3]
        intro KK hK
        go_simp
        exact hK _ _ hx (Below.refl _ _) rfl
      apply Rel.rel_one2 11 [(9, 19)] rfl (by kernel_rfl) (by kernel_rfl)
      case hs =>
        intro wx hx
        rintro _ rfl
        try simp only [Act.put, Base.s1, Base.s2, Base.s3]
        intro KK hK
        go_simp
        exact hK _ _ hx (Below.refl _ _) rfl
      refine Rel.rel_end [(0, 10), (1, 11), (2, 12), (3, 13), (4, 14), (5, 15), (6, 16), (7, 17), (8, 18), (9, 19), (10, 2)] (by kernel_rfl) (by kernel_rfl) ?_
      intro wx hx
      rintro _ rfl _ rfl _ rfl _ rfl _ rfl _ rfl _ rfl _ ⟨g17, rfl, h17, k17⟩ _ rfl _ rfl _ rfl
      try simp only [Act.put, Base.s1, Base.s2, Base.s3]
      refine Rel.valsD_ret ?_
      go_wp2_with fail
      go_ret
      refine ⟨?_, hx⟩
      exact congrArg (fun b => Ending.returned (.string b)) (ba_app _ [c])

set_option maxHeartbeats 2000000 in
theorem rended_any (b : Bnd) (w : World) (hs : b.text.size ≤ 1099511627776) : Calls Tryz.prog 87 #[.agg #[.bool b.op, .bool b.inn, .string b.text]] w fun e w' => e = .returned (.string ⟨(endL b).toArray⟩) ∧ Below w.heap.size w w' := by
  obtain ⟨o, i, t⟩ := b
  simp only at hs ⊢
  have RQ := Lib.hid (fun W => rquoted_any t W (by omega))
  have hl : ¬ (9223372036854775807 < 1 + (quoteL t).length) := by have := quote_len t; omega
  have e1 := ba_app [61] (quoteL t)
  have e2 := ba_app [33] (quoteL t)
  generalize hq : quoteL t = Q at *
  have E1 := Lib.hid e1
  have E2 := Lib.hid e2
  have HQ := Lib.hid hq
  clear e1 e2 hq
  cases o <;> cases i
  all_goals
    go_enter Tryz.func87, Tryz.ntmps87
    go_wp2_with (go_at_call 86; refine (RQ.out _).mono ?_; rintro e w2 ⟨rfl, hb2⟩)
    go_ret
    refine ⟨?_, (by (repeat (first | exact Below.refl _ _ | assumption | refine balloc ?_ _ | refine bdrew ?_ | refine bdrewN ?_ _ | refine bchain ?_ (by assumption))))⟩
    first
      | exact congrArg (fun b => Ending.returned (.string b)) (E1.out.trans (by rw [← HQ.out]; rfl))
      | exact congrArg (fun b => Ending.returned (.string b)) (E2.out.trans (by rw [← HQ.out]; rfl))
      | rfl
end Go.Proofs.YtkcfgcdlnojaeaaGreatDoor.RefDigits

namespace Go.Proofs.YtkcfgcdlnojaeaaGreatDoor.StrAdd
set_option maxRecDepth 100000
open Go.RowKit Go.PlainAid Base RefDigits

theorem run_sadd (a b : List UInt8) (hl : a.length + b.length ≤ 9223372036854775807) (w : World) :
    (Go.binOp .add 9 (.string ⟨a.toArray⟩) (.string ⟨b.toArray⟩)).run Tryz.prog w = Result.ok (.string ⟨(a ++ b).toArray⟩) w := by
  have h : ¬ (9223372036854775807 < a.length + b.length) := by omega
  rw [← ba_app]
  go_simp

section
variable {ops : Array Oper} {a : Act} {w : World} {x y : Operand}
theorem wp_sadd {K : Act → World → Prop} {Q : Exit → Act → World → Prop} {o : Oper} {u : TypeId} (l m : List UInt8) (ho : o.op = .binOp .add 9 x y u) (hx : a.eval x = .string ⟨l.toArray⟩) (hy : a.eval y = .string ⟨m.toArray⟩) (hl : l.length + m.length ≤ 9223372036854775807)
    (h : K (a.put o.dst (.string ⟨(l ++ m).toArray⟩)) w) : o.wp Tryz.prog a w K Q := by
  unfold Oper.wp execOp
  simp only [ho, hx, hy, Sem.run_bind, Sem.run_pure, Result.andThen_ok, run_sadd l m hl]
  exact h
theorem wpList_sadd {rest : List Oper} {Q : Exit → Act → World → Prop} {dst : Option Tmp} {u t : TypeId} {pos : String} {after : Array Edge} {l m : List UInt8} (hx : a.eval x = .string ⟨l.toArray⟩) (hy : a.eval y = .string ⟨m.toArray⟩) (hl : l.length + m.length ≤ 9223372036854775807)
    (h : wpList Tryz.prog ops Q rest (a.put dst (.string ⟨(l ++ m).toArray⟩)) w) : wpList Tryz.prog ops Q (⟨dst, .binOp .add 9 x y u, t, pos, after, none⟩ :: rest) a w :=
  wpList_plain rfl fun _ hK => wp_sadd l m rfl hx hy hl (hK _ _ h)
theorem step_sadd {K : Act → World → Prop} {Q : Exit → Act → World → Prop} {E : Prop} {o : Oper} {u : TypeId} (l m : List UInt8) (hgd : o.guard = none) (ho : o.op = .binOp .add 9 x y u) (hx : a.eval x = .string ⟨l.toArray⟩) (hy : a.eval y = .string ⟨m.toArray⟩) (hl : l.length + m.length ≤ 9223372036854775807)
    (h : K (a.put o.dst (.string ⟨(l ++ m).toArray⟩)) w) : if Region.wanted o (yielded ops a.tmps) = true then Oper.wp Tryz.prog o a w K Q else E := by
  have hw : Region.wanted o (yielded ops a.tmps) = true := by simp [Region.wanted, hgd]
  rw [if_pos hw]
  exact wp_sadd l m ho hx hy hl h
theorem step_assign {K : Act → World → Prop} {Q : Exit → Act → World → Prop} {E : Prop} {o : Oper} (v : Value) (hgd : o.guard = none) (ho : o.op = .assign x) (hx : a.eval x = v) (h : K (a.put o.dst v) w) : if Region.wanted o (yielded ops a.tmps) = true then Oper.wp Tryz.prog o a w K Q else E := by
  have hw : Region.wanted o (yielded ops a.tmps) = true := by simp [Region.wanted, hgd]
  rw [if_pos hw]
  unfold Oper.wp execOp
  simp only [ho, hx, Sem.run_bind, Sem.run_pure, Result.andThen_ok]
  exact h
end
end Go.Proofs.YtkcfgcdlnojaeaaGreatDoor.StrAdd
