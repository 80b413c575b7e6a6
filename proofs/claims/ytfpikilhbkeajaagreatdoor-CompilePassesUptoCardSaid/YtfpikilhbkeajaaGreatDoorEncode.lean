/-
  isa.Encode: the bytes of instructions.
-/
import Derived.Test.YtfpikilhbkeajaaGreatDoorCWr
set_option linter.unusedVariables false
set_option linter.unusedSimpArgs false
namespace Go.Proofs.YtfpikilhbkeajaaGreatDoor.Encode
set_option maxRecDepth 100000
open Go.RowKit Go.PlainAid Base EmitPlain EmitBase Writer Args Concat

def insOk (i : Ins) : Bool := okN i.op && !(decide (argI i.op < 1) && i.a != 0) && !(decide (argI i.op < 2) && i.b != 0)
def encI (i : Ins) : List UInt8 := UInt8.ofNat i.op.toNat :: ((if 0 < argI i.op then uvar i.a.toNat else []) ++ (if 1 < argI i.op then uvar i.b.toNat else []))
def enc (L : List Ins) : List UInt8 := (L.map encI).flatten
theorem enc_take {L : List Ins} {j : Nat} {i : Ins} (h : L[j]? = some i) : enc (L.take (j + 1)) = enc (L.take j) ++ encI i := by
  unfold enc
  rw [List.take_add_one, h, List.map_append, List.flatten_append]
  simp
theorem ins_cell : ∀ {L : List Ins} {j : Nat} {i : Ins}, L[j]? = some i → ∀ t u, (insC i)[t]? = some u → (insCs L)[j * 3 + t]? = some u
  | x :: r, 0, i, h, t, u, hu => by
    obtain rfl : x = i := by simpa using h
    rw [show x :: r = [x] ++ r from rfl, insCs_app, insCs_one, List.getElem?_append_left (by have := (List.getElem?_eq_some_iff.1 hu).1; omega)]
    simpa using hu
  | x :: r, j + 1, i, h, t, u, hu => by
    rw [show x :: r = [x] ++ r from rfl, insCs_app, insCs_one, List.getElem?_append_right (by simp [insC]; omega)]
    have := ins_cell (L := r) (j := j) (i := i) (by simpa using h) t u hu
    rw [show (j + 1) * 3 + t - (insC x).length = j * 3 + t by simp [insC]; omega]
    exact this
theorem encI_len {i : Ins} (ha : i.a < 18446744073709551616) (hb : i.b < 18446744073709551616) : (encI i).length ≤ 21 := by
  unfold encI
  have h1 := uvar_len 9 i.a.toNat (by omega)
  have h2 := uvar_len 9 i.b.toNat (by omega)
  rw [List.length_cons, List.length_append]
  split <;> split <;> (try simp only [List.length_nil]) <;> omega
theorem enc_len : ∀ {L : List Ins}, (∀ i ∈ L, i.a < 18446744073709551616 ∧ i.b < 18446744073709551616) → (enc L).length ≤ 21 * L.length
  | [], _ => by simp [enc]
  | x :: r, h => by
    have h1 := encI_len (h x (List.mem_cons_self ..)).1 (h x (List.mem_cons_self ..)).2
    have h2 := enc_len (L := r) (fun i hi => h i (List.mem_cons_of_mem _ hi))
    have : enc (x :: r) = encI x ++ enc r := by simp [enc]
    rw [this, List.length_append, List.length_cons]
    omega
theorem all_take {L : List Ins} {j : Nat} {i : Ins} (h : L[j]? = some i) (ha : (L.take j).all insOk = true) (hi : insOk i = true) : (L.take (j + 1)).all insOk = true := by
  rw [List.take_add_one, h, List.all_append, ha]
  simp [hi]
theorem all_bad {L : List Ins} {j : Nat} {i : Ins} (h : L[j]? = some i) (hi : insOk i = false) : L.all insOk = false := by
  rw [List.all_eq_false]
  exact ⟨i, List.mem_of_getElem? h, by simp [hi]⟩

theorem argI_cases (k : Int) : argI k = 0 ∨ argI k = 1 ∨ argI k = 2 := by
  unfold argI argN
  split
  · split
    · exact .inr (.inl rfl)
    · split
      · exact .inr (.inr rfl)
      · exact .inl rfl
  · exact .inl rfl
theorem slc_self {w : World} {B : Nat} {A : Option Addr} {xs : List Value} (h : Slc w B A xs) : Slc w w.heap.size A xs := fun hx => by
  obtain ⟨g, o, e, _, hc⟩ := h hx
  refine ⟨g, o, e, ?_, hc⟩
  cases xs with
  | nil => exact absurd rfl hx
  | cons x r =>
    have := hc 0 x rfl
    rcases Nat.lt_or_ge g w.heap.size with h | h
    · exact h
    · simp [World.cell?, Array.getElem?_eq_none h] at this
def EncR (L : List Ins) (ev : Value) (e : Ending) (w' : World) : Prop :=
  (L.all insOk = true ∧ ∃ A, e = .returned (.tuple #[.slice A (enc L).length (enc L).length, Value.nilIface]) ∧ Slc w' w'.heap.size A (byteCells (enc L))) ∨ (L.all insOk = false ∧ e = .returned (.tuple #[.slice none 0 0, ev]))

set_option maxHeartbeats 8000000 in
theorem encode_any (L : List Ins) (A : Option Addr) (c N : Nat) (ev : Value) (w : World) (S : Slc w N A (insCs L)) (hN : N ≤ w.heap.size) (T : Tab w) (hT : 24 < w.heap.size)
    (HI : ∀ i ∈ L, (0 ≤ i.a ∧ i.a < 18446744073709551616) ∧ (0 ≤ i.b ∧ i.b < 18446744073709551616)) (he : w.cell? ⟨16, 0, none⟩ = some ev) (hE : 16 < w.heap.size) (hL : L.length ≤ 1073741824) :
    Calls Tryz.prog 24 #[.slice A L.length c] w fun e w' => EncR L ev e w' ∧ Below w.heap.size w w' := by
  have NW := Lib.hid (newWriter_any w)
  have HS := Lib.hid S
  have HT := Lib.hid T
  have HH := Lib.hid HI
  clear S T HI
  go_enter Tryz.func24, Tryz.ntmps24
  go_wp2_with (go_at_call 52; refine NW.out.mono ?_; rintro e w0 ⟨rfl, m0, q0⟩; have HM0 := Lib.hid m0; clear m0)
  go_loopw [12] (fun s wr => ∃ j : Nat, j ≤ L.length ∧ s = .int .i64 (j : Int) ∧ Below w.heap.size w wr ∧ (L.take j).all insOk = true ∧ ∃ v, Wr wr w.heap.size (enc (L.take j)) v) (fun s _ => L.length - (intOf s).toNat)
  case atStart => exact ⟨0, Nat.zero_le _, rfl, q0, by simp, _, HM0.out⟩
  case round =>
    obtain ⟨j, hj, rfl, hbel, hall, v, hm⟩ := hrel
    have HA := Lib.hid hall
    have HM := Lib.hid hm
    clear hall hm
    rcases Nat.lt_or_ge j L.length with hlt | hge
    · obtain ⟨⟨op, a, b⟩, hi⟩ : ∃ i, L[j]? = some i := ⟨_, List.getElem?_eq_getElem hlt⟩
      have hmem := List.mem_of_getElem? hi
      obtain ⟨⟨ha1, ha2⟩, hb1, hb2⟩ := HH.out _ hmem
      simp only at ha1 ha2 hb1 hb2
      obtain ⟨na, rfl⟩ := Int.eq_ofNat_of_zero_le ha1
      obtain ⟨nb, rfl⟩ := Int.eq_ofNat_of_zero_le hb1
      obtain ⟨g, o, rfl, hg, hc⟩ := HS.out (by intro h; have := insCs_len L; rw [h] at this; simp at this; omega)
      have c0 : wr.cell? ⟨g, o + j * 3, none⟩ = some (.int .i64 op) := (hbel.cell (p := ⟨g, o + j * 3, none⟩) (show g < _ by omega)).trans (hc (j * 3 + 0) _ (ins_cell hi 0 _ rfl))
      have c1 : wr.cell? ⟨g, o + j * 3 + 1, none⟩ = some (.int .u64 (na : Int)) := (hbel.cell (p := ⟨g, o + j * 3 + 1, none⟩) (show g < _ by omega)).trans (hc (j * 3 + 1) _ (ins_cell hi 1 _ rfl))
      have c2 : wr.cell? ⟨g, o + j * 3 + 2, none⟩ = some (.int .u64 (nb : Int)) := (hbel.cell (p := ⟨g, o + j * 3 + 2, none⟩) (show g < _ by omega)).trans (hc (j * 3 + 2) _ (ins_cell hi 2 _ rfl))
      have i2 : (j : Int) < (L.length : Int) := by omega
      have HB := Lib.hid hbel
      have HI2 := Lib.hid hi
      clear hmem ha1 hb1 hc hbel hi
      cases hok : okN op
      · have HOK := Lib.hid hok
        have HN := Lib.hid (show ((argI op : Nat) : Int) = 0 by unfold argI; rw [hok]; rfl)
        have HBAD := Lib.hid (all_bad HI2.out (by unfold insOk; rw [hok]; rfl))
        clear hok
        go_wp2_with (go_at_call 40; refine (args_any op _ (HT.out.below (Below.alloc HB.out HB.out.size _) hT)).mono ?_; rintro e w2 ⟨rfl, q2⟩; have KX : Blk w2 wr.heap.size 84 #[.int .i64 op, .int .u64 (na : Int), .int .u64 (nb : Int)] := (Blk.new wr _ _).below q2 (by simp); have d0 : w2.cell? ⟨wr.heap.size, 0, none⟩ = some (.int .i64 op) := KX.cell 0; have d1 : w2.cell? ⟨wr.heap.size, 1, none⟩ = some (.int .u64 (na : Int)) := KX.cell 1; have d2 : w2.cell? ⟨wr.heap.size, 2, none⟩ = some (.int .u64 (nb : Int)) := KX.cell 2; have qr : Below wr.heap.size wr w2 := bchain (Below.alloc (Below.refl _ _) (Nat.le_refl _) _) q2; have qw : Below w.heap.size w w2 := bchain HB.out qr; have he2 : w2.cell? ⟨16, 0, none⟩ = some ev := (qw.cell (p := ⟨16, 0, none⟩) hE).trans he; have HKX := Lib.hid KX; clear KX; rw [HOK.out, HN.out])
        go_region
        go_wp2_with fail
        go_ret2
        exact ⟨.inr ⟨HBAD.out, rfl⟩, qw.drew⟩
      · have HOK := Lib.hid hok
        obtain ⟨k, rfl, hk⟩ : ∃ k : Nat, op = (k : Int) ∧ k < 17 := by
          have h := hok
          unfold okN at h
          rw [Bool.and_eq_true, decide_eq_true_iff, decide_eq_true_iff] at h
          exact ⟨op.toNat, by omega, by omega⟩
        have w8 := wrap8 k
        have HBV := Lib.hid (byte_low (k := k) (by omega))
        have hne : wr.heap.size ≠ w.heap.size := by have := HM.out.lt; omega
        have HLJ := Lib.hid (show (enc (L.take j)).length ≤ 1099511600000 by
          have h1 := enc_len (L := L.take j) fun i hi => ⟨(HH.out i (List.mem_of_mem_take hi)).1.2, (HH.out i (List.mem_of_mem_take hi)).2.2⟩
          have h2 : (L.take j).length ≤ L.length := by rw [List.length_take]; omega
          omega)
        rcases argI_cases (k : Int) with hn | hn | hn
        · have HN := Lib.hid (show ((argI (k : Int) : Nat) : Int) = 0 by rw [hn]; rfl)
          rcases (by omega : na ≠ 0 ∨ na = 0) with ha | ha
          · have HBAD := Lib.hid (all_bad HI2.out (by unfold insOk; simp only [hok, hn]; simp; omega))
            have naz1 : ((na : Int) == 0) = false := beq_eq_false_iff_ne.2 (by omega)
            have naz2 : ((na : Int) != 0) = true := by simp; omega
            have naz3 : (na == 0) = false := beq_eq_false_iff_ne.2 (by omega)
            clear ha
            clear hok hn
            go_wp2_with (go_at_call 40; refine (args_any (k : Int) _ (HT.out.below (Below.alloc HB.out HB.out.size _) hT)).mono ?_; rintro e w2 ⟨rfl, q2⟩; have KX : Blk w2 wr.heap.size 84 #[.int .i64 (k : Int), .int .u64 (na : Int), .int .u64 (nb : Int)] := (Blk.new wr _ _).below q2 (by simp); have d0 : w2.cell? ⟨wr.heap.size, 0, none⟩ = some (.int .i64 (k : Int)) := KX.cell 0; have d1 : w2.cell? ⟨wr.heap.size, 1, none⟩ = some (.int .u64 (na : Int)) := KX.cell 1; have d2 : w2.cell? ⟨wr.heap.size, 2, none⟩ = some (.int .u64 (nb : Int)) := KX.cell 2; have qr : Below wr.heap.size wr w2 := bchain (Below.alloc (Below.refl _ _) (Nat.le_refl _) _) q2; have qw : Below w.heap.size w w2 := bchain HB.out qr; have he2 : w2.cell? ⟨16, 0, none⟩ = some ev := (qw.cell (p := ⟨16, 0, none⟩) hE).trans he; have HKX := Lib.hid KX; clear KX; rw [HOK.out, HN.out])
            go_region
            go_wp2_with fail
            go_ret2
            exact ⟨.inr ⟨HBAD.out, rfl⟩, qw.drew⟩
          rcases (by omega : nb ≠ 0 ∨ nb = 0) with hb | hb
          · have HBAD := Lib.hid (all_bad HI2.out (by unfold insOk; simp only [hok, hn]; simp; omega))
            have naz1 : ((na : Int) == 0) = true := beq_iff_eq.2 (by omega)
            have naz2 : ((na : Int) != 0) = false := by simp; omega
            have naz3 : (na == 0) = true := beq_iff_eq.2 (by omega)
            have nbz1 : ((nb : Int) == 0) = false := beq_eq_false_iff_ne.2 (by omega)
            have nbz2 : ((nb : Int) != 0) = true := by simp; omega
            have nbz3 : (nb == 0) = false := beq_eq_false_iff_ne.2 (by omega)
            clear ha hb
            clear hok hn
            go_wp2_with (go_at_call 40; refine (args_any (k : Int) _ (HT.out.below (Below.alloc HB.out HB.out.size _) hT)).mono ?_; rintro e w2 ⟨rfl, q2⟩; have KX : Blk w2 wr.heap.size 84 #[.int .i64 (k : Int), .int .u64 (na : Int), .int .u64 (nb : Int)] := (Blk.new wr _ _).below q2 (by simp); have d0 : w2.cell? ⟨wr.heap.size, 0, none⟩ = some (.int .i64 (k : Int)) := KX.cell 0; have d1 : w2.cell? ⟨wr.heap.size, 1, none⟩ = some (.int .u64 (na : Int)) := KX.cell 1; have d2 : w2.cell? ⟨wr.heap.size, 2, none⟩ = some (.int .u64 (nb : Int)) := KX.cell 2; have qr : Below wr.heap.size wr w2 := bchain (Below.alloc (Below.refl _ _) (Nat.le_refl _) _) q2; have qw : Below w.heap.size w w2 := bchain HB.out qr; have he2 : w2.cell? ⟨16, 0, none⟩ = some ev := (qw.cell (p := ⟨16, 0, none⟩) hE).trans he; have HKX := Lib.hid KX; clear KX; rw [HOK.out, HN.out])
            go_region
            go_wp2_with fail
            go_ret2
            exact ⟨.inr ⟨HBAD.out, rfl⟩, qw.drew⟩
          · have HOKI := Lib.hid (show insOk ⟨(k : Int), (na : Int), (nb : Int)⟩ = true by unfold insOk; simp only [hok, hn]; simp; try omega)
            have HENC := Lib.hid (show encI ⟨(k : Int), (na : Int), (nb : Int)⟩ = [UInt8.ofNat k] by unfold encI; simp only [hn]; simp)
            have naz1 : ((na : Int) == 0) = true := beq_iff_eq.2 (by omega)
            have naz2 : ((na : Int) != 0) = false := by simp; omega
            have naz3 : (na == 0) = true := beq_iff_eq.2 (by omega)
            have nbz1 : ((nb : Int) == 0) = true := beq_iff_eq.2 (by omega)
            have nbz2 : ((nb : Int) != 0) = false := by simp; omega
            have nbz3 : (nb == 0) = true := beq_iff_eq.2 (by omega)
            clear ha hb
            clear hok hn
            go_wp2_with (first | (go_at_call 40; refine (args_any (k : Int) _ (HT.out.below (Below.alloc HB.out HB.out.size _) hT)).mono ?_; rintro e w2 ⟨rfl, q2⟩; have KX : Blk w2 wr.heap.size 84 #[.int .i64 (k : Int), .int .u64 (na : Int), .int .u64 (nb : Int)] := (Blk.new wr _ _).below q2 (by simp); have d0 : w2.cell? ⟨wr.heap.size, 0, none⟩ = some (.int .i64 (k : Int)) := KX.cell 0; have d1 : w2.cell? ⟨wr.heap.size, 1, none⟩ = some (.int .u64 (na : Int)) := KX.cell 1; have d2 : w2.cell? ⟨wr.heap.size, 2, none⟩ = some (.int .u64 (nb : Int)) := KX.cell 2; have qr : Below wr.heap.size wr w2 := bchain (Below.alloc (Below.refl _ _) (Nat.le_refl _) _) q2; have qw : Below w.heap.size w w2 := bchain HB.out qr; have he2 : w2.cell? ⟨16, 0, none⟩ = some ev := (qw.cell (p := ⟨16, 0, none⟩) hE).trans he; have HKX := Lib.hid KX; clear KX; rw [HOK.out, HN.out]) | (go_at_call 53; go_loud (rw [HBV.out]; refine (byte_any w.heap.size _ v _ w2 (HM.out.stay qr) (Nat.le_trans HLJ.out (by decide))).mono ?_; rintro e w3 ⟨rfl, q3, k3, v3, m3⟩; have HKX3 := Lib.hid (Blk.kw HKX.out k3 (by decide) hne); have e1 : w3.cell? ⟨wr.heap.size, 1, none⟩ = some (.int .u64 (na : Int)) := HKX3.out.cell 1; have e2 : w3.cell? ⟨wr.heap.size, 2, none⟩ = some (.int .u64 (nb : Int)) := HKX3.out.cell 2; have M3 := Lib.hid m3; clear m3)))
            go_roundw
            case rel => exact ⟨j + 1, by omega, by go_num, qw.trans q3, all_take HI2.out HA.out HOKI.out, v3, by rw [enc_take HI2.out, HENC.out]; exact M3.out⟩
            case measure => simp [intOf]; omega
        · have HN := Lib.hid (show ((argI (k : Int) : Nat) : Int) = 1 by rw [hn]; rfl)
          rcases (by omega : nb ≠ 0 ∨ nb = 0) with hb | hb
          · have HBAD := Lib.hid (all_bad HI2.out (by unfold insOk; simp only [hok, hn]; simp; omega))
            have nbz1 : ((nb : Int) == 0) = false := beq_eq_false_iff_ne.2 (by omega)
            have nbz2 : ((nb : Int) != 0) = true := by simp; omega
            have nbz3 : (nb == 0) = false := beq_eq_false_iff_ne.2 (by omega)
            clear hb
            clear hok hn
            go_wp2_with (go_at_call 40; refine (args_any (k : Int) _ (HT.out.below (Below.alloc HB.out HB.out.size _) hT)).mono ?_; rintro e w2 ⟨rfl, q2⟩; have KX : Blk w2 wr.heap.size 84 #[.int .i64 (k : Int), .int .u64 (na : Int), .int .u64 (nb : Int)] := (Blk.new wr _ _).below q2 (by simp); have d0 : w2.cell? ⟨wr.heap.size, 0, none⟩ = some (.int .i64 (k : Int)) := KX.cell 0; have d1 : w2.cell? ⟨wr.heap.size, 1, none⟩ = some (.int .u64 (na : Int)) := KX.cell 1; have d2 : w2.cell? ⟨wr.heap.size, 2, none⟩ = some (.int .u64 (nb : Int)) := KX.cell 2; have qr : Below wr.heap.size wr w2 := bchain (Below.alloc (Below.refl _ _) (Nat.le_refl _) _) q2; have qw : Below w.heap.size w w2 := bchain HB.out qr; have he2 : w2.cell? ⟨16, 0, none⟩ = some ev := (qw.cell (p := ⟨16, 0, none⟩) hE).trans he; have HKX := Lib.hid KX; clear KX; rw [HOK.out, HN.out])
            go_region
            go_wp2_with fail
            go_ret2
            exact ⟨.inr ⟨HBAD.out, rfl⟩, qw.drew⟩
          · have HOKI := Lib.hid (show insOk ⟨(k : Int), (na : Int), (nb : Int)⟩ = true by unfold insOk; simp only [hok, hn]; simp; try omega)
            have HENC := Lib.hid (show encI ⟨(k : Int), (na : Int), (nb : Int)⟩ = [UInt8.ofNat k] ++ uvar na by unfold encI; simp only [hn]; simp)
            have nbz1 : ((nb : Int) == 0) = true := beq_iff_eq.2 (by omega)
            have nbz2 : ((nb : Int) != 0) = false := by simp; omega
            have nbz3 : (nb == 0) = true := beq_iff_eq.2 (by omega)
            clear hb
            clear hok hn
            go_wp2_with (first | (go_at_call 40; refine (args_any (k : Int) _ (HT.out.below (Below.alloc HB.out HB.out.size _) hT)).mono ?_; rintro e w2 ⟨rfl, q2⟩; have KX : Blk w2 wr.heap.size 84 #[.int .i64 (k : Int), .int .u64 (na : Int), .int .u64 (nb : Int)] := (Blk.new wr _ _).below q2 (by simp); have d0 : w2.cell? ⟨wr.heap.size, 0, none⟩ = some (.int .i64 (k : Int)) := KX.cell 0; have d1 : w2.cell? ⟨wr.heap.size, 1, none⟩ = some (.int .u64 (na : Int)) := KX.cell 1; have d2 : w2.cell? ⟨wr.heap.size, 2, none⟩ = some (.int .u64 (nb : Int)) := KX.cell 2; have qr : Below wr.heap.size wr w2 := bchain (Below.alloc (Below.refl _ _) (Nat.le_refl _) _) q2; have qw : Below w.heap.size w w2 := bchain HB.out qr; have he2 : w2.cell? ⟨16, 0, none⟩ = some ev := (qw.cell (p := ⟨16, 0, none⟩) hE).trans he; have HKX := Lib.hid KX; clear KX; rw [HOK.out, HN.out]) | (go_at_call 53; go_loud (rw [HBV.out]; refine (byte_any w.heap.size _ v _ w2 (HM.out.stay qr) (Nat.le_trans HLJ.out (by decide))).mono ?_; rintro e w3 ⟨rfl, q3, k3, v3, m3⟩; have HKX3 := Lib.hid (Blk.kw HKX.out k3 (by decide) hne); have e1 : w3.cell? ⟨wr.heap.size, 1, none⟩ = some (.int .u64 (na : Int)) := HKX3.out.cell 1; have e2 : w3.cell? ⟨wr.heap.size, 2, none⟩ = some (.int .u64 (nb : Int)) := HKX3.out.cell 2; have M3 := Lib.hid m3; clear m3)) | (go_at_call 54; (with_reducible refine (uvarint_any na w.heap.size _ v3 w3 (by omega) M3.out (by rw [List.length_append]; have := HLJ.out; simp only [List.length_cons, List.length_nil]; omega)).mono ?_); rintro e w4 ⟨rfl, q4, k4, v4, m4⟩; have HKX4 := Lib.hid (Blk.kw HKX3.out k4 (by decide) hne); have g2 : w4.cell? ⟨wr.heap.size, 2, none⟩ = some (.int .u64 (nb : Int)) := HKX4.out.cell 2; have M4 := Lib.hid m4; clear m4))
            go_roundw
            case rel => exact ⟨j + 1, by omega, by go_num, (qw.trans q3).trans q4, all_take HI2.out HA.out HOKI.out, v4, by rw [enc_take HI2.out, HENC.out, ← List.append_assoc]; exact M4.out⟩
            case measure => simp [intOf]; omega
        · have HN := Lib.hid (show ((argI (k : Int) : Nat) : Int) = 2 by rw [hn]; rfl)
          have HOKI := Lib.hid (show insOk ⟨(k : Int), (na : Int), (nb : Int)⟩ = true by unfold insOk; simp only [hok, hn]; simp; try omega)
          have HENC := Lib.hid (show encI ⟨(k : Int), (na : Int), (nb : Int)⟩ = [UInt8.ofNat k] ++ (uvar na ++ uvar nb) by unfold encI; simp only [hn]; simp)
          have HUL := Lib.hid (uvar_len 9 na (by omega))
          clear hok hn
          go_wp2_with (first | (go_at_call 40; refine (args_any (k : Int) _ (HT.out.below (Below.alloc HB.out HB.out.size _) hT)).mono ?_; rintro e w2 ⟨rfl, q2⟩; have KX : Blk w2 wr.heap.size 84 #[.int .i64 (k : Int), .int .u64 (na : Int), .int .u64 (nb : Int)] := (Blk.new wr _ _).below q2 (by simp); have d0 : w2.cell? ⟨wr.heap.size, 0, none⟩ = some (.int .i64 (k : Int)) := KX.cell 0; have d1 : w2.cell? ⟨wr.heap.size, 1, none⟩ = some (.int .u64 (na : Int)) := KX.cell 1; have d2 : w2.cell? ⟨wr.heap.size, 2, none⟩ = some (.int .u64 (nb : Int)) := KX.cell 2; have qr : Below wr.heap.size wr w2 := bchain (Below.alloc (Below.refl _ _) (Nat.le_refl _) _) q2; have qw : Below w.heap.size w w2 := bchain HB.out qr; have he2 : w2.cell? ⟨16, 0, none⟩ = some ev := (qw.cell (p := ⟨16, 0, none⟩) hE).trans he; have HKX := Lib.hid KX; clear KX; rw [HOK.out, HN.out]) | (go_at_call 53; go_loud (rw [HBV.out]; refine (byte_any w.heap.size _ v _ w2 (HM.out.stay qr) (Nat.le_trans HLJ.out (by decide))).mono ?_; rintro e w3 ⟨rfl, q3, k3, v3, m3⟩; have HKX3 := Lib.hid (Blk.kw HKX.out k3 (by decide) hne); have e1 : w3.cell? ⟨wr.heap.size, 1, none⟩ = some (.int .u64 (na : Int)) := HKX3.out.cell 1; have e2 : w3.cell? ⟨wr.heap.size, 2, none⟩ = some (.int .u64 (nb : Int)) := HKX3.out.cell 2; have M3 := Lib.hid m3; clear m3)) | (go_at_call 54; (with_reducible refine (uvarint_any na w.heap.size _ v3 w3 (by omega) M3.out (by rw [List.length_append]; have := HLJ.out; simp only [List.length_cons, List.length_nil]; omega)).mono ?_); rintro e w4 ⟨rfl, q4, k4, v4, m4⟩; have HKX4 := Lib.hid (Blk.kw HKX3.out k4 (by decide) hne); have g2 : w4.cell? ⟨wr.heap.size, 2, none⟩ = some (.int .u64 (nb : Int)) := HKX4.out.cell 2; have M4 := Lib.hid m4; clear m4) | (go_at_call 54; (with_reducible refine (uvarint_any nb w.heap.size _ v4 w4 (by omega) M4.out (by rw [List.length_append, List.length_append]; have := HLJ.out; have := HUL.out; simp only [List.length_cons, List.length_nil]; omega)).mono ?_); rintro e w5 ⟨rfl, q5, k5, v5, m5⟩; have M5 := Lib.hid m5; clear m5))
          go_roundw
          case rel => exact ⟨j + 1, by omega, by go_num, ((qw.trans q3).trans q4).trans q5, all_take HI2.out HA.out HOKI.out, v5, by rw [enc_take HI2.out, HENC.out, ← List.append_assoc, ← List.append_assoc]; exact M5.out⟩
          case measure => simp [intOf]; omega
    · obtain rfl : j = L.length := by omega
      have HO := Lib.hid (show L.all insOk = true by have := HA.out; rwa [List.take_length] at this)
      have HMM := Lib.hid (show Wr wr w.heap.size (enc L) v by have := HM.out; rwa [List.take_length] at this)
      have HLJ := Lib.hid (show (enc L).length ≤ 1099511600000 by
        have h1 := enc_len (L := L) fun i hi => ⟨(HH.out i hi).1.2, (HH.out i hi).2.2⟩
        omega)
      have HB := Lib.hid hbel
      clear hbel hge
      go_wp2_with (go_at_call 55; refine (bytes_any w.heap.size (enc L) v _ HMM.out (Nat.le_trans HLJ.out (by decide))).mono ?_; rintro e w2 ⟨A2, rfl, q2, S2⟩)
      go_ret2
      exact ⟨.inl ⟨HO.out, A2, rfl, slc_self S2⟩, bchain HB.out q2⟩
end Go.Proofs.YtfpikilhbkeajaaGreatDoor.Encode
