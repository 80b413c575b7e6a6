/-
  The walk of the emitter's list.
-/
import Derived.Test.YtfpikilhbkeajaaGreatDoorCEmitC
set_option linter.unusedVariables false
set_option linter.unusedSimpArgs false
namespace Go.Proofs.YtfpikilhbkeajaaGreatDoor.EmitList
set_option maxRecDepth 100000
open Go.RowKit Go.PlainAid Base Query QrySize EmitPlain EmitBase EmitPut LeafMap EmitNear EmitRaw EmitMost EmitSplit EmitMiss EmitExt EmitOpt EmitNots EmitNeed EmitMusts

def SplV (E : Nat) (qs : List Qry) (_ : List Value) : Rel.Fact := fun v w => E ≤ w.heap.size ∧ ∃ A c, v = .slice A qs.length c ∧ KLQ w E A qs
theorem splV_stable {E : Nat} {qs : List Qry} : ∀ l v w w', Below w.heap.size w w' → SplV E qs l v w → SplV E qs l v w' := fun _ v w w' hb ⟨hE, A, c, e, h⟩ => ⟨Nat.le_trans hE hb.size, A, c, e, h.below hb hE⟩
def SameV (l : List Value) : Rel.Fact := fun v _ => v = l.headD undef
theorem sameV_stable : ∀ l v w w', Below w.heap.size w w' → SameV l v w → SameV l v w' := fun _ _ _ _ _ h => h
theorem listF_eq (x : Lf → Int) (h : Head) (full : Bool) (ks : List Qry) (n : Nat) : listF h full (ks.map (emit x)) n =
    if ((split h.occur 0 ks).length : Int) < need h (split h.occur 1 ks).length then ([⟨1, 0, 0⟩], []) else
      shut ((EmitPlain.cat (chn (some 15) (some 6) ((split h.occur 1 ks).map fun k => emit x k full)) (EmitPlain.cat (if 0 < need h (split h.occur 1 ks).length then (EmitPlain.cat (if split h.occur 1 ks = [] then nop else skp 15) (EmitPlain.cat (fin (EmitPlain.someF (need h (split h.occur 1 ks).length) full ((split h.occur 0 ks).map fun k => emit x k full))) (if split h.occur 1 ks = [] then nop else one 6 0 0))) else nop) (EmitPlain.cat (furthers (some 15) (some 10) ((split h.occur 2 ks).map fun k => emit x k false)) (if need h (split h.occur 1 ks).length = 0 ∧ split h.occur 0 ks ≠ [] ∧ full = true then (EmitPlain.cat (skp 15) (furthers none (some 9) ((split h.occur 0 ks).map fun k => emit x k true))) else nop))))) n := by
  have e : ∀ (l : List Qry), (l.map (emit x) = [] ↔ l = []) := fun l => by simp
  unfold listF listM
  simp only [split_map, List.length_map, List.map_map, ne_eq, List.map_eq_nil_iff]
  congr 1
  by_cases hf : full = true
  · subst hf; rfl
  · simp [hf, Function.comp_def]
def Sz (n : Nat) : Prop := n ≤ 1048576

set_option maxHeartbeats 8000000 in
theorem landL {t0 t1 t4 t5 t6 t8 t12 t13 t14 t15 t16 t17 t18 t19 t20 t21 t22 t23 t24 t25 t26 t27 t28 t29 t30 t31 t32 t33 t34 t35 t36 t37 t38 t39 t40 t41 t42 t43 t44 t45 t46 t47 t48 t49 t50 t51 t52 t53 t54 t55 t56 t57 t58 t59 t60 t61 t62 t63 t64 t65 t66 t67 t68 t69 t70 t71 t72 t73 t74 t75 t76 t77 t78 t79 t80 t81 t82 t83 t84 t85 t86 t87 t88 t89 t90 t91 t92 t93 t94 t95 t96 t97 t98 t99 t100 t101 t102 t103 t104 t105 t106 t107 t108 t109 t110 t111 t112 t113 t114 t115 t116 t117 t118 : Value} {w w4 : World} {E SB EB : Nat} {h : EH} {L : List Ins} {NS : List Nr} {nc : List Value} {R : List (Bool × Ins) × List Nr} {s4 : Value} {full : Bool} {nd : Int} {S : List Qry} {AS : Option Addr} {cS : Nat} (m4 : RawB w w4 E SB EB h L NS nc R s4) (hl : L.length + R.1.length ≤ 1099511627776) :
    Code.wp Tryz.prog (tailL 39) (bodyPost Tryz.prog Tryz.f51 (IsL w E h L NS nc R)) ⟨#[t0, t1, .bool full, .pointer (some ⟨EB, 0, none⟩), t4, t5, t6, .slice AS S.length cS, t8, .int .i64 nd, .pointer (some ⟨SB, 0, none⟩), .func (.func 78) #[] #[.pointer (some ⟨SB, 0, none⟩), .pointer (some ⟨EB, 0, none⟩)], t12, t13, t14, t15, t16, t17, t18, t19, t20, t21, t22, t23, t24, t25, t26, t27, t28, t29, t30, t31, t32, t33, t34, t35, t36, t37, t38, t39, t40, t41, t42, t43, t44, t45, t46, t47, t48, t49, t50, t51, t52, t53, t54, t55, t56, t57, t58, t59, t60, t61, t62, t63, t64, t65, t66, t67, t68, t69, t70, t71, t72, t73, t74, t75, t76, t77, t78, t79, t80, t81, t82, t83, t84, t85, t86, t87, t88, t89, t90, t91, t92, t93, t94, t95, t96, t97, t98, t99, t100, t101, t102, t103, t104, t105, t106, t107, t108, t109, t110, t111, t112, t113, t114, t115, t116, t117, t118], []⟩ w4 := by
  unfold tailL
  conv => arg 2; whnf
  obtain ⟨A6, c6, rfl⟩ := m4.raw.slice
  have e7 : w4.cell? ⟨EB, 0, none⟩ = some (.pointer (some ⟨E, 0, none⟩)) := m4.eb.cell 0
  have s7 : w4.cell? ⟨SB, 0, none⟩ = some (.slice A6 (posns R.1 L.length).length c6) := m4.sb.cell 0
  have hf1 : Hid ((L ++ R.1.map Prod.snd).length ≤ 1099511627776) := Lib.hid (by simp only [List.length_append, List.length_map]; exact hl)
  have HRZ := Lib.hid m4
  clear m4 hl
  go_wp2_with (go_at_call 76; refine (raw_land HRZ.out.raw hf1.out).mono ?_; rintro e w5 ⟨rfl, hk5⟩)
  go_end0
  exact ⟨rfl, hk5⟩

set_option maxHeartbeats 8000000 in
theorem list_rest {u0 u1 u4 u5 u12 u13 u14 u15 u16 u17 u18 u19 u20 u21 u22 u23 u24 u25 u26 u27 u28 u29 u30 u31 u32 u33 u34 u35 u36 u37 u38 u39 u40 u41 u42 u43 u44 u45 u46 u47 u48 u49 u50 u51 u52 u53 u54 u55 u56 u57 u58 u59 u60 u61 u62 u63 u64 u65 u66 u67 u68 u69 u70 u71 u72 u73 u74 u75 u76 u77 u78 u79 u80 u81 u82 u83 u84 u85 u86 u87 u88 u89 u90 u91 u92 u93 u94 u95 u96 u97 u98 u99 u100 u101 u102 u103 u104 u105 u106 u107 u108 u109 u110 u111 u112 u113 u114 u115 u116 u117 u118 : Value} {w wo : World} {x : Lf → Int} {E SB EB nm : Nat} {h : EH} {L : List Ins} {NS : List Nr} {nc : List Value} {sv : Value} {full : Bool} {nd : Int} {M S X : List Qry} {AM AS AX : Option Addr} {cM cS cX : Nat}
    (m : RawB w wo E SB EB h L NS nc ([], []) sv) (hE : E < w.heap.size) (hx : IsNum w h.mb nm x) (hmb : h.mb < E) (hM : KLQ wo E AM M) (hS : KLQ wo E AS S) (hX : KLQ wo E AX X) (IM : ∀ k ∈ M, QC x k) (IS : ∀ k ∈ S, QC x k) (IX : ∀ k ∈ X, QC x k)
    (nM : M.length ≤ 1048576) (nS : S.length ≤ 1048576) (nX : X.length ≤ 1048576) (hnd : 0 ≤ nd) (hnu : nd ≤ 1099511627776) {F2 F4 : Lay?}
    (e2 : F2 = if 0 < nd then (EmitPlain.cat (if M = [] then nop else skp 15) (EmitPlain.cat (fin (EmitPlain.someF nd full (S.map fun k => emit x k full))) (if M = [] then nop else one 6 0 0))) else nop)
    (e4 : F4 = if nd = 0 ∧ S ≠ [] ∧ full = true then (EmitPlain.cat (skp 15) (furthers none (some 9) (S.map fun k => emit x k true))) else nop)
    (hfit : Fits L NS (((EmitPlain.cat (chn (some 15) (some 6) (M.map fun k => emit x k full)) (EmitPlain.cat F2 (EmitPlain.cat (furthers (some 15) (some 10) (X.map fun k => emit x k false)) F4)))) NS.length).1.length (((EmitPlain.cat (chn (some 15) (some 6) (M.map fun k => emit x k full)) (EmitPlain.cat F2 (EmitPlain.cat (furthers (some 15) (some 10) (X.map fun k => emit x k false)) F4)))) NS.length).2.length) :
    Code.wp Tryz.prog (tailL 9) (bodyPost Tryz.prog Tryz.f51 (IsL w E h L NS nc (((EmitPlain.cat (chn (some 15) (some 6) (M.map fun k => emit x k full)) (EmitPlain.cat F2 (EmitPlain.cat (furthers (some 15) (some 10) (X.map fun k => emit x k false)) F4)))) NS.length))) ⟨#[u0, u1, .bool full, .pointer (some ⟨EB, 0, none⟩), u4, u5, .slice AM M.length cM, .slice AS S.length cS, .slice AX X.length cX, .int .i64 nd, .pointer (some ⟨SB, 0, none⟩), .func (.func 78) #[] #[.pointer (some ⟨SB, 0, none⟩), .pointer (some ⟨EB, 0, none⟩)], u12, u13, u14, u15, u16, u17, u18, u19, u20, u21, u22, u23, u24, u25, u26, u27, u28, u29, u30, u31, u32, u33, u34, u35, u36, u37, u38, u39, u40, u41, u42, u43, u44, u45, u46, u47, u48, u49, u50, u51, u52, u53, u54, u55, u56, u57, u58, u59, u60, u61, u62, u63, u64, u65, u66, u67, u68, u69, u70, u71, u72, u73, u74, u75, u76, u77, u78, u79, u80, u81, u82, u83, u84, u85, u86, u87, u88, u89, u90, u91, u92, u93, u94, u95, u96, u97, u98, u99, u100, u101, u102, u103, u104, u105, u106, u107, u108, u109, u110, u111, u112, u113, u114, u115, u116, u117, u118], []⟩ wo := by
  obtain ⟨F1, hF1⟩ : ∃ F, F = chn (some 15) (some 6) (M.map fun k => emit x k full) := ⟨_, rfl⟩
  obtain ⟨F3, hF3⟩ : ∃ F, F = furthers (some 15) (some 10) (X.map fun k => emit x k false) := ⟨_, rfl⟩
  rw [← hF1, ← hF3] at hfit ⊢
  obtain ⟨R, hR⟩ : ∃ R, R = ((EmitPlain.cat F1 (EmitPlain.cat F2 (EmitPlain.cat F3 F4)))) NS.length := ⟨_, rfl⟩
  have r1 : ((EmitPlain.cat F1 (EmitPlain.cat F2 (EmitPlain.cat F3 F4)))) NS.length = ext NS.length (ext NS.length (ext NS.length (F1 NS.length) F2) F3) F4 := by
    rw [← ext_start NS.length F1, ext_cat, ext_cat, ext_cat, ext_start]
  have l4 := ext_len NS.length (ext NS.length (ext NS.length (F1 NS.length) F2) F3) F4
  have l3 := ext_len NS.length (ext NS.length (F1 NS.length) F2) F3
  have l2 := ext_len NS.length (F1 NS.length) F2
  rw [← hR] at hfit ⊢
  rw [← hR] at r1
  rw [← r1] at l4
  unfold Fits at hfit
  have hE1 := m.raw.lt
  have f1 : Fits L NS (F1 NS.length).1.length (F1 NS.length).2.length := by unfold Fits; omega
  have f2 : Fits L NS (ext NS.length (F1 NS.length) F2).1.length (ext NS.length (F1 NS.length) F2).2.length := by unfold Fits; omega
  have f3 : Fits L NS (ext NS.length (ext NS.length (F1 NS.length) F2) F3).1.length (ext NS.length (ext NS.length (F1 NS.length) F2) F3).2.length := by unfold Fits; omega
  have f4 : Fits L NS R.1.length R.2.length := hfit
  refine cast_code (c := .seq (partL 9) (.seq (partL 18) (.seq (partL 24) (.seq (partL 31) (tailL 39))))) (by kernel_rfl) ?_
  refine wp_seq (musts (nd := nd) m hE hx hmb hM IM nM (by rw [← hF1]; exact f1) ?_)
  intro p0 p1 p4 p5 p12 p13 p14 p15 p16 p17 p18 p19 p20 p21 p22 p23 p24 p25 p26 p27 p28 p29 p30 p31 p32 p33 p34 p35 p36 p37 p38 p39 p40 p41 p42 p43 p44 p45 p46 p47 p48 p49 p50 p51 p52 p53 p54 p55 p56 p57 p58 p59 p60 p61 p62 p63 p64 p65 p66 p67 p68 p69 p70 p71 p72 p73 p74 p75 p76 p77 p78 p79 p80 p81 p82 p83 p84 p85 p86 p87 p88 p89 p90 p91 p92 p93 p94 p95 p96 p97 p98 p99 p100 p101 p102 p103 p104 p105 p106 p107 p108 p109 p110 p111 p112 p113 p114 p115 p116 p117 p118 w1 s1 m1 k1 b1
  rw [← hF1] at m1
  have hS1 := klq_keep hS k1 b1
  have hX1 := klq_keep hX k1 b1
  refine wp_seq ?_
  have n1 : ∀ (G : ∀ (K : Act → World → Prop) (Q : Exit → Act → World → Prop), (∀ (q0 q1 q4 q5 q12 q13 q14 q15 q16 q17 q18 q19 q20 q21 q22 q23 q24 q25 q26 q27 q28 q29 q30 q31 q32 q33 q34 q35 q36 q37 q38 q39 q40 q41 q42 q43 q44 q45 q46 q47 q48 q49 q50 q51 q52 q53 q54 q55 q56 q57 q58 q59 q60 q61 q62 q63 q64 q65 q66 q67 q68 q69 q70 q71 q72 q73 q74 q75 q76 q77 q78 q79 q80 q81 q82 q83 q84 q85 q86 q87 q88 q89 q90 q91 q92 q93 q94 q95 q96 q97 q98 q99 q100 q101 q102 q103 q104 q105 q106 q107 q108 q109 q110 q111 q112 q113 q114 q115 q116 q117 q118 : Value) (wz : World) (sz : Value), RawB w wz E SB EB h L NS nc (ext NS.length (F1 NS.length) F2) sz → KeepL w1 wz → Below E w1 wz → K ⟨#[q0, q1, .bool full, .pointer (some ⟨EB, 0, none⟩), q4, q5, .slice AM M.length cM, .slice AS S.length cS, .slice AX X.length cX, .int .i64 nd, .pointer (some ⟨SB, 0, none⟩), .func (.func 78) #[] #[.pointer (some ⟨SB, 0, none⟩), .pointer (some ⟨EB, 0, none⟩)], q12, q13, q14, q15, q16, q17, q18, q19, q20, q21, q22, q23, q24, q25, q26, q27, q28, q29, q30, q31, q32, q33, q34, q35, q36, q37, q38, q39, q40, q41, q42, q43, q44, q45, q46, q47, q48, q49, q50, q51, q52, q53, q54, q55, q56, q57, q58, q59, q60, q61, q62, q63, q64, q65, q66, q67, q68, q69, q70, q71, q72, q73, q74, q75, q76, q77, q78, q79, q80, q81, q82, q83, q84, q85, q86, q87, q88, q89, q90, q91, q92, q93, q94, q95, q96, q97, q98, q99, q100, q101, q102, q103, q104, q105, q106, q107, q108, q109, q110, q111, q112, q113, q114, q115, q116, q117, q118], []⟩ wz) → Code.wp Tryz.prog (partL 18) (Exit.then K Q) ⟨#[p0, p1, .bool full, .pointer (some ⟨EB, 0, none⟩), p4, p5, .slice AM M.length cM, .slice AS S.length cS, .slice AX X.length cX, .int .i64 nd, .pointer (some ⟨SB, 0, none⟩), .func (.func 78) #[] #[.pointer (some ⟨SB, 0, none⟩), .pointer (some ⟨EB, 0, none⟩)], p12, p13, p14, p15, p16, p17, p18, p19, p20, p21, p22, p23, p24, p25, p26, p27, p28, p29, p30, p31, p32, p33, p34, p35, p36, p37, p38, p39, p40, p41, p42, p43, p44, p45, p46, p47, p48, p49, p50, p51, p52, p53, p54, p55, p56, p57, p58, p59, p60, p61, p62, p63, p64, p65, p66, p67, p68, p69, p70, p71, p72, p73, p74, p75, p76, p77, p78, p79, p80, p81, p82, p83, p84, p85, p86, p87, p88, p89, p90, p91, p92, p93, p94, p95, p96, p97, p98, p99, p100, p101, p102, p103, p104, p105, p106, p107, p108, p109, p110, p111, p112, p113, p114, p115, p116, p117, p118], []⟩ w1), Code.wp Tryz.prog (partL 18) (Exit.then (Code.wp Tryz.prog (.seq (partL 24) (.seq (partL 31) (tailL 39))) (bodyPost Tryz.prog Tryz.f51 (IsL w E h L NS nc R))) (bodyPost Tryz.prog Tryz.f51 (IsL w E h L NS nc R))) ⟨#[p0, p1, .bool full, .pointer (some ⟨EB, 0, none⟩), p4, p5, .slice AM M.length cM, .slice AS S.length cS, .slice AX X.length cX, .int .i64 nd, .pointer (some ⟨SB, 0, none⟩), .func (.func 78) #[] #[.pointer (some ⟨SB, 0, none⟩), .pointer (some ⟨EB, 0, none⟩)], p12, p13, p14, p15, p16, p17, p18, p19, p20, p21, p22, p23, p24, p25, p26, p27, p28, p29, p30, p31, p32, p33, p34, p35, p36, p37, p38, p39, p40, p41, p42, p43, p44, p45, p46, p47, p48, p49, p50, p51, p52, p53, p54, p55, p56, p57, p58, p59, p60, p61, p62, p63, p64, p65, p66, p67, p68, p69, p70, p71, p72, p73, p74, p75, p76, p77, p78, p79, p80, p81, p82, p83, p84, p85, p86, p87, p88, p89, p90, p91, p92, p93, p94, p95, p96, p97, p98, p99, p100, p101, p102, p103, p104, p105, p106, p107, p108, p109, p110, p111, p112, p113, p114, p115, p116, p117, p118], []⟩ w1 := fun G => by
    refine G _ _ ?_
    intro q0 q1 q4 q5 q12 q13 q14 q15 q16 q17 q18 q19 q20 q21 q22 q23 q24 q25 q26 q27 q28 q29 q30 q31 q32 q33 q34 q35 q36 q37 q38 q39 q40 q41 q42 q43 q44 q45 q46 q47 q48 q49 q50 q51 q52 q53 q54 q55 q56 q57 q58 q59 q60 q61 q62 q63 q64 q65 q66 q67 q68 q69 q70 q71 q72 q73 q74 q75 q76 q77 q78 q79 q80 q81 q82 q83 q84 q85 q86 q87 q88 q89 q90 q91 q92 q93 q94 q95 q96 q97 q98 q99 q100 q101 q102 q103 q104 q105 q106 q107 q108 q109 q110 q111 q112 q113 q114 q115 q116 q117 q118 w2 s2 m2 k2 b2
    have hS2 := klq_keep hS1 k2 b2
    have hX2 := klq_keep hX1 k2 b2
    refine wp_seq (nots (nd := nd) m2 hE hx hmb hX2 IX nX (by rw [← hF3]; exact f3) ?_)
    intro rq0 rq1 rq4 rq5 rq6 rq12 rq13 rq14 rq15 rq16 rq17 rq18 rq19 rq20 rq21 rq22 rq23 rq24 rq25 rq26 rq27 rq28 rq29 rq30 rq31 rq32 rq33 rq34 rq35 rq36 rq37 rq38 rq39 rq40 rq41 rq42 rq43 rq44 rq45 rq46 rq47 rq48 rq49 rq50 rq51 rq52 rq53 rq54 rq55 rq56 rq57 rq58 rq59 rq60 rq61 rq62 rq63 rq64 rq65 rq66 rq67 rq68 rq69 rq70 rq71 rq72 rq73 rq74 rq75 rq76 rq77 rq78 rq79 rq80 rq81 rq82 rq83 rq84 rq85 rq86 rq87 rq88 rq89 rq90 rq91 rq92 rq93 rq94 rq95 rq96 rq97 rq98 rq99 rq100 rq101 rq102 rq103 rq104 rq105 rq106 rq107 rq108 rq109 rq110 rq111 rq112 rq113 rq114 rq115 rq116 rq117 rq118 w3 s3 m3 k3 b3
    rw [← hF3] at m3
    have hS3 := klq_keep hS2 k3 b3
    refine wp_seq ?_
    have land : ∀ (t0 t1 t4 t5 t6 t8 t12 t13 t14 t15 t16 t17 t18 t19 t20 t21 t22 t23 t24 t25 t26 t27 t28 t29 t30 t31 t32 t33 t34 t35 t36 t37 t38 t39 t40 t41 t42 t43 t44 t45 t46 t47 t48 t49 t50 t51 t52 t53 t54 t55 t56 t57 t58 t59 t60 t61 t62 t63 t64 t65 t66 t67 t68 t69 t70 t71 t72 t73 t74 t75 t76 t77 t78 t79 t80 t81 t82 t83 t84 t85 t86 t87 t88 t89 t90 t91 t92 t93 t94 t95 t96 t97 t98 t99 t100 t101 t102 t103 t104 t105 t106 t107 t108 t109 t110 t111 t112 t113 t114 t115 t116 t117 t118 : Value) (w4 : World) (s4 : Value), RawB w w4 E SB EB h L NS nc R s4 → Code.wp Tryz.prog (tailL 39) (bodyPost Tryz.prog Tryz.f51 (IsL w E h L NS nc R)) ⟨#[t0, t1, .bool full, .pointer (some ⟨EB, 0, none⟩), t4, t5, t6, .slice AS S.length cS, t8, .int .i64 nd, .pointer (some ⟨SB, 0, none⟩), .func (.func 78) #[] #[.pointer (some ⟨SB, 0, none⟩), .pointer (some ⟨EB, 0, none⟩)], t12, t13, t14, t15, t16, t17, t18, t19, t20, t21, t22, t23, t24, t25, t26, t27, t28, t29, t30, t31, t32, t33, t34, t35, t36, t37, t38, t39, t40, t41, t42, t43, t44, t45, t46, t47, t48, t49, t50, t51, t52, t53, t54, t55, t56, t57, t58, t59, t60, t61, t62, t63, t64, t65, t66, t67, t68, t69, t70, t71, t72, t73, t74, t75, t76, t77, t78, t79, t80, t81, t82, t83, t84, t85, t86, t87, t88, t89, t90, t91, t92, t93, t94, t95, t96, t97, t98, t99, t100, t101, t102, t103, t104, t105, t106, t107, t108, t109, t110, t111, t112, t113, t114, t115, t116, t117, t118], []⟩ w4 := by
      intro t0 t1 t4 t5 t6 t8 t12 t13 t14 t15 t16 t17 t18 t19 t20 t21 t22 t23 t24 t25 t26 t27 t28 t29 t30 t31 t32 t33 t34 t35 t36 t37 t38 t39 t40 t41 t42 t43 t44 t45 t46 t47 t48 t49 t50 t51 t52 t53 t54 t55 t56 t57 t58 t59 t60 t61 t62 t63 t64 t65 t66 t67 t68 t69 t70 t71 t72 t73 t74 t75 t76 t77 t78 t79 t80 t81 t82 t83 t84 t85 t86 t87 t88 t89 t90 t91 t92 t93 t94 t95 t96 t97 t98 t99 t100 t101 t102 t103 t104 t105 t106 t107 t108 t109 t110 t111 t112 t113 t114 t115 t116 t117 t118 w4 s4 m4
      exact landL m4 (by unfold Fits at f4; exact f4.1)
    by_cases hop : nd = 0 ∧ S ≠ [] ∧ full = true
    · rw [if_pos hop] at e4
      rw [e4] at r1
      obtain ⟨o1, o2, o3⟩ := hop
      refine optY m3 hE hx hmb hS3 IS nS o1 o2 o3 (by rw [← r1]; exact f4) ?_
      intro t0 t1 t4 t5 t6 t8 t12 t13 t14 t15 t16 t17 t18 t19 t20 t21 t22 t23 t24 t25 t26 t27 t28 t29 t30 t31 t32 t33 t34 t35 t36 t37 t38 t39 t40 t41 t42 t43 t44 t45 t46 t47 t48 t49 t50 t51 t52 t53 t54 t55 t56 t57 t58 t59 t60 t61 t62 t63 t64 t65 t66 t67 t68 t69 t70 t71 t72 t73 t74 t75 t76 t77 t78 t79 t80 t81 t82 t83 t84 t85 t86 t87 t88 t89 t90 t91 t92 t93 t94 t95 t96 t97 t98 t99 t100 t101 t102 t103 t104 t105 t106 t107 t108 t109 t110 t111 t112 t113 t114 t115 t116 t117 t118 w4 s4 m4 k4 b4
      rw [← r1] at m4
      exact land t0 t1 t4 t5 t6 t8 t12 t13 t14 t15 t16 t17 t18 t19 t20 t21 t22 t23 t24 t25 t26 t27 t28 t29 t30 t31 t32 t33 t34 t35 t36 t37 t38 t39 t40 t41 t42 t43 t44 t45 t46 t47 t48 t49 t50 t51 t52 t53 t54 t55 t56 t57 t58 t59 t60 t61 t62 t63 t64 t65 t66 t67 t68 t69 t70 t71 t72 t73 t74 t75 t76 t77 t78 t79 t80 t81 t82 t83 t84 t85 t86 t87 t88 t89 t90 t91 t92 t93 t94 t95 t96 t97 t98 t99 t100 t101 t102 t103 t104 t105 t106 t107 t108 t109 t110 t111 t112 t113 t114 t115 t116 t117 t118 w4 s4 m4
    · rw [if_neg hop] at e4
      rw [e4, ext_nop] at r1
      refine optN m3 hE hx hmb hS3 IS nS hop (by exact f3) ?_
      intro t0 t1 t4 t5 t6 t8 t12 t13 t14 t15 t16 t17 t18 t19 t20 t21 t22 t23 t24 t25 t26 t27 t28 t29 t30 t31 t32 t33 t34 t35 t36 t37 t38 t39 t40 t41 t42 t43 t44 t45 t46 t47 t48 t49 t50 t51 t52 t53 t54 t55 t56 t57 t58 t59 t60 t61 t62 t63 t64 t65 t66 t67 t68 t69 t70 t71 t72 t73 t74 t75 t76 t77 t78 t79 t80 t81 t82 t83 t84 t85 t86 t87 t88 t89 t90 t91 t92 t93 t94 t95 t96 t97 t98 t99 t100 t101 t102 t103 t104 t105 t106 t107 t108 t109 t110 t111 t112 t113 t114 t115 t116 t117 t118 w4 s4 m4 k4 b4
      rw [← r1] at m4
      exact land t0 t1 t4 t5 t6 t8 t12 t13 t14 t15 t16 t17 t18 t19 t20 t21 t22 t23 t24 t25 t26 t27 t28 t29 t30 t31 t32 t33 t34 t35 t36 t37 t38 t39 t40 t41 t42 t43 t44 t45 t46 t47 t48 t49 t50 t51 t52 t53 t54 t55 t56 t57 t58 t59 t60 t61 t62 t63 t64 t65 t66 t67 t68 t69 t70 t71 t72 t73 t74 t75 t76 t77 t78 t79 t80 t81 t82 t83 t84 t85 t86 t87 t88 t89 t90 t91 t92 t93 t94 t95 t96 t97 t98 t99 t100 t101 t102 t103 t104 t105 t106 t107 t108 t109 t110 t111 t112 t113 t114 t115 t116 t117 t118 w4 s4 m4
  refine n1 fun K Q hK => ?_
  by_cases h0 : 0 < nd
  · rw [if_pos h0] at e2
    by_cases hM0 : M = []
    · rw [if_pos hM0, if_pos hM0, nop_cat, cat_nop] at e2
      rw [e2] at hK f2
      exact needE m1 hE hx hmb hS1 IS nS h0 hnu hM0 f2 hK
    · rw [if_neg hM0, if_neg hM0] at e2
      rw [e2] at hK f2
      exact needM m1 hE hx hmb hS1 IS nS h0 hnu hM0 f2 hK
  · rw [if_neg h0] at e2
    rw [e2, ext_nop] at hK f2
    exact need0 m1 hE hx hmb hS1 IS nS (by omega) f2 hK

set_option maxHeartbeats 8000000 in
theorem list_any (x : Lf → Int) (ks : List Qry) (IH : ∀ k ∈ ks, QC x k) (hd : Head) (A1 A2 A3 A4 : Option Addr) (c1 c2 c3 c4 : Nat) (E : Nat) (h : EH) (L : List Ins) (NS : List Nr) (nc : List Value) (nv cv : Value) (nm : Nat) (full : Bool) (w : World)
    (m : Em w E h L NS nc nv cv) (hx : IsNum w h.mb nm x) (hmb : h.mb < E) (hkl : KL w E A4 ks) (hoc : Slc w E A3 (ints hd.occur)) (hlen : hd.occur.length = ks.length) (hks : ks.length ≤ 1048576) (hn0 : 0 ≤ hd.n) (hn1 : hd.n ≤ 1099511627776)
    (hfit : Fits L NS (listF hd full (ks.map (emit x)) NS.length).1.length (listF hd full (ks.map (emit x)) NS.length).2.length) :
    Calls Tryz.prog 51 #[.pointer (some ⟨E, 0, none⟩), .agg (qcells hd ks.length A1 A2 A3 A4 c1 c2 c3 c4), .bool full] w fun e w' => e = .returned (.tuple #[]) ∧
      EmE w w' E h (L ++ (listF hd full (ks.map (emit x)) NS.length).1) (NS ++ (listF hd full (ks.map (emit x)) NS.length).2) nc := by
  rw [listF_eq] at hfit ⊢
  obtain ⟨M, hM⟩ : ∃ M, M = split hd.occur 1 ks := ⟨_, rfl⟩
  obtain ⟨S, hS⟩ : ∃ M, M = split hd.occur 0 ks := ⟨_, rfl⟩
  obtain ⟨X, hX⟩ : ∃ M, M = split hd.occur 2 ks := ⟨_, rfl⟩
  have mem : ∀ o, ∀ k ∈ split hd.occur o ks, k ∈ ks := fun o k hk => by
    unfold split at hk
    obtain ⟨p, hp, rfl⟩ := List.mem_map.1 hk
    exact (List.of_mem_zip (List.mem_filter.1 hp).1).1
  have IM : ∀ k ∈ M, QC x k := fun k hk => IH k (mem 1 k (by rw [← hM]; exact hk))
  have IS : ∀ k ∈ S, QC x k := fun k hk => IH k (mem 0 k (by rw [← hS]; exact hk))
  have IX : ∀ k ∈ X, QC x k := fun k hk => IH k (mem 2 k (by rw [← hX]; exact hk))
  have nM : M.length ≤ 1048576 := by rw [hM]; exact Nat.le_trans (split_len _ _ _) hks
  have nS : S.length ≤ 1048576 := by rw [hS]; exact Nat.le_trans (split_len _ _ _) hks
  have nX : X.length ≤ 1048576 := by rw [hX]; exact Nat.le_trans (split_len _ _ _) hks
  obtain ⟨W2, hW2⟩ : ∃ W, W = (w.alloc (.cells #[.pointer (some ⟨E, 0, none⟩)] 65)).alloc (.cells (qcells hd ks.length A1 A2 A3 A4 c1 c2 c3 c4) 29) := ⟨_, rfl⟩
  have KE : Blk W2 w.heap.size 65 #[.pointer (some ⟨E, 0, none⟩)] := by rw [hW2]; exact (Blk.new w _ _).alloc _
  have KQ : Blk W2 (w.heap.size + 1) 29 (qcells hd ks.length A1 A2 A3 A4 c1 c2 c3 c4) := by
    rw [hW2]
    have := Blk.new (w.alloc (.cells #[.pointer (some ⟨E, 0, none⟩)] 65)) 29 (qcells hd ks.length A1 A2 A3 A4 c1 c2 c3 c4)
    rwa [World.size_alloc] at this
  have hb2 : Below w.heap.size w W2 := by rw [hW2]; exact Base.bel
  have hsz : W2.heap.size = w.heap.size + 1 + 1 := by rw [hW2]; simp
  have hE := m.lt
  have hE2 : E ≤ W2.heap.size := by omega
  have SP0 := fun (W : World) (hW : Below W2.heap.size W2 W) (o : Int) => split_any hd ks A1 A2 A3 A4 c1 c2 c3 c4 o E W (Nat.le_trans hE2 hW.size) (hkl.kept (.of_below (bchain hb2 hW) E) (Nat.le_of_lt hE)) (hoc.below (bchain hb2 hW) (Nat.le_of_lt hE)) hlen hks
  obtain ⟨nd, hnd⟩ : ∃ nd, nd = need hd M.length := ⟨_, rfl⟩
  have hnd0 : 0 ≤ nd := by rw [hnd]; unfold need; split <;> omega
  have hnd1 : nd ≤ 1099511627776 := by rw [hnd]; unfold need; split <;> omega
  simp only [← hM, ← hS, ← hX, ← hnd] at hfit ⊢
  obtain ⟨RES, hRES⟩ : ∃ R : List Ins × List Nr, R = (if (S.length : Int) < nd then ([⟨1, 0, 0⟩], []) else
      shut ((EmitPlain.cat (chn (some 15) (some 6) (M.map fun k => emit x k full)) (EmitPlain.cat (if 0 < nd then (EmitPlain.cat (if M = [] then nop else skp 15) (EmitPlain.cat (fin (EmitPlain.someF nd full (S.map fun k => emit x k full))) (if M = [] then nop else one 6 0 0))) else nop) (EmitPlain.cat (furthers (some 15) (some 10) (X.map fun k => emit x k false)) (if nd = 0 ∧ S ≠ [] ∧ full = true then (EmitPlain.cat (skp 15) (furthers none (some 9) (S.map fun k => emit x k true))) else nop))))) NS.length) := ⟨_, rfl⟩
  rw [← hRES] at hfit ⊢
  have HRES := Lib.hid hRES
  have HFIT := Lib.hid hfit
  have HND := Lib.hid hnd
  have HIM := Lib.hid IM
  have HIS := Lib.hid IS
  have HIX := Lib.hid IX
  have HX := Lib.hid hx
  have HEM := Lib.hid m
  have HB2 := Lib.hid hb2
  have HSZ := Lib.hid hsz
  have SP1 := Lib.hid (fun W hW => (show Calls _ _ _ _ (IsSplit E M W) from hM ▸ SP0 W hW 1))
  have SP0' := Lib.hid (fun W hW => (show Calls _ _ _ _ (IsSplit E S W) from hS ▸ SP0 W hW 0))
  have SP2 := Lib.hid (fun W hW => (show Calls _ _ _ _ (IsSplit E X W) from hX ▸ SP0 W hW 2))
  unfold qcells at SP1 SP0' SP2 KQ hW2
  have HW := Lib.hid hW2
  obtain ⟨y0, y1, y2, y3, y4, y5, y6, y7, y8, y9, y10, y11, y12, y13, y14⟩ := qcs KQ
  have ye : W2.cell? ⟨w.heap.size, 0, none⟩ = some (.pointer (some ⟨E, 0, none⟩)) := KE.cell 0
  have HKE := Lib.hid KE
  clear hRES hfit hnd IM IS IX hx m hb2 hsz SP0 KE KQ hW2 hM hS hX IH hkl hoc hlen mem
  unfold qcells
  go_enter Tryz.func51, Tryz.ntmps51
  go_upto_region 1 with fail
  rw [← HW.out]
  refine Relb.wp_region_relb (fun wx => Below W2.heap.size W2 wx) (fun wa wb => Below wa.heap.size wa wb) (by kernel_rfl) (by kernel_rfl) (bdrew (Below.refl _ _)) (fun _ => Below.refl _ _) ?_
  apply Relb.relb_one [] [] (by kernel_rfl) (by kernel_rfl) (by kernel_rfl)
  case hs =>
    intro vs wx hx hf
    clear hf
    have z0 := (hx.cell (p := ⟨w.heap.size + 1, 0, none⟩) (by show w.heap.size + 1 < _; have := HSZ.out; omega)).trans y0
    have z1 := (hx.cell (p := ⟨w.heap.size + 1, 1, none⟩) (by show w.heap.size + 1 < _; have := HSZ.out; omega)).trans y1
    have z2 := (hx.cell (p := ⟨w.heap.size + 1, 2, none⟩) (by show w.heap.size + 1 < _; have := HSZ.out; omega)).trans y2
    have z3 := (hx.cell (p := ⟨w.heap.size + 1, 3, none⟩) (by show w.heap.size + 1 < _; have := HSZ.out; omega)).trans y3
    have z4 := (hx.cell (p := ⟨w.heap.size + 1, 4, none⟩) (by show w.heap.size + 1 < _; have := HSZ.out; omega)).trans y4
    have z5 := (hx.cell (p := ⟨w.heap.size + 1, 5, none⟩) (by show w.heap.size + 1 < _; have := HSZ.out; omega)).trans y5
    have z6 := (hx.cell (p := ⟨w.heap.size + 1, 6, none⟩) (by show w.heap.size + 1 < _; have := HSZ.out; omega)).trans y6
    have z7 := (hx.cell (p := ⟨w.heap.size + 1, 7, none⟩) (by show w.heap.size + 1 < _; have := HSZ.out; omega)).trans y7
    have z8 := (hx.cell (p := ⟨w.heap.size + 1, 8, none⟩) (by show w.heap.size + 1 < _; have := HSZ.out; omega)).trans y8
    have z9 := (hx.cell (p := ⟨w.heap.size + 1, 9, none⟩) (by show w.heap.size + 1 < _; have := HSZ.out; omega)).trans y9
    have z10 := (hx.cell (p := ⟨w.heap.size + 1, 10, none⟩) (by show w.heap.size + 1 < _; have := HSZ.out; omega)).trans y10
    have z11 := (hx.cell (p := ⟨w.heap.size + 1, 11, none⟩) (by show w.heap.size + 1 < _; have := HSZ.out; omega)).trans y11
    have z12 := (hx.cell (p := ⟨w.heap.size + 1, 12, none⟩) (by show w.heap.size + 1 < _; have := HSZ.out; omega)).trans y12
    have z13 := (hx.cell (p := ⟨w.heap.size + 1, 13, none⟩) (by show w.heap.size + 1 < _; have := HSZ.out; omega)).trans y13
    have z14 := (hx.cell (p := ⟨w.heap.size + 1, 14, none⟩) (by show w.heap.size + 1 < _; have := HSZ.out; omega)).trans y14
    try simp only [Relb.putD, Act.put, Base.s1, Base.s2, Base.s3]
    intro KK hK
    go_simp
    exact hK _ _ hx (Below.refl _ _) rfl
  apply Relb.relb_kind [(0, 18)] [] [0] (SplV E M) (by kernel_rfl) (by kernel_rfl) (by kernel_rfl) (by kernel_rfl) (splV_stable)
  case hs =>
    intro vs wx hx hf
    have e18 : vs 0 = _ := hf 0 (by simp)
    clear hf
    have z0 := (hx.cell (p := ⟨w.heap.size + 1, 0, none⟩) (by show w.heap.size + 1 < _; have := HSZ.out; omega)).trans y0
    have z1 := (hx.cell (p := ⟨w.heap.size + 1, 1, none⟩) (by show w.heap.size + 1 < _; have := HSZ.out; omega)).trans y1
    have z2 := (hx.cell (p := ⟨w.heap.size + 1, 2, none⟩) (by show w.heap.size + 1 < _; have := HSZ.out; omega)).trans y2
    have z3 := (hx.cell (p := ⟨w.heap.size + 1, 3, none⟩) (by show w.heap.size + 1 < _; have := HSZ.out; omega)).trans y3
    have z4 := (hx.cell (p := ⟨w.heap.size + 1, 4, none⟩) (by show w.heap.size + 1 < _; have := HSZ.out; omega)).trans y4
    have z5 := (hx.cell (p := ⟨w.heap.size + 1, 5, none⟩) (by show w.heap.size + 1 < _; have := HSZ.out; omega)).trans y5
    have z6 := (hx.cell (p := ⟨w.heap.size + 1, 6, none⟩) (by show w.heap.size + 1 < _; have := HSZ.out; omega)).trans y6
    have z7 := (hx.cell (p := ⟨w.heap.size + 1, 7, none⟩) (by show w.heap.size + 1 < _; have := HSZ.out; omega)).trans y7
    have z8 := (hx.cell (p := ⟨w.heap.size + 1, 8, none⟩) (by show w.heap.size + 1 < _; have := HSZ.out; omega)).trans y8
    have z9 := (hx.cell (p := ⟨w.heap.size + 1, 9, none⟩) (by show w.heap.size + 1 < _; have := HSZ.out; omega)).trans y9
    have z10 := (hx.cell (p := ⟨w.heap.size + 1, 10, none⟩) (by show w.heap.size + 1 < _; have := HSZ.out; omega)).trans y10
    have z11 := (hx.cell (p := ⟨w.heap.size + 1, 11, none⟩) (by show w.heap.size + 1 < _; have := HSZ.out; omega)).trans y11
    have z12 := (hx.cell (p := ⟨w.heap.size + 1, 12, none⟩) (by show w.heap.size + 1 < _; have := HSZ.out; omega)).trans y12
    have z13 := (hx.cell (p := ⟨w.heap.size + 1, 13, none⟩) (by show w.heap.size + 1 < _; have := HSZ.out; omega)).trans y13
    have z14 := (hx.cell (p := ⟨w.heap.size + 1, 14, none⟩) (by show w.heap.size + 1 < _; have := HSZ.out; omega)).trans y14
    try simp only [Relb.putD, e18, Act.put, Base.s1, Base.s2, Base.s3]
    intro KK hK
    go_simp
    go_at_call 77
    refine (SP1.out wx hx).mono ?_
    rintro e wy ⟨A', c', rfl, hk', hby⟩
    exact hK _ _ (bchain hx hby) hby ⟨Nat.le_trans (Nat.le_trans hE2 hx.size) hby.size, A', c', rfl, hk'⟩
  apply Relb.relb_one [] [] (by kernel_rfl) (by kernel_rfl) (by kernel_rfl)
  case hs =>
    intro vs wx hx hf
    clear hf
    have z0 := (hx.cell (p := ⟨w.heap.size + 1, 0, none⟩) (by show w.heap.size + 1 < _; have := HSZ.out; omega)).trans y0
    have z1 := (hx.cell (p := ⟨w.heap.size + 1, 1, none⟩) (by show w.heap.size + 1 < _; have := HSZ.out; omega)).trans y1
    have z2 := (hx.cell (p := ⟨w.heap.size + 1, 2, none⟩) (by show w.heap.size + 1 < _; have := HSZ.out; omega)).trans y2
    have z3 := (hx.cell (p := ⟨w.heap.size + 1, 3, none⟩) (by show w.heap.size + 1 < _; have := HSZ.out; omega)).trans y3
    have z4 := (hx.cell (p := ⟨w.heap.size + 1, 4, none⟩) (by show w.heap.size + 1 < _; have := HSZ.out; omega)).trans y4
    have z5 := (hx.cell (p := ⟨w.heap.size + 1, 5, none⟩) (by show w.heap.size + 1 < _; have := HSZ.out; omega)).trans y5
    have z6 := (hx.cell (p := ⟨w.heap.size + 1, 6, none⟩) (by show w.heap.size + 1 < _; have := HSZ.out; omega)).trans y6
    have z7 := (hx.cell (p := ⟨w.heap.size + 1, 7, none⟩) (by show w.heap.size + 1 < _; have := HSZ.out; omega)).trans y7
    have z8 := (hx.cell (p := ⟨w.heap.size + 1, 8, none⟩) (by show w.heap.size + 1 < _; have := HSZ.out; omega)).trans y8
    have z9 := (hx.cell (p := ⟨w.heap.size + 1, 9, none⟩) (by show w.heap.size + 1 < _; have := HSZ.out; omega)).trans y9
    have z10 := (hx.cell (p := ⟨w.heap.size + 1, 10, none⟩) (by show w.heap.size + 1 < _; have := HSZ.out; omega)).trans y10
    have z11 := (hx.cell (p := ⟨w.heap.size + 1, 11, none⟩) (by show w.heap.size + 1 < _; have := HSZ.out; omega)).trans y11
    have z12 := (hx.cell (p := ⟨w.heap.size + 1, 12, none⟩) (by show w.heap.size + 1 < _; have := HSZ.out; omega)).trans y12
    have z13 := (hx.cell (p := ⟨w.heap.size + 1, 13, none⟩) (by show w.heap.size + 1 < _; have := HSZ.out; omega)).trans y13
    have z14 := (hx.cell (p := ⟨w.heap.size + 1, 14, none⟩) (by show w.heap.size + 1 < _; have := HSZ.out; omega)).trans y14
    try simp only [Relb.putD, Act.put, Base.s1, Base.s2, Base.s3]
    intro KK hK
    go_simp
    exact hK _ _ hx (Below.refl _ _) rfl
  apply Relb.relb_kind [(2, 20)] [] [2] (SplV E S) (by kernel_rfl) (by kernel_rfl) (by kernel_rfl) (by kernel_rfl) (splV_stable)
  case hs =>
    intro vs wx hx hf
    have e20 : vs 2 = _ := hf 2 (by simp)
    clear hf
    have z0 := (hx.cell (p := ⟨w.heap.size + 1, 0, none⟩) (by show w.heap.size + 1 < _; have := HSZ.out; omega)).trans y0
    have z1 := (hx.cell (p := ⟨w.heap.size + 1, 1, none⟩) (by show w.heap.size + 1 < _; have := HSZ.out; omega)).trans y1
    have z2 := (hx.cell (p := ⟨w.heap.size + 1, 2, none⟩) (by show w.heap.size + 1 < _; have := HSZ.out; omega)).trans y2
    have z3 := (hx.cell (p := ⟨w.heap.size + 1, 3, none⟩) (by show w.heap.size + 1 < _; have := HSZ.out; omega)).trans y3
    have z4 := (hx.cell (p := ⟨w.heap.size + 1, 4, none⟩) (by show w.heap.size + 1 < _; have := HSZ.out; omega)).trans y4
    have z5 := (hx.cell (p := ⟨w.heap.size + 1, 5, none⟩) (by show w.heap.size + 1 < _; have := HSZ.out; omega)).trans y5
    have z6 := (hx.cell (p := ⟨w.heap.size + 1, 6, none⟩) (by show w.heap.size + 1 < _; have := HSZ.out; omega)).trans y6
    have z7 := (hx.cell (p := ⟨w.heap.size + 1, 7, none⟩) (by show w.heap.size + 1 < _; have := HSZ.out; omega)).trans y7
    have z8 := (hx.cell (p := ⟨w.heap.size + 1, 8, none⟩) (by show w.heap.size + 1 < _; have := HSZ.out; omega)).trans y8
    have z9 := (hx.cell (p := ⟨w.heap.size + 1, 9, none⟩) (by show w.heap.size + 1 < _; have := HSZ.out; omega)).trans y9
    have z10 := (hx.cell (p := ⟨w.heap.size + 1, 10, none⟩) (by show w.heap.size + 1 < _; have := HSZ.out; omega)).trans y10
    have z11 := (hx.cell (p := ⟨w.heap.size + 1, 11, none⟩) (by show w.heap.size + 1 < _; have := HSZ.out; omega)).trans y11
    have z12 := (hx.cell (p := ⟨w.heap.size + 1, 12, none⟩) (by show w.heap.size + 1 < _; have := HSZ.out; omega)).trans y12
    have z13 := (hx.cell (p := ⟨w.heap.size + 1, 13, none⟩) (by show w.heap.size + 1 < _; have := HSZ.out; omega)).trans y13
    have z14 := (hx.cell (p := ⟨w.heap.size + 1, 14, none⟩) (by show w.heap.size + 1 < _; have := HSZ.out; omega)).trans y14
    try simp only [Relb.putD, e20, Act.put, Base.s1, Base.s2, Base.s3]
    intro KK hK
    go_simp
    go_at_call 77
    refine (SP0'.out wx hx).mono ?_
    rintro e wy ⟨A', c', rfl, hk', hby⟩
    exact hK _ _ (bchain hx hby) hby ⟨Nat.le_trans (Nat.le_trans hE2 hx.size) hby.size, A', c', rfl, hk'⟩
  apply Relb.relb_one [] [] (by kernel_rfl) (by kernel_rfl) (by kernel_rfl)
  case hs =>
    intro vs wx hx hf
    clear hf
    have z0 := (hx.cell (p := ⟨w.heap.size + 1, 0, none⟩) (by show w.heap.size + 1 < _; have := HSZ.out; omega)).trans y0
    have z1 := (hx.cell (p := ⟨w.heap.size + 1, 1, none⟩) (by show w.heap.size + 1 < _; have := HSZ.out; omega)).trans y1
    have z2 := (hx.cell (p := ⟨w.heap.size + 1, 2, none⟩) (by show w.heap.size + 1 < _; have := HSZ.out; omega)).trans y2
    have z3 := (hx.cell (p := ⟨w.heap.size + 1, 3, none⟩) (by show w.heap.size + 1 < _; have := HSZ.out; omega)).trans y3
    have z4 := (hx.cell (p := ⟨w.heap.size + 1, 4, none⟩) (by show w.heap.size + 1 < _; have := HSZ.out; omega)).trans y4
    have z5 := (hx.cell (p := ⟨w.heap.size + 1, 5, none⟩) (by show w.heap.size + 1 < _; have := HSZ.out; omega)).trans y5
    have z6 := (hx.cell (p := ⟨w.heap.size + 1, 6, none⟩) (by show w.heap.size + 1 < _; have := HSZ.out; omega)).trans y6
    have z7 := (hx.cell (p := ⟨w.heap.size + 1, 7, none⟩) (by show w.heap.size + 1 < _; have := HSZ.out; omega)).trans y7
    have z8 := (hx.cell (p := ⟨w.heap.size + 1, 8, none⟩) (by show w.heap.size + 1 < _; have := HSZ.out; omega)).trans y8
    have z9 := (hx.cell (p := ⟨w.heap.size + 1, 9, none⟩) (by show w.heap.size + 1 < _; have := HSZ.out; omega)).trans y9
    have z10 := (hx.cell (p := ⟨w.heap.size + 1, 10, none⟩) (by show w.heap.size + 1 < _; have := HSZ.out; omega)).trans y10
    have z11 := (hx.cell (p := ⟨w.heap.size + 1, 11, none⟩) (by show w.heap.size + 1 < _; have := HSZ.out; omega)).trans y11
    have z12 := (hx.cell (p := ⟨w.heap.size + 1, 12, none⟩) (by show w.heap.size + 1 < _; have := HSZ.out; omega)).trans y12
    have z13 := (hx.cell (p := ⟨w.heap.size + 1, 13, none⟩) (by show w.heap.size + 1 < _; have := HSZ.out; omega)).trans y13
    have z14 := (hx.cell (p := ⟨w.heap.size + 1, 14, none⟩) (by show w.heap.size + 1 < _; have := HSZ.out; omega)).trans y14
    try simp only [Relb.putD, Act.put, Base.s1, Base.s2, Base.s3]
    intro KK hK
    go_simp
    exact hK _ _ hx (Below.refl _ _) rfl
  apply Relb.relb_kind [(4, 22)] [] [4] (SplV E X) (by kernel_rfl) (by kernel_rfl) (by kernel_rfl) (by kernel_rfl) (splV_stable)
  case hs =>
    intro vs wx hx hf
    have e22 : vs 4 = _ := hf 4 (by simp)
    clear hf
    have z0 := (hx.cell (p := ⟨w.heap.size + 1, 0, none⟩) (by show w.heap.size + 1 < _; have := HSZ.out; omega)).trans y0
    have z1 := (hx.cell (p := ⟨w.heap.size + 1, 1, none⟩) (by show w.heap.size + 1 < _; have := HSZ.out; omega)).trans y1
    have z2 := (hx.cell (p := ⟨w.heap.size + 1, 2, none⟩) (by show w.heap.size + 1 < _; have := HSZ.out; omega)).trans y2
    have z3 := (hx.cell (p := ⟨w.heap.size + 1, 3, none⟩) (by show w.heap.size + 1 < _; have := HSZ.out; omega)).trans y3
    have z4 := (hx.cell (p := ⟨w.heap.size + 1, 4, none⟩) (by show w.heap.size + 1 < _; have := HSZ.out; omega)).trans y4
    have z5 := (hx.cell (p := ⟨w.heap.size + 1, 5, none⟩) (by show w.heap.size + 1 < _; have := HSZ.out; omega)).trans y5
    have z6 := (hx.cell (p := ⟨w.heap.size + 1, 6, none⟩) (by show w.heap.size + 1 < _; have := HSZ.out; omega)).trans y6
    have z7 := (hx.cell (p := ⟨w.heap.size + 1, 7, none⟩) (by show w.heap.size + 1 < _; have := HSZ.out; omega)).trans y7
    have z8 := (hx.cell (p := ⟨w.heap.size + 1, 8, none⟩) (by show w.heap.size + 1 < _; have := HSZ.out; omega)).trans y8
    have z9 := (hx.cell (p := ⟨w.heap.size + 1, 9, none⟩) (by show w.heap.size + 1 < _; have := HSZ.out; omega)).trans y9
    have z10 := (hx.cell (p := ⟨w.heap.size + 1, 10, none⟩) (by show w.heap.size + 1 < _; have := HSZ.out; omega)).trans y10
    have z11 := (hx.cell (p := ⟨w.heap.size + 1, 11, none⟩) (by show w.heap.size + 1 < _; have := HSZ.out; omega)).trans y11
    have z12 := (hx.cell (p := ⟨w.heap.size + 1, 12, none⟩) (by show w.heap.size + 1 < _; have := HSZ.out; omega)).trans y12
    have z13 := (hx.cell (p := ⟨w.heap.size + 1, 13, none⟩) (by show w.heap.size + 1 < _; have := HSZ.out; omega)).trans y13
    have z14 := (hx.cell (p := ⟨w.heap.size + 1, 14, none⟩) (by show w.heap.size + 1 < _; have := HSZ.out; omega)).trans y14
    try simp only [Relb.putD, e22, Act.put, Base.s1, Base.s2, Base.s3]
    intro KK hK
    go_simp
    go_at_call 77
    refine (SP2.out wx hx).mono ?_
    rintro e wy ⟨A', c', rfl, hk', hby⟩
    exact hK _ _ (bchain hx hby) hby ⟨Nat.le_trans (Nat.le_trans hE2 hx.size) hby.size, A', c', rfl, hk'⟩
  apply Relb.relb_kind [(1, 19)] [1] [1] (SameV) (by kernel_rfl) (by kernel_rfl) (by kernel_rfl) (by kernel_rfl) (sameV_stable)
  case hs =>
    intro vs wx hx hf
    obtain ⟨hb19, A19, c19, e19, k19⟩ := hf 1 (by simp)
    replace e19 : vs 1 = _ := e19
    clear hf
    try simp only [Relb.putD, e19, Act.put, Base.s1, Base.s2, Base.s3]
    intro KK hK
    go_simp
    exact hK _ _ hx (Below.refl _ _) (by rw [SameV, List.map_cons, e19]; rfl)
  apply Relb.relb_kind [(3, 21)] [3] [3] (SameV) (by kernel_rfl) (by kernel_rfl) (by kernel_rfl) (by kernel_rfl) (sameV_stable)
  case hs =>
    intro vs wx hx hf
    obtain ⟨hb21, A21, c21, e21, k21⟩ := hf 3 (by simp)
    replace e21 : vs 3 = _ := e21
    clear hf
    try simp only [Relb.putD, e21, Act.put, Base.s1, Base.s2, Base.s3]
    intro KK hK
    go_simp
    exact hK _ _ hx (Below.refl _ _) (by rw [SameV, List.map_cons, e21]; rfl)
  apply Relb.relb_kind [(5, 23)] [5] [5] (SameV) (by kernel_rfl) (by kernel_rfl) (by kernel_rfl) (by kernel_rfl) (sameV_stable)
  case hs =>
    intro vs wx hx hf
    obtain ⟨hb23, A23, c23, e23, k23⟩ := hf 5 (by simp)
    replace e23 : vs 5 = _ := e23
    clear hf
    try simp only [Relb.putD, e23, Act.put, Base.s1, Base.s2, Base.s3]
    intro KK hK
    go_simp
    exact hK _ _ hx (Below.refl _ _) (by rw [SameV, List.map_cons, e23]; rfl)
  refine Relb.relb_end [(0, 18), (1, 19), (2, 20), (3, 21), (4, 22), (5, 23), (6, 6), (7, 7), (8, 8)] (by kernel_rfl) (by kernel_rfl) ?_
  intro vs wx hx hf
  have e18 : vs 0 = _ := hf 0 (by decide)
  obtain ⟨hb19, A19, c19, e19, k19⟩ := hf 1 (by decide)
  replace e19 : vs 1 = _ := e19
  have e20 : vs 2 = _ := hf 2 (by decide)
  obtain ⟨hb21, A21, c21, e21, k21⟩ := hf 3 (by decide)
  replace e21 : vs 3 = _ := e21
  have e22 : vs 4 = _ := hf 4 (by decide)
  obtain ⟨hb23, A23, c23, e23, k23⟩ := hf 5 (by decide)
  replace e23 : vs 5 = _ := e23
  obtain e6 := hf 6 (by decide)
  replace e6 : vs 6 = _ := e6
  obtain e7 := hf 7 (by decide)
  replace e7 : vs 7 = _ := e7
  obtain e8 := hf 8 (by decide)
  replace e8 : vs 8 = _ := e8
  clear hf
  simp only [List.map_cons, List.headD_cons, e19, e21, e23] at e6 e7 e8
  simp only [Relb.putD, e18, e19, e20, e21, e22, e23, e6, e7, e8, Act.put, Base.s1, Base.s2, Base.s3]

  · skip
    have z5 := (hx.cell (p := ⟨w.heap.size + 1, 5, none⟩) (by show w.heap.size + 1 < _; have := HSZ.out; omega)).trans y5
    have ze := (hx.cell (p := ⟨w.heap.size, 0, none⟩) (by show w.heap.size < _; have := HSZ.out; omega)).trans ye
    have KE3 := Lib.hid (HKE.out.below hx (by have := HSZ.out; omega))
    have HB3 := Lib.hid (bchain HB2.out hx)
    have K1 := Lib.hid k19
    have K2 := Lib.hid k21
    have K3 := Lib.hid k23
    clear e18 e19 e20 e21 e22 e23 e6 e7 e8 hb19 hb21 hb23 k19 k21 k23 y0 y1 y2 y3 y4 y5 y6 y7 y8 y9 y10 y11 y12 y13 y14 ye hx
    by_cases q1 : hd.n = 0
    · by_cases q2 : M.length = 0
      · skip
        have b1 : (hd.n == 0) = true := beq_iff_eq.2 q1
        have b2 : ((M.length : Int) == 0) = true := beq_iff_eq.2 (by omega)
        have b2n : (M.length == 0) = true := beq_iff_eq.2 q2
        have hnd' : nd = 1 := by rw [HND.out]; unfold need; rw [if_pos ⟨q1, q2⟩]
        clear q1 q2
        have HNDE : Hid (nd = 1) := Lib.hid hnd'
        clear hnd'
        by_cases hsn : (S.length : Int) < 1
        · have b3 : decide ((S.length : Int) < 1) = true := decide_eq_true hsn
          have hr := HRES.out
          rw [if_pos (by rw [HNDE.out]; exact hsn)] at hr
          have hr1 := Lib.hid hr
          have hl : L.length ≤ 1099511627776 := by have := HFIT.out; unfold Fits at this; omega
          clear hsn hr
          go_wp2_with (go_at_call 23; refine (put_any E h L NS nc nv cv 1 0 0 wx (HEM.out.grow HB3.out) hl).mono ?_; rintro e w5 ⟨rfl, hk5, hm5⟩)
          (try simp only [Exit.inBlock, Exit.then]); refine bodyPost_ret (results_none rfl _ _ _) rfl ?_
          refine ⟨rfl, (Keeps.of_below HB3.out E).trans hk5, ?_⟩
          rw [hr1.out, List.append_nil]
          obtain ⟨nv5, cv5, nc5, hm5, hn5⟩ := hm5
          exact ⟨nv5, cv5, nc5, hm5, hn5.mono HB3.out.size⟩
        · have b3 : decide ((S.length : Int) < 1) = false := decide_eq_false hsn
          have hr := HRES.out
          rw [if_neg (by rw [HNDE.out]; exact hsn)] at hr
          have hr1 := Lib.hid hr
          clear hsn hr HRES
          go_upto_region 8 with fail
          obtain ⟨W7, hW7⟩ : ∃ W, W = wx.alloc (.cells #[.slice none 0 0] 23) := ⟨_, rfl⟩
          rw [← hW7]
          have HB7 : Hid (RawB w W7 E wx.heap.size w.heap.size h L NS nc ([], []) (.slice none 0 0)) := Lib.hid (by
            have hb7 : Below wx.heap.size wx W7 := by rw [hW7]; exact Base.bel
            have hr0 : Raw w wx E h L NS nc ([], []) (.slice none 0 0) := (Raw.start HEM.out).grow HB3.out
            refine ⟨hr0.grow hb7, by rw [hW7]; exact Blk.new _ _ _, (KE3.out.below hb7 KE3.out.lt), HB3.out.size⟩)
          have hb7 : Below wx.heap.size wx W7 := by rw [hW7]; exact Base.bel
          have hEx : E ≤ wx.heap.size := by have := HB3.out.size; omega
          have K71 := Lib.hid (K1.out.below hb7 hEx)
          have K72 := Lib.hid (K2.out.below hb7 hEx)
          have K73 := Lib.hid (K3.out.below hb7 hEx)
          clear hb7 hW7
          go_cut [11] from 12 (fun v wz => v = .func (.func 78) #[] #[.pointer (some ⟨wx.heap.size, 0, none⟩), .pointer (some ⟨w.heap.size, 0, none⟩)] ∧ wz = W7)
          case first =>
            go_wp2_with fail
            go_meet
            exact ⟨rfl, rfl⟩
          case rest =>
            obtain ⟨rfl, rfl⟩ := hcut
            have hk := ‹∀ (a : Act) (w : World), Code.wp Tryz.prog _ _ a w → _›
            refine hk _ _ ?_
            refine cast_code (c := tailL 9) (by kernel_rfl) ?_
            have hfit' := HFIT.out
            rw [hr1.out, HNDE.out] at hfit'
            refine wp_mono (list_rest (nd := 1) HB7.out hE HX.out hmb K71.out K72.out K73.out HIM.out HIS.out HIX.out nM nS nX (by omega) (by omega) rfl rfl (by unfold Fits at hfit' ⊢; simp only [shut, landR_length] at hfit'; exact hfit')) (fun e a w9 hq => ?_)
            show bodyPost _ _ _ e a w9
            rw [hr1.out, HNDE.out]
            exact hq
      · skip
        have b1 : (hd.n == 0) = true := beq_iff_eq.2 q1
        have b2 : ((M.length : Int) == 0) = false := beq_eq_false_iff_ne.2 (by omega)
        have b2n : (M.length == 0) = false := beq_eq_false_iff_ne.2 q2
        have hnd' : nd = hd.n := by rw [HND.out]; unfold need; rw [if_neg (fun h => q2 h.2)]
        clear q1 q2
        have HNDE : Hid (nd = hd.n) := Lib.hid hnd'
        clear hnd'
        by_cases hsn : (S.length : Int) < hd.n
        · have b3 : decide ((S.length : Int) < hd.n) = true := decide_eq_true hsn
          have hr := HRES.out
          rw [if_pos (by rw [HNDE.out]; exact hsn)] at hr
          have hr1 := Lib.hid hr
          have hl : L.length ≤ 1099511627776 := by have := HFIT.out; unfold Fits at this; omega
          clear hsn hr
          go_wp2_with (go_at_call 23; refine (put_any E h L NS nc nv cv 1 0 0 wx (HEM.out.grow HB3.out) hl).mono ?_; rintro e w5 ⟨rfl, hk5, hm5⟩)
          (try simp only [Exit.inBlock, Exit.then]); refine bodyPost_ret (results_none rfl _ _ _) rfl ?_
          refine ⟨rfl, (Keeps.of_below HB3.out E).trans hk5, ?_⟩
          rw [hr1.out, List.append_nil]
          obtain ⟨nv5, cv5, nc5, hm5, hn5⟩ := hm5
          exact ⟨nv5, cv5, nc5, hm5, hn5.mono HB3.out.size⟩
        · have b3 : decide ((S.length : Int) < hd.n) = false := decide_eq_false hsn
          have hr := HRES.out
          rw [if_neg (by rw [HNDE.out]; exact hsn)] at hr
          have hr1 := Lib.hid hr
          clear hsn hr HRES
          go_upto_region 8 with fail
          obtain ⟨W7, hW7⟩ : ∃ W, W = wx.alloc (.cells #[.slice none 0 0] 23) := ⟨_, rfl⟩
          rw [← hW7]
          have HB7 : Hid (RawB w W7 E wx.heap.size w.heap.size h L NS nc ([], []) (.slice none 0 0)) := Lib.hid (by
            have hb7 : Below wx.heap.size wx W7 := by rw [hW7]; exact Base.bel
            have hr0 : Raw w wx E h L NS nc ([], []) (.slice none 0 0) := (Raw.start HEM.out).grow HB3.out
            refine ⟨hr0.grow hb7, by rw [hW7]; exact Blk.new _ _ _, (KE3.out.below hb7 KE3.out.lt), HB3.out.size⟩)
          have hb7 : Below wx.heap.size wx W7 := by rw [hW7]; exact Base.bel
          have hEx : E ≤ wx.heap.size := by have := HB3.out.size; omega
          have K71 := Lib.hid (K1.out.below hb7 hEx)
          have K72 := Lib.hid (K2.out.below hb7 hEx)
          have K73 := Lib.hid (K3.out.below hb7 hEx)
          clear hb7 hW7
          go_cut [11] from 12 (fun v wz => v = .func (.func 78) #[] #[.pointer (some ⟨wx.heap.size, 0, none⟩), .pointer (some ⟨w.heap.size, 0, none⟩)] ∧ wz = W7)
          case first =>
            go_wp2_with fail
            go_meet
            exact ⟨rfl, rfl⟩
          case rest =>
            obtain ⟨rfl, rfl⟩ := hcut
            have hk := ‹∀ (a : Act) (w : World), Code.wp Tryz.prog _ _ a w → _›
            refine hk _ _ ?_
            refine cast_code (c := tailL 9) (by kernel_rfl) ?_
            have hfit' := HFIT.out
            rw [hr1.out, HNDE.out] at hfit'
            refine wp_mono (list_rest (nd := hd.n) HB7.out hE HX.out hmb K71.out K72.out K73.out HIM.out HIS.out HIX.out nM nS nX (by omega) (by omega) rfl rfl (by unfold Fits at hfit' ⊢; simp only [shut, landR_length] at hfit'; exact hfit')) (fun e a w9 hq => ?_)
            show bodyPost _ _ _ e a w9
            rw [hr1.out, HNDE.out]
            exact hq
    · skip
      have b1 : (hd.n == 0) = false := beq_eq_false_iff_ne.2 q1
      have hnd' : nd = hd.n := by rw [HND.out]; unfold need; rw [if_neg (fun h => q1 h.1)]
      clear q1
      have HNDE : Hid (nd = hd.n) := Lib.hid hnd'
      clear hnd'
      by_cases hsn : (S.length : Int) < hd.n
      · have b3 : decide ((S.length : Int) < hd.n) = true := decide_eq_true hsn
        have hr := HRES.out
        rw [if_pos (by rw [HNDE.out]; exact hsn)] at hr
        have hr1 := Lib.hid hr
        have hl : L.length ≤ 1099511627776 := by have := HFIT.out; unfold Fits at this; omega
        clear hsn hr
        go_wp2_with (go_at_call 23; refine (put_any E h L NS nc nv cv 1 0 0 wx (HEM.out.grow HB3.out) hl).mono ?_; rintro e w5 ⟨rfl, hk5, hm5⟩)
        (try simp only [Exit.inBlock, Exit.then]); refine bodyPost_ret (results_none rfl _ _ _) rfl ?_
        refine ⟨rfl, (Keeps.of_below HB3.out E).trans hk5, ?_⟩
        rw [hr1.out, List.append_nil]
        obtain ⟨nv5, cv5, nc5, hm5, hn5⟩ := hm5
        exact ⟨nv5, cv5, nc5, hm5, hn5.mono HB3.out.size⟩
      · have b3 : decide ((S.length : Int) < hd.n) = false := decide_eq_false hsn
        have hr := HRES.out
        rw [if_neg (by rw [HNDE.out]; exact hsn)] at hr
        have hr1 := Lib.hid hr
        clear hsn hr HRES
        go_upto_region 8 with fail
        obtain ⟨W7, hW7⟩ : ∃ W, W = wx.alloc (.cells #[.slice none 0 0] 23) := ⟨_, rfl⟩
        rw [← hW7]
        have HB7 : Hid (RawB w W7 E wx.heap.size w.heap.size h L NS nc ([], []) (.slice none 0 0)) := Lib.hid (by
          have hb7 : Below wx.heap.size wx W7 := by rw [hW7]; exact Base.bel
          have hr0 : Raw w wx E h L NS nc ([], []) (.slice none 0 0) := (Raw.start HEM.out).grow HB3.out
          refine ⟨hr0.grow hb7, by rw [hW7]; exact Blk.new _ _ _, (KE3.out.below hb7 KE3.out.lt), HB3.out.size⟩)
        have hb7 : Below wx.heap.size wx W7 := by rw [hW7]; exact Base.bel
        have hEx : E ≤ wx.heap.size := by have := HB3.out.size; omega
        have K71 := Lib.hid (K1.out.below hb7 hEx)
        have K72 := Lib.hid (K2.out.below hb7 hEx)
        have K73 := Lib.hid (K3.out.below hb7 hEx)
        clear hb7 hW7
        go_cut [11] from 12 (fun v wz => v = .func (.func 78) #[] #[.pointer (some ⟨wx.heap.size, 0, none⟩), .pointer (some ⟨w.heap.size, 0, none⟩)] ∧ wz = W7)
        case first =>
          go_wp2_with fail
          go_meet
          exact ⟨rfl, rfl⟩
        case rest =>
          obtain ⟨rfl, rfl⟩ := hcut
          have hk := ‹∀ (a : Act) (w : World), Code.wp Tryz.prog _ _ a w → _›
          refine hk _ _ ?_
          refine cast_code (c := tailL 9) (by kernel_rfl) ?_
          have hfit' := HFIT.out
          rw [hr1.out, HNDE.out] at hfit'
          refine wp_mono (list_rest (nd := hd.n) HB7.out hE HX.out hmb K71.out K72.out K73.out HIM.out HIS.out HIX.out nM nS nX (by omega) (by omega) rfl rfl (by unfold Fits at hfit' ⊢; simp only [shut, landR_length] at hfit'; exact hfit')) (fun e a w9 hq => ?_)
          show bodyPost _ _ _ e a w9
          rw [hr1.out, HNDE.out]
          exact hq
end Go.Proofs.YtfpikilhbkeajaaGreatDoor.EmitList
