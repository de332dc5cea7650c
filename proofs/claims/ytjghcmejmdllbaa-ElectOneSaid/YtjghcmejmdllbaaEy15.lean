/- Layer 21's Proposer (elect): answer and most; the bounds stand in each. -/
import Derived.Test.YtjghcmejmdllbaaEy14
namespace Go.Proofs.Ytjghcmejmdllbaa
open Go.ChangeShapes Go.WideShapes Go.ChangeAt Go.RowKit Go.Maps
set_option linter.unusedVariables false
set_option linter.unusedSimpArgs false
set_option linter.unusedSectionVars false
set_option maxRecDepth 100000
set_option maxHeartbeats 4000000
attribute [local irreducible] hasM setM atR majM
theorem ans_no2 {B : Nat} {w0 : World} {L : List Res} (gp : Nat) (sf : Pr) (sn : Bl) (ph : Int) (la : Option Addr) (n lc sl : Nat) (bl : Bl) (vp : Option Addr) (a1 a2 : Nat) (ld : List Pr) (p0 k0 : Int) (q : Pr) (kd m1 m2 m3 m5 m6 : Int) (ms : Nat) (mb ma : Bl) (mh : Bool) (mc : Cm) (me : Hd) (mv : Vw) (mx : Hd) (my : Option Addr) (m7 mz : Nat) (hln : ld.length = n) (hn : n ≤ 1000000) (b1 : a1 < 18446744073709551616) (b2 : a2 < 18446744073709551616) (h1 : ph = p0) (h2 : kd = k0) (h3 : ms = sl) (h4 : mb = bl) (h : atR ld q < 0 ∨ hasM (a1, a2) (atR ld q) = true) (w : World) (H : St B w0 w (row 129 gp #[.int .u16 (sf.1 : Int), .int .u32 (sf.2 : Int), .int .u32 (sn.r : Int), .int .u16 (sn.w.1 : Int), .int .u32 (sn.w.2 : Int), .int .i64 ph, .slice la n lc, .int .u64 (sl : Int), .int .u32 (bl.r : Int), .int .u16 (bl.w.1 : Int), .int .u32 (bl.w.2 : Int), .pointer vp, .int .u64 (a1 : Int), .int .u64 (a2 : Int)] :: slc 36 2 (.slice la n lc) n (pv ld) :: L)) :
    Calls Try.prog 85 #[.pointer (some ⟨gp, 0, none⟩), .int .i64 p0, .int .i64 k0, .agg #[.int .u16 (q.1 : Int), .int .u32 (q.2 : Int)], .agg #[.int .i64 kd, .int .u16 m1, .int .u32 m2, .int .u64 m3, .int .u64 (ms : Int), .int .u64 m5, .int .i64 m6, .int .u32 (mb.r : Int), .int .u16 (mb.w.1 : Int), .int .u32 (mb.w.2 : Int), .int .u32 (ma.r : Int), .int .u16 (ma.w.1 : Int), .int .u32 (ma.w.2 : Int), .bool mh, .int .i64 mc.kind, .int .u16 (mc.fr.1 : Int), .int .u32 (mc.fr.2 : Int), .int .u64 (mc.num : Int), .int .u64 (mc.vw : Int), .slice me.ba mc.data.length me.bc, .int .u64 (mc.v.id : Int), .slice me.ma mc.v.mem.length me.mc, .slice me.la mc.v.lvs.length me.lc, .slice me.da mc.v.ldr.length me.dc, .int .u64 (mv.id : Int), .slice mx.ma mv.mem.length mx.mc, .slice mx.la mv.lvs.length mx.lc, .slice mx.da mv.ldr.length mx.dc, .slice my m7 mz]] w (Ret fun v w' => v = .bool false ∧ St B w0 w' (row 129 gp #[.int .u16 (sf.1 : Int), .int .u32 (sf.2 : Int), .int .u32 (sn.r : Int), .int .u16 (sn.w.1 : Int), .int .u32 (sn.w.2 : Int), .int .i64 ph, .slice la n lc, .int .u64 (sl : Int), .int .u32 (bl.r : Int), .int .u16 (bl.w.1 : Int), .int .u32 (bl.w.2 : Int), .pointer vp, .int .u64 (a1 : Int), .int .u64 (a2 : Int)] :: slc 36 2 (.slice la n lc) n (pv ld) :: L)) := by
  have HP : Hid ((ph != p0) = false) := Lib.hid (by simp [h1])
  have HK : Hid ((kd != k0) = false) := Lib.hid (by simp [h2])
  have HSL : Hid (((ms : Int) != (sl : Int)) = false) := Lib.hid (by simp [h3])
  have HB : Hid ((!(decide (mb = bl))) = false) := Lib.hid (by simp [h4])
  have HLN := Lib.hid hln
  obtain ⟨z, hz⟩ : ∃ z, atR ld q = z := ⟨_, rfl⟩
  have HAT := Lib.hid hz
  rw [hz] at h
  clear h1 h2 h3 h4 hln hz
  by_cases hz0 : z < 0
  · have hzd : decide (z < 0) = true := decide_eq_true hz0
    clear h hz0
    go_enter Try.func85, Try.ntmps85
    go_wp2_with (first | (with_reducible refine wpl rfl (dQ 8 rfl ?_); with_reducible refine (Stp.box 8 rfl rfl rfl H ?_); clear H; intro g8 w1 H; simp only [pS]; simp only [pE, nC, pS] at H) | (with_reducible refine wpl rfl (dQ 9 rfl ?_); with_reducible refine (Stp.box 9 rfl rfl rfl H ?_); clear H; intro g9 w1 H; simp only [pS]; simp only [pE, nC, pS] at H) | (with_reducible refine wpl rfl (ldQ (ty := 127) rfl ?_); first | (with_reducible refine (Stp.ldor rfl agg127 size127 rfl H (by assumption) sZ (by assumption) ?_); simp only [pS]) | (with_reducible refine (Stp.ldr rfl agg127 size127 rfl H mR sZ ?_); simp only [pS]) | (with_reducible refine (Stp.ldl rfl agg127 size127 rfl H mR (by simp) ?_); simp only [pS]; simp only [List.drop_succ_cons, List.drop_zero, List.take_succ_cons, List.take_zero])) | (with_reducible refine wpl rfl (stQ (ty := 127) rfl ?_); first | (with_reducible refine (Stp.str rfl size127 rfl rfl (by first | rfl | (simp [Value.oneCell']; done) | assumption) H uP sZ sZ ?_); clear H; intro w1 H; simp only [pS]) | (with_reducible refine (Stp.stl rfl size127 rfl rfl rfl rfl H uP (by simp) ?_); clear H; intro w1 H; simp only [pS]; simp only [List.drop_succ_cons, List.drop_zero, List.take_succ_cons, List.take_zero, List.nil_append, List.cons_append, Nat.reduceAdd] at H)))
    refine rg_begin 34 rfl (S := fun W => St _ _ W (row 74 g9 #[.int .i64 kd, .int .u16 m1, .int .u32 m2, .int .u64 m3, .int .u64 (ms : Int), .int .u64 m5, .int .i64 m6, .int .u32 (mb.r : Int), .int .u16 (mb.w.1 : Int), .int .u32 (mb.w.2 : Int), .int .u32 (ma.r : Int), .int .u16 (ma.w.1 : Int), .int .u32 (ma.w.2 : Int), .bool mh, .int .i64 mc.kind, .int .u16 (mc.fr.1 : Int), .int .u32 (mc.fr.2 : Int), .int .u64 (mc.num : Int), .int .u64 (mc.vw : Int), .slice me.ba mc.data.length me.bc, .int .u64 (mc.v.id : Int), .slice me.ma mc.v.mem.length me.mc, .slice me.la mc.v.lvs.length me.lc, .slice me.da mc.v.ldr.length me.dc, .int .u64 (mv.id : Int), .slice mx.ma mv.mem.length mx.mc, .slice mx.la mv.lvs.length mx.lc, .slice mx.da mv.ldr.length mx.dc, .slice my m7 mz] :: row 36 g8 #[.int .u16 (q.1 : Int), .int .u32 (q.2 : Int)] :: row 129 gp #[.int .u16 (sf.1 : Int), .int .u32 (sf.2 : Int), .int .u32 (sn.r : Int), .int .u16 (sn.w.1 : Int), .int .u32 (sn.w.2 : Int), .int .i64 ph, .slice la n lc, .int .u64 (sl : Int), .int .u32 (bl.r : Int), .int .u16 (bl.w.1 : Int), .int .u32 (bl.w.2 : Int), .pointer vp, .int .u64 (a1 : Int), .int .u64 (a2 : Int)] :: [])) (by kernel_rfl) (H.drew.sub sU) ?_
    replace H := H.drew
    have HS := H
    refine rg_take (i := 0) rfl kR kR kR (Yld.move rfl rfl) (H.sub sU) ?_; simp only [pS, pE]
    refine rg_take (i := 1) rfl kR kR kR (Yld.o rfl) (H.sub sU) ?_; simp only [pS]
    refine rg_take (i := 2) rfl kR kR kR (Yld.move rfl rfl) (H.sub sU) ?_; simp only [pS, pE]
    refine rg_take (i := 3) rfl kR kR kR (Yld.move rfl rfl) (H.sub sU) ?_; simp only [pS, pE]
    refine rg_take (i := 4) rfl kR kR kR (Yld.o rfl) (H.sub sU) ?_; simp only [pS]
    refine rg_take (i := 5) rfl kR kR kR (Yld.o rfl) (H.sub sU) ?_; simp only [pS]
    first | (refine rg_take (i := 6) rfl kR kR kR (Yld.ldo rfl rfl agg3 rfl (by assumption) (by assumption)) (H.sub sU) ?_; simp only [pS]) | (refine rg_take (i := 6) rfl kR kR kR (Yld.ldc rfl rfl agg3 rfl mR cE) (H.sub sU) ?_; simp only [pS])
    refine rg_take (i := 7) rfl kR kR kR (Yld.move rfl rfl) (H.sub sU) ?_; simp only [pS, pE]
    refine rg_take (i := 8) rfl kR kR kR (Yld.of (v := .bool false) rfl (fun W _ => by go_simp; first | done | exact HP.out | (rw [HP.out]) | (simpa using HP.out))) (H.sub sU) ?_; simp only [pS, pE]
    refine rg_take (i := 9) rfl kR kR kR (Yld.pick rfl rfl rfl) (H.sub sU) ?_; simp only [pS, pE]
    refine rg_take (i := 10) rfl kR kR kR (Yld.move rfl rfl) (H.sub sU) ?_; simp only [pS, pE]
    refine rg_take (i := 11) rfl kR kR kR (Yld.o rfl) (H.sub sU) ?_; simp only [pS]
    first | (refine rg_take (i := 12) rfl kR kR kR (Yld.ldo rfl rfl agg3 rfl (by assumption) (by assumption)) (H.sub sU) ?_; simp only [pS]) | (refine rg_take (i := 12) rfl kR kR kR (Yld.ldc rfl rfl agg3 rfl mR cE) (H.sub sU) ?_; simp only [pS])
    refine rg_take (i := 13) rfl kR kR kR (Yld.move rfl rfl) (H.sub sU) ?_; simp only [pS, pE]
    refine rg_take (i := 14) rfl kR kR kR (Yld.of (v := .bool false) rfl (fun W _ => by go_simp; first | done | exact HK.out | (rw [HK.out]) | (simpa using HK.out))) (H.sub sU) ?_; simp only [pS, pE]
    refine rg_take (i := 15) rfl kR kR kR (Yld.pick rfl rfl rfl) (H.sub sU) ?_; simp only [pS, pE]
    refine rg_take (i := 16) rfl kR kR kR (Yld.move rfl rfl) (H.sub sU) ?_; simp only [pS, pE]
    refine rg_take (i := 17) rfl kR kR kR (Yld.o rfl) (H.sub sU) ?_; simp only [pS]
    first | (refine rg_take (i := 18) rfl kR kR kR (Yld.ldo rfl rfl agg22 rfl (by assumption) (by assumption)) (H.sub sU) ?_; simp only [pS]) | (refine rg_take (i := 18) rfl kR kR kR (Yld.ldc rfl rfl agg22 rfl mR cE) (H.sub sU) ?_; simp only [pS])
    refine rg_take (i := 19) rfl kR kR kR (Yld.move rfl rfl) (H.sub sU) ?_; simp only [pS, pE]
    refine rg_take (i := 20) rfl kR kR kR (Yld.o rfl) (H.sub sU) ?_; simp only [pS]
    refine rg_take (i := 21) rfl kR kR kR (Yld.o rfl) (H.sub sU) ?_; simp only [pS]
    first | (refine rg_take (i := 22) rfl kR kR kR (Yld.ldo rfl rfl agg22 rfl (by assumption) (by assumption)) (H.sub sU) ?_; simp only [pS]) | (refine rg_take (i := 22) rfl kR kR kR (Yld.ldc rfl rfl agg22 rfl mR cE) (H.sub sU) ?_; simp only [pS])
    refine rg_take (i := 23) rfl kR kR kR (Yld.of (v := .bool false) rfl (fun W _ => by go_simp; first | done | exact HSL.out | (rw [HSL.out]) | (simpa using HSL.out))) (H.sub sU) ?_; simp only [pS, pE]
    refine rg_take (i := 24) rfl kR kR kR (Yld.pick rfl rfl rfl) (H.sub sU) ?_; simp only [pS, pE]
    refine rg_take (i := 25) rfl kR kR kR (Yld.move rfl rfl) (H.sub sU) ?_; simp only [pS, pE]
    refine rg_take (i := 26) rfl kR kR kR (Yld.o rfl) (H.sub sU) ?_; simp only [pS]
    first | (refine rg_take (i := 27) rfl kR kR kR (Yld.ldor rfl rfl agg67 size67 rfl (by assumption) sZ (by assumption)) (H.sub sU) ?_; simp only [pS]) | (refine rg_take (i := 27) rfl kR kR kR (Yld.ldr rfl rfl agg67 size67 rfl mR sZ) (H.sub sU) ?_; simp only [pS]) | (refine rg_take (i := 27) rfl kR kR kR (Yld.ldl rfl rfl agg67 size67 rfl mR (by simp)) (H.sub sU) ?_; simp only [pS]; simp only [List.drop_succ_cons, List.drop_zero, List.take_succ_cons, List.take_zero])
    refine rg_take (i := 28) rfl kR kR kR (Yld.move rfl rfl) (H.sub sU) ?_; simp only [pS, pE]
    refine rg_take (i := 29) rfl kR kR kR (Yld.o rfl) (H.sub sU) ?_; simp only [pS]
    refine rg_take (i := 30) rfl kR kR kR (Yld.o rfl) (H.sub sU) ?_; simp only [pS]
    first | (refine rg_take (i := 31) rfl kR kR kR (Yld.ldor rfl rfl agg67 size67 rfl (by assumption) sZ (by assumption)) (H.sub sU) ?_; simp only [pS]) | (refine rg_take (i := 31) rfl kR kR kR (Yld.ldr rfl rfl agg67 size67 rfl mR sZ) (H.sub sU) ?_; simp only [pS]) | (refine rg_take (i := 31) rfl kR kR kR (Yld.ldl rfl rfl agg67 size67 rfl mR (by simp)) (H.sub sU) ?_; simp only [pS]; simp only [List.drop_succ_cons, List.drop_zero, List.take_succ_cons, List.take_zero])
    refine rg_take (i := 32) rfl kR kR kR (Yld.neqBl rfl rfl rfl rfl HB.out) (H.sub sU) ?_; simp only [pS, pE]
    refine rg_take (i := 33) rfl kR kR kR (Yld.pick rfl rfl rfl) (H.sub sU) ?_; simp only [pS, pE]
    refine rg_done (by kernel_rfl) ?_
    go_wp2_with (first | (with_reducible refine wpl rfl (dQ 8 rfl ?_); with_reducible refine (Stp.box 8 rfl rfl rfl H ?_); clear H; intro g8 w1 H; simp only [pS]; simp only [pE, nC, pS] at H) | (with_reducible refine wpl rfl (dQ 9 rfl ?_); with_reducible refine (Stp.box 9 rfl rfl rfl H ?_); clear H; intro g9 w1 H; simp only [pS]; simp only [pE, nC, pS] at H) | (with_reducible refine wpl rfl (ldQ (ty := 127) rfl ?_); first | (with_reducible refine (Stp.ldor rfl agg127 size127 rfl H (by assumption) sZ (by assumption) ?_); simp only [pS]) | (with_reducible refine (Stp.ldr rfl agg127 size127 rfl H mR sZ ?_); simp only [pS]) | (with_reducible refine (Stp.ldl rfl agg127 size127 rfl H mR (by simp) ?_); simp only [pS]; simp only [List.drop_succ_cons, List.drop_zero, List.take_succ_cons, List.take_zero])) | (with_reducible refine wpl rfl (stQ (ty := 127) rfl ?_); first | (with_reducible refine (Stp.str rfl size127 rfl rfl (by first | rfl | (simp [Value.oneCell']; done) | assumption) H uP sZ sZ ?_); clear H; intro w1 H; simp only [pS]) | (with_reducible refine (Stp.stl rfl size127 rfl rfl rfl rfl H uP (by simp) ?_); clear H; intro w1 H; simp only [pS]; simp only [List.drop_succ_cons, List.drop_zero, List.take_succ_cons, List.take_zero, List.nil_append, List.cons_append, Nat.reduceAdd] at H)))
    refine rg_begin 7 rfl (S := fun W => St _ _ W (row 36 g8 #[.int .u16 (q.1 : Int), .int .u32 (q.2 : Int)] :: row 129 gp #[.int .u16 (sf.1 : Int), .int .u32 (sf.2 : Int), .int .u32 (sn.r : Int), .int .u16 (sn.w.1 : Int), .int .u32 (sn.w.2 : Int), .int .i64 ph, .slice la n lc, .int .u64 (sl : Int), .int .u32 (bl.r : Int), .int .u16 (bl.w.1 : Int), .int .u32 (bl.w.2 : Int), .pointer vp, .int .u64 (a1 : Int), .int .u64 (a2 : Int)] :: slc 36 2 (.slice la n lc) n (pv ld) :: [])) (by kernel_rfl) (H.drew.sub sU) ?_
    replace H := H.drew
    have HS := H
    refine rg_take (i := 0) rfl kR kR kR (Yld.move rfl rfl) (H.sub sU) ?_; simp only [pS, pE]
    refine rg_take (i := 1) rfl kR kR kR (Yld.o rfl) (H.sub sU) ?_; simp only [pS]
    refine rg_take (i := 2) rfl kR kR kR (Yld.o rfl) (H.sub sU) ?_; simp only [pS]
    first | (refine rg_take (i := 3) rfl kR kR kR (Yld.ldo rfl rfl agg23 rfl (by assumption) (by assumption)) (H.sub sU) ?_; simp only [pS]) | (refine rg_take (i := 3) rfl kR kR kR (Yld.ldc rfl rfl agg23 rfl mR cE) (H.sub sU) ?_; simp only [pS])
    first | (refine rg_take (i := 4) rfl kR kR kR (Yld.ldor rfl rfl agg36 size36 rfl (by assumption) sZ (by assumption)) (H.sub sU) ?_; simp only [pS]) | (refine rg_take (i := 4) rfl kR kR kR (Yld.ldr rfl rfl agg36 size36 rfl mR sZ) (H.sub sU) ?_; simp only [pS]) | (refine rg_take (i := 4) rfl kR kR kR (Yld.ldl rfl rfl agg36 size36 rfl mR (by simp)) (H.sub sU) ?_; simp only [pS]; simp only [List.drop_succ_cons, List.drop_zero, List.take_succ_cons, List.take_zero])
    refine rg_one (i := 5) (by kernel_rfl) rfl rfl (fun K hK => ?_)
    refine wp_callf rfl ent117 (pindex_is _ ld q _ (own_pvk (H.getSlc mE) HLN.out hn)) rfl (fun v w1 hr => ?_)
    obtain ⟨rfl, hb1⟩ := hr
    replace H := H.grow hb1
    clear hb1
    rw [HAT.out]
    clear HS
    have HS := H
    refine hK.out _ _ (H.sub sU) ?_
    clear hK K
    simp only [pS]
    refine rg_take (i := 6) rfl kR kR kR (Yld.assign rfl rfl) (H.sub sU) ?_; simp only [pS, pE]
    refine rg_done (by kernel_rfl) ?_
    go_wp2_with (first | (go_at_call 87; (with_reducible refine (has_ok a1 a2 z b1 b2 _ HHS.out _).mono ?_); rintro e w1 ⟨v, rfl, hr⟩; obtain ⟨rfl, hb1⟩ := hr; replace H := H.grow hb1; clear hb1) | (go_at_call 118; (with_reducible refine (with_ok a1 a2 z b1 b2 c1 c2 HWT.out _).mono ?_); rintro e w1 ⟨v, rfl, hr⟩; obtain ⟨rfl, hb1⟩ := hr; replace H := H.grow hb1; clear hb1) | (with_reducible refine wpl rfl (dQ 8 rfl ?_); with_reducible refine (Stp.box 8 rfl rfl rfl H ?_); clear H; intro g8 w1 H; simp only [pS]; simp only [pE, nC, pS] at H) | (with_reducible refine wpl rfl (dQ 9 rfl ?_); with_reducible refine (Stp.box 9 rfl rfl rfl H ?_); clear H; intro g9 w1 H; simp only [pS]; simp only [pE, nC, pS] at H) | (with_reducible refine wpl rfl (ldQ (ty := 127) rfl ?_); first | (with_reducible refine (Stp.ldor rfl agg127 size127 rfl H (by assumption) sZ (by assumption) ?_); simp only [pS]) | (with_reducible refine (Stp.ldr rfl agg127 size127 rfl H mR sZ ?_); simp only [pS]) | (with_reducible refine (Stp.ldl rfl agg127 size127 rfl H mR (by simp) ?_); simp only [pS]; simp only [List.drop_succ_cons, List.drop_zero, List.take_succ_cons, List.take_zero])) | (with_reducible refine wpl rfl (stQ (ty := 127) rfl ?_); first | (with_reducible refine (Stp.str rfl size127 rfl rfl (by first | rfl | (simp [Value.oneCell']; done) | assumption) H uP sZ sZ ?_); clear H; intro w1 H; simp only [pS]) | (with_reducible refine (Stp.stl rfl size127 rfl rfl rfl rfl H uP (by simp) ?_); clear H; intro w1 H; simp only [pS]; simp only [List.drop_succ_cons, List.drop_zero, List.take_succ_cons, List.take_zero, List.nil_append, List.cons_append, Nat.reduceAdd] at H)))
    go_ret
    exact ⟨_, rfl, rfl, H.sub sU⟩
  · have hzd : decide (z < 0) = false := decide_eq_false hz0
    have HHS := Lib.hid (h.resolve_left hz0)
    clear h hz0
    go_enter Try.func85, Try.ntmps85
    go_wp2_with (first | (with_reducible refine wpl rfl (dQ 8 rfl ?_); with_reducible refine (Stp.box 8 rfl rfl rfl H ?_); clear H; intro g8 w1 H; simp only [pS]; simp only [pE, nC, pS] at H) | (with_reducible refine wpl rfl (dQ 9 rfl ?_); with_reducible refine (Stp.box 9 rfl rfl rfl H ?_); clear H; intro g9 w1 H; simp only [pS]; simp only [pE, nC, pS] at H) | (with_reducible refine wpl rfl (ldQ (ty := 127) rfl ?_); first | (with_reducible refine (Stp.ldor rfl agg127 size127 rfl H (by assumption) sZ (by assumption) ?_); simp only [pS]) | (with_reducible refine (Stp.ldr rfl agg127 size127 rfl H mR sZ ?_); simp only [pS]) | (with_reducible refine (Stp.ldl rfl agg127 size127 rfl H mR (by simp) ?_); simp only [pS]; simp only [List.drop_succ_cons, List.drop_zero, List.take_succ_cons, List.take_zero])) | (with_reducible refine wpl rfl (stQ (ty := 127) rfl ?_); first | (with_reducible refine (Stp.str rfl size127 rfl rfl (by first | rfl | (simp [Value.oneCell']; done) | assumption) H uP sZ sZ ?_); clear H; intro w1 H; simp only [pS]) | (with_reducible refine (Stp.stl rfl size127 rfl rfl rfl rfl H uP (by simp) ?_); clear H; intro w1 H; simp only [pS]; simp only [List.drop_succ_cons, List.drop_zero, List.take_succ_cons, List.take_zero, List.nil_append, List.cons_append, Nat.reduceAdd] at H)))
    refine rg_begin 34 rfl (S := fun W => St _ _ W (row 74 g9 #[.int .i64 kd, .int .u16 m1, .int .u32 m2, .int .u64 m3, .int .u64 (ms : Int), .int .u64 m5, .int .i64 m6, .int .u32 (mb.r : Int), .int .u16 (mb.w.1 : Int), .int .u32 (mb.w.2 : Int), .int .u32 (ma.r : Int), .int .u16 (ma.w.1 : Int), .int .u32 (ma.w.2 : Int), .bool mh, .int .i64 mc.kind, .int .u16 (mc.fr.1 : Int), .int .u32 (mc.fr.2 : Int), .int .u64 (mc.num : Int), .int .u64 (mc.vw : Int), .slice me.ba mc.data.length me.bc, .int .u64 (mc.v.id : Int), .slice me.ma mc.v.mem.length me.mc, .slice me.la mc.v.lvs.length me.lc, .slice me.da mc.v.ldr.length me.dc, .int .u64 (mv.id : Int), .slice mx.ma mv.mem.length mx.mc, .slice mx.la mv.lvs.length mx.lc, .slice mx.da mv.ldr.length mx.dc, .slice my m7 mz] :: row 36 g8 #[.int .u16 (q.1 : Int), .int .u32 (q.2 : Int)] :: row 129 gp #[.int .u16 (sf.1 : Int), .int .u32 (sf.2 : Int), .int .u32 (sn.r : Int), .int .u16 (sn.w.1 : Int), .int .u32 (sn.w.2 : Int), .int .i64 ph, .slice la n lc, .int .u64 (sl : Int), .int .u32 (bl.r : Int), .int .u16 (bl.w.1 : Int), .int .u32 (bl.w.2 : Int), .pointer vp, .int .u64 (a1 : Int), .int .u64 (a2 : Int)] :: [])) (by kernel_rfl) (H.drew.sub sU) ?_
    replace H := H.drew
    have HS := H
    refine rg_take (i := 0) rfl kR kR kR (Yld.move rfl rfl) (H.sub sU) ?_; simp only [pS, pE]
    refine rg_take (i := 1) rfl kR kR kR (Yld.o rfl) (H.sub sU) ?_; simp only [pS]
    refine rg_take (i := 2) rfl kR kR kR (Yld.move rfl rfl) (H.sub sU) ?_; simp only [pS, pE]
    refine rg_take (i := 3) rfl kR kR kR (Yld.move rfl rfl) (H.sub sU) ?_; simp only [pS, pE]
    refine rg_take (i := 4) rfl kR kR kR (Yld.o rfl) (H.sub sU) ?_; simp only [pS]
    refine rg_take (i := 5) rfl kR kR kR (Yld.o rfl) (H.sub sU) ?_; simp only [pS]
    first | (refine rg_take (i := 6) rfl kR kR kR (Yld.ldo rfl rfl agg3 rfl (by assumption) (by assumption)) (H.sub sU) ?_; simp only [pS]) | (refine rg_take (i := 6) rfl kR kR kR (Yld.ldc rfl rfl agg3 rfl mR cE) (H.sub sU) ?_; simp only [pS])
    refine rg_take (i := 7) rfl kR kR kR (Yld.move rfl rfl) (H.sub sU) ?_; simp only [pS, pE]
    refine rg_take (i := 8) rfl kR kR kR (Yld.of (v := .bool false) rfl (fun W _ => by go_simp; first | done | exact HP.out | (rw [HP.out]) | (simpa using HP.out))) (H.sub sU) ?_; simp only [pS, pE]
    refine rg_take (i := 9) rfl kR kR kR (Yld.pick rfl rfl rfl) (H.sub sU) ?_; simp only [pS, pE]
    refine rg_take (i := 10) rfl kR kR kR (Yld.move rfl rfl) (H.sub sU) ?_; simp only [pS, pE]
    refine rg_take (i := 11) rfl kR kR kR (Yld.o rfl) (H.sub sU) ?_; simp only [pS]
    first | (refine rg_take (i := 12) rfl kR kR kR (Yld.ldo rfl rfl agg3 rfl (by assumption) (by assumption)) (H.sub sU) ?_; simp only [pS]) | (refine rg_take (i := 12) rfl kR kR kR (Yld.ldc rfl rfl agg3 rfl mR cE) (H.sub sU) ?_; simp only [pS])
    refine rg_take (i := 13) rfl kR kR kR (Yld.move rfl rfl) (H.sub sU) ?_; simp only [pS, pE]
    refine rg_take (i := 14) rfl kR kR kR (Yld.of (v := .bool false) rfl (fun W _ => by go_simp; first | done | exact HK.out | (rw [HK.out]) | (simpa using HK.out))) (H.sub sU) ?_; simp only [pS, pE]
    refine rg_take (i := 15) rfl kR kR kR (Yld.pick rfl rfl rfl) (H.sub sU) ?_; simp only [pS, pE]
    refine rg_take (i := 16) rfl kR kR kR (Yld.move rfl rfl) (H.sub sU) ?_; simp only [pS, pE]
    refine rg_take (i := 17) rfl kR kR kR (Yld.o rfl) (H.sub sU) ?_; simp only [pS]
    first | (refine rg_take (i := 18) rfl kR kR kR (Yld.ldo rfl rfl agg22 rfl (by assumption) (by assumption)) (H.sub sU) ?_; simp only [pS]) | (refine rg_take (i := 18) rfl kR kR kR (Yld.ldc rfl rfl agg22 rfl mR cE) (H.sub sU) ?_; simp only [pS])
    refine rg_take (i := 19) rfl kR kR kR (Yld.move rfl rfl) (H.sub sU) ?_; simp only [pS, pE]
    refine rg_take (i := 20) rfl kR kR kR (Yld.o rfl) (H.sub sU) ?_; simp only [pS]
    refine rg_take (i := 21) rfl kR kR kR (Yld.o rfl) (H.sub sU) ?_; simp only [pS]
    first | (refine rg_take (i := 22) rfl kR kR kR (Yld.ldo rfl rfl agg22 rfl (by assumption) (by assumption)) (H.sub sU) ?_; simp only [pS]) | (refine rg_take (i := 22) rfl kR kR kR (Yld.ldc rfl rfl agg22 rfl mR cE) (H.sub sU) ?_; simp only [pS])
    refine rg_take (i := 23) rfl kR kR kR (Yld.of (v := .bool false) rfl (fun W _ => by go_simp; first | done | exact HSL.out | (rw [HSL.out]) | (simpa using HSL.out))) (H.sub sU) ?_; simp only [pS, pE]
    refine rg_take (i := 24) rfl kR kR kR (Yld.pick rfl rfl rfl) (H.sub sU) ?_; simp only [pS, pE]
    refine rg_take (i := 25) rfl kR kR kR (Yld.move rfl rfl) (H.sub sU) ?_; simp only [pS, pE]
    refine rg_take (i := 26) rfl kR kR kR (Yld.o rfl) (H.sub sU) ?_; simp only [pS]
    first | (refine rg_take (i := 27) rfl kR kR kR (Yld.ldor rfl rfl agg67 size67 rfl (by assumption) sZ (by assumption)) (H.sub sU) ?_; simp only [pS]) | (refine rg_take (i := 27) rfl kR kR kR (Yld.ldr rfl rfl agg67 size67 rfl mR sZ) (H.sub sU) ?_; simp only [pS]) | (refine rg_take (i := 27) rfl kR kR kR (Yld.ldl rfl rfl agg67 size67 rfl mR (by simp)) (H.sub sU) ?_; simp only [pS]; simp only [List.drop_succ_cons, List.drop_zero, List.take_succ_cons, List.take_zero])
    refine rg_take (i := 28) rfl kR kR kR (Yld.move rfl rfl) (H.sub sU) ?_; simp only [pS, pE]
    refine rg_take (i := 29) rfl kR kR kR (Yld.o rfl) (H.sub sU) ?_; simp only [pS]
    refine rg_take (i := 30) rfl kR kR kR (Yld.o rfl) (H.sub sU) ?_; simp only [pS]
    first | (refine rg_take (i := 31) rfl kR kR kR (Yld.ldor rfl rfl agg67 size67 rfl (by assumption) sZ (by assumption)) (H.sub sU) ?_; simp only [pS]) | (refine rg_take (i := 31) rfl kR kR kR (Yld.ldr rfl rfl agg67 size67 rfl mR sZ) (H.sub sU) ?_; simp only [pS]) | (refine rg_take (i := 31) rfl kR kR kR (Yld.ldl rfl rfl agg67 size67 rfl mR (by simp)) (H.sub sU) ?_; simp only [pS]; simp only [List.drop_succ_cons, List.drop_zero, List.take_succ_cons, List.take_zero])
    refine rg_take (i := 32) rfl kR kR kR (Yld.neqBl rfl rfl rfl rfl HB.out) (H.sub sU) ?_; simp only [pS, pE]
    refine rg_take (i := 33) rfl kR kR kR (Yld.pick rfl rfl rfl) (H.sub sU) ?_; simp only [pS, pE]
    refine rg_done (by kernel_rfl) ?_
    go_wp2_with (first | (with_reducible refine wpl rfl (dQ 8 rfl ?_); with_reducible refine (Stp.box 8 rfl rfl rfl H ?_); clear H; intro g8 w1 H; simp only [pS]; simp only [pE, nC, pS] at H) | (with_reducible refine wpl rfl (dQ 9 rfl ?_); with_reducible refine (Stp.box 9 rfl rfl rfl H ?_); clear H; intro g9 w1 H; simp only [pS]; simp only [pE, nC, pS] at H) | (with_reducible refine wpl rfl (ldQ (ty := 127) rfl ?_); first | (with_reducible refine (Stp.ldor rfl agg127 size127 rfl H (by assumption) sZ (by assumption) ?_); simp only [pS]) | (with_reducible refine (Stp.ldr rfl agg127 size127 rfl H mR sZ ?_); simp only [pS]) | (with_reducible refine (Stp.ldl rfl agg127 size127 rfl H mR (by simp) ?_); simp only [pS]; simp only [List.drop_succ_cons, List.drop_zero, List.take_succ_cons, List.take_zero])) | (with_reducible refine wpl rfl (stQ (ty := 127) rfl ?_); first | (with_reducible refine (Stp.str rfl size127 rfl rfl (by first | rfl | (simp [Value.oneCell']; done) | assumption) H uP sZ sZ ?_); clear H; intro w1 H; simp only [pS]) | (with_reducible refine (Stp.stl rfl size127 rfl rfl rfl rfl H uP (by simp) ?_); clear H; intro w1 H; simp only [pS]; simp only [List.drop_succ_cons, List.drop_zero, List.take_succ_cons, List.take_zero, List.nil_append, List.cons_append, Nat.reduceAdd] at H)))
    refine rg_begin 7 rfl (S := fun W => St _ _ W (row 36 g8 #[.int .u16 (q.1 : Int), .int .u32 (q.2 : Int)] :: row 129 gp #[.int .u16 (sf.1 : Int), .int .u32 (sf.2 : Int), .int .u32 (sn.r : Int), .int .u16 (sn.w.1 : Int), .int .u32 (sn.w.2 : Int), .int .i64 ph, .slice la n lc, .int .u64 (sl : Int), .int .u32 (bl.r : Int), .int .u16 (bl.w.1 : Int), .int .u32 (bl.w.2 : Int), .pointer vp, .int .u64 (a1 : Int), .int .u64 (a2 : Int)] :: slc 36 2 (.slice la n lc) n (pv ld) :: [])) (by kernel_rfl) (H.drew.sub sU) ?_
    replace H := H.drew
    have HS := H
    refine rg_take (i := 0) rfl kR kR kR (Yld.move rfl rfl) (H.sub sU) ?_; simp only [pS, pE]
    refine rg_take (i := 1) rfl kR kR kR (Yld.o rfl) (H.sub sU) ?_; simp only [pS]
    refine rg_take (i := 2) rfl kR kR kR (Yld.o rfl) (H.sub sU) ?_; simp only [pS]
    first | (refine rg_take (i := 3) rfl kR kR kR (Yld.ldo rfl rfl agg23 rfl (by assumption) (by assumption)) (H.sub sU) ?_; simp only [pS]) | (refine rg_take (i := 3) rfl kR kR kR (Yld.ldc rfl rfl agg23 rfl mR cE) (H.sub sU) ?_; simp only [pS])
    first | (refine rg_take (i := 4) rfl kR kR kR (Yld.ldor rfl rfl agg36 size36 rfl (by assumption) sZ (by assumption)) (H.sub sU) ?_; simp only [pS]) | (refine rg_take (i := 4) rfl kR kR kR (Yld.ldr rfl rfl agg36 size36 rfl mR sZ) (H.sub sU) ?_; simp only [pS]) | (refine rg_take (i := 4) rfl kR kR kR (Yld.ldl rfl rfl agg36 size36 rfl mR (by simp)) (H.sub sU) ?_; simp only [pS]; simp only [List.drop_succ_cons, List.drop_zero, List.take_succ_cons, List.take_zero])
    refine rg_one (i := 5) (by kernel_rfl) rfl rfl (fun K hK => ?_)
    refine wp_callf rfl ent117 (pindex_is _ ld q _ (own_pvk (H.getSlc mE) HLN.out hn)) rfl (fun v w1 hr => ?_)
    obtain ⟨rfl, hb1⟩ := hr
    replace H := H.grow hb1
    clear hb1
    rw [HAT.out]
    clear HS
    have HS := H
    refine hK.out _ _ (H.sub sU) ?_
    clear hK K
    simp only [pS]
    refine rg_take (i := 6) rfl kR kR kR (Yld.assign rfl rfl) (H.sub sU) ?_; simp only [pS, pE]
    refine rg_done (by kernel_rfl) ?_
    go_wp2_with (first | (go_at_call 87; (with_reducible refine (has_ok a1 a2 z b1 b2 _ HHS.out _).mono ?_); rintro e w1 ⟨v, rfl, hr⟩; obtain ⟨rfl, hb1⟩ := hr; replace H := H.grow hb1; clear hb1) | (go_at_call 118; (with_reducible refine (with_ok a1 a2 z b1 b2 c1 c2 HWT.out _).mono ?_); rintro e w1 ⟨v, rfl, hr⟩; obtain ⟨rfl, hb1⟩ := hr; replace H := H.grow hb1; clear hb1) | (with_reducible refine wpl rfl (dQ 8 rfl ?_); with_reducible refine (Stp.box 8 rfl rfl rfl H ?_); clear H; intro g8 w1 H; simp only [pS]; simp only [pE, nC, pS] at H) | (with_reducible refine wpl rfl (dQ 9 rfl ?_); with_reducible refine (Stp.box 9 rfl rfl rfl H ?_); clear H; intro g9 w1 H; simp only [pS]; simp only [pE, nC, pS] at H) | (with_reducible refine wpl rfl (ldQ (ty := 127) rfl ?_); first | (with_reducible refine (Stp.ldor rfl agg127 size127 rfl H (by assumption) sZ (by assumption) ?_); simp only [pS]) | (with_reducible refine (Stp.ldr rfl agg127 size127 rfl H mR sZ ?_); simp only [pS]) | (with_reducible refine (Stp.ldl rfl agg127 size127 rfl H mR (by simp) ?_); simp only [pS]; simp only [List.drop_succ_cons, List.drop_zero, List.take_succ_cons, List.take_zero])) | (with_reducible refine wpl rfl (stQ (ty := 127) rfl ?_); first | (with_reducible refine (Stp.str rfl size127 rfl rfl (by first | rfl | (simp [Value.oneCell']; done) | assumption) H uP sZ sZ ?_); clear H; intro w1 H; simp only [pS]) | (with_reducible refine (Stp.stl rfl size127 rfl rfl rfl rfl H uP (by simp) ?_); clear H; intro w1 H; simp only [pS]; simp only [List.drop_succ_cons, List.drop_zero, List.take_succ_cons, List.take_zero, List.nil_append, List.cons_append, Nat.reduceAdd] at H)))
    go_ret
    exact ⟨_, rfl, rfl, H.sub sU⟩
theorem ans_yes {B : Nat} {w0 : World} {L : List Res} (gp : Nat) (sf : Pr) (sn : Bl) (ph : Int) (la : Option Addr) (n lc sl : Nat) (bl : Bl) (vp : Option Addr) (a1 a2 : Nat) (ld : List Pr) (p0 k0 : Int) (q : Pr) (kd m1 m2 m3 m5 m6 : Int) (ms : Nat) (mb ma : Bl) (mh : Bool) (mc : Cm) (me : Hd) (mv : Vw) (mx : Hd) (my : Option Addr) (m7 mz : Nat) (hln : ld.length = n) (hn : n ≤ 1000000) (b1 : a1 < 18446744073709551616) (b2 : a2 < 18446744073709551616) (h1 : ph = p0) (h2 : kd = k0) (h3 : ms = sl) (h4 : mb = bl) (z : Int) (hz : atR ld q = z) (hz0 : 0 ≤ z) (hh : hasM (a1, a2) z = false) (c1 c2 : Nat) (hc : setM (a1, a2) z = (c1, c2)) (w : World) (H : St B w0 w (row 129 gp #[.int .u16 (sf.1 : Int), .int .u32 (sf.2 : Int), .int .u32 (sn.r : Int), .int .u16 (sn.w.1 : Int), .int .u32 (sn.w.2 : Int), .int .i64 ph, .slice la n lc, .int .u64 (sl : Int), .int .u32 (bl.r : Int), .int .u16 (bl.w.1 : Int), .int .u32 (bl.w.2 : Int), .pointer vp, .int .u64 (a1 : Int), .int .u64 (a2 : Int)] :: slc 36 2 (.slice la n lc) n (pv ld) :: L)) :
    Calls Try.prog 85 #[.pointer (some ⟨gp, 0, none⟩), .int .i64 p0, .int .i64 k0, .agg #[.int .u16 (q.1 : Int), .int .u32 (q.2 : Int)], .agg #[.int .i64 kd, .int .u16 m1, .int .u32 m2, .int .u64 m3, .int .u64 (ms : Int), .int .u64 m5, .int .i64 m6, .int .u32 (mb.r : Int), .int .u16 (mb.w.1 : Int), .int .u32 (mb.w.2 : Int), .int .u32 (ma.r : Int), .int .u16 (ma.w.1 : Int), .int .u32 (ma.w.2 : Int), .bool mh, .int .i64 mc.kind, .int .u16 (mc.fr.1 : Int), .int .u32 (mc.fr.2 : Int), .int .u64 (mc.num : Int), .int .u64 (mc.vw : Int), .slice me.ba mc.data.length me.bc, .int .u64 (mc.v.id : Int), .slice me.ma mc.v.mem.length me.mc, .slice me.la mc.v.lvs.length me.lc, .slice me.da mc.v.ldr.length me.dc, .int .u64 (mv.id : Int), .slice mx.ma mv.mem.length mx.mc, .slice mx.la mv.lvs.length mx.lc, .slice mx.da mv.ldr.length mx.dc, .slice my m7 mz]] w (Ret fun v w' => v = .bool true ∧ St B w0 w' (row 129 gp #[.int .u16 (sf.1 : Int), .int .u32 (sf.2 : Int), .int .u32 (sn.r : Int), .int .u16 (sn.w.1 : Int), .int .u32 (sn.w.2 : Int), .int .i64 ph, .slice la n lc, .int .u64 (sl : Int), .int .u32 (bl.r : Int), .int .u16 (bl.w.1 : Int), .int .u32 (bl.w.2 : Int), .pointer vp, .int .u64 (c1 : Int), .int .u64 (c2 : Int)] :: slc 36 2 (.slice la n lc) n (pv ld) :: L)) := by
  have HP : Hid ((ph != p0) = false) := Lib.hid (by simp [h1])
  have HK : Hid ((kd != k0) = false) := Lib.hid (by simp [h2])
  have HSL : Hid (((ms : Int) != (sl : Int)) = false) := Lib.hid (by simp [h3])
  have HB : Hid ((!(decide (mb = bl))) = false) := Lib.hid (by simp [h4])
  have HLN := Lib.hid hln
  have HAT := Lib.hid hz
  have HHS := Lib.hid hh
  have HWT := Lib.hid hc
  have hzd : decide (z < 0) = false := decide_eq_false (by omega)
  clear h1 h2 h3 h4 hln hz hh hc hz0
  go_enter Try.func85, Try.ntmps85
  go_wp2_with (first | (with_reducible refine wpl rfl (dQ 8 rfl ?_); with_reducible refine (Stp.box 8 rfl rfl rfl H ?_); clear H; intro g8 w1 H; simp only [pS]; simp only [pE, nC, pS] at H) | (with_reducible refine wpl rfl (dQ 9 rfl ?_); with_reducible refine (Stp.box 9 rfl rfl rfl H ?_); clear H; intro g9 w1 H; simp only [pS]; simp only [pE, nC, pS] at H) | (with_reducible refine wpl rfl (ldQ (ty := 127) rfl ?_); first | (with_reducible refine (Stp.ldor rfl agg127 size127 rfl H (by assumption) sZ (by assumption) ?_); simp only [pS]) | (with_reducible refine (Stp.ldr rfl agg127 size127 rfl H mR sZ ?_); simp only [pS]) | (with_reducible refine (Stp.ldl rfl agg127 size127 rfl H mR (by simp) ?_); simp only [pS]; simp only [List.drop_succ_cons, List.drop_zero, List.take_succ_cons, List.take_zero])) | (with_reducible refine wpl rfl (stQ (ty := 127) rfl ?_); first | (with_reducible refine (Stp.str rfl size127 rfl rfl (by first | rfl | (simp [Value.oneCell']; done) | assumption) H uP sZ sZ ?_); clear H; intro w1 H; simp only [pS]) | (with_reducible refine (Stp.stl rfl size127 rfl rfl rfl rfl H uP (by simp) ?_); clear H; intro w1 H; simp only [pS]; simp only [List.drop_succ_cons, List.drop_zero, List.take_succ_cons, List.take_zero, List.nil_append, List.cons_append, Nat.reduceAdd] at H)))
  refine rg_begin 34 rfl (S := fun W => St _ _ W (row 74 g9 #[.int .i64 kd, .int .u16 m1, .int .u32 m2, .int .u64 m3, .int .u64 (ms : Int), .int .u64 m5, .int .i64 m6, .int .u32 (mb.r : Int), .int .u16 (mb.w.1 : Int), .int .u32 (mb.w.2 : Int), .int .u32 (ma.r : Int), .int .u16 (ma.w.1 : Int), .int .u32 (ma.w.2 : Int), .bool mh, .int .i64 mc.kind, .int .u16 (mc.fr.1 : Int), .int .u32 (mc.fr.2 : Int), .int .u64 (mc.num : Int), .int .u64 (mc.vw : Int), .slice me.ba mc.data.length me.bc, .int .u64 (mc.v.id : Int), .slice me.ma mc.v.mem.length me.mc, .slice me.la mc.v.lvs.length me.lc, .slice me.da mc.v.ldr.length me.dc, .int .u64 (mv.id : Int), .slice mx.ma mv.mem.length mx.mc, .slice mx.la mv.lvs.length mx.lc, .slice mx.da mv.ldr.length mx.dc, .slice my m7 mz] :: row 36 g8 #[.int .u16 (q.1 : Int), .int .u32 (q.2 : Int)] :: row 129 gp #[.int .u16 (sf.1 : Int), .int .u32 (sf.2 : Int), .int .u32 (sn.r : Int), .int .u16 (sn.w.1 : Int), .int .u32 (sn.w.2 : Int), .int .i64 ph, .slice la n lc, .int .u64 (sl : Int), .int .u32 (bl.r : Int), .int .u16 (bl.w.1 : Int), .int .u32 (bl.w.2 : Int), .pointer vp, .int .u64 (a1 : Int), .int .u64 (a2 : Int)] :: [])) (by kernel_rfl) (H.drew.sub sU) ?_
  replace H := H.drew
  have HS := H
  refine rg_take (i := 0) rfl kR kR kR (Yld.move rfl rfl) (H.sub sU) ?_; simp only [pS, pE]
  refine rg_take (i := 1) rfl kR kR kR (Yld.o rfl) (H.sub sU) ?_; simp only [pS]
  refine rg_take (i := 2) rfl kR kR kR (Yld.move rfl rfl) (H.sub sU) ?_; simp only [pS, pE]
  refine rg_take (i := 3) rfl kR kR kR (Yld.move rfl rfl) (H.sub sU) ?_; simp only [pS, pE]
  refine rg_take (i := 4) rfl kR kR kR (Yld.o rfl) (H.sub sU) ?_; simp only [pS]
  refine rg_take (i := 5) rfl kR kR kR (Yld.o rfl) (H.sub sU) ?_; simp only [pS]
  first | (refine rg_take (i := 6) rfl kR kR kR (Yld.ldo rfl rfl agg3 rfl (by assumption) (by assumption)) (H.sub sU) ?_; simp only [pS]) | (refine rg_take (i := 6) rfl kR kR kR (Yld.ldc rfl rfl agg3 rfl mR cE) (H.sub sU) ?_; simp only [pS])
  refine rg_take (i := 7) rfl kR kR kR (Yld.move rfl rfl) (H.sub sU) ?_; simp only [pS, pE]
  refine rg_take (i := 8) rfl kR kR kR (Yld.of (v := .bool false) rfl (fun W _ => by go_simp; first | done | exact HP.out | (rw [HP.out]) | (simpa using HP.out))) (H.sub sU) ?_; simp only [pS, pE]
  refine rg_take (i := 9) rfl kR kR kR (Yld.pick rfl rfl rfl) (H.sub sU) ?_; simp only [pS, pE]
  refine rg_take (i := 10) rfl kR kR kR (Yld.move rfl rfl) (H.sub sU) ?_; simp only [pS, pE]
  refine rg_take (i := 11) rfl kR kR kR (Yld.o rfl) (H.sub sU) ?_; simp only [pS]
  first | (refine rg_take (i := 12) rfl kR kR kR (Yld.ldo rfl rfl agg3 rfl (by assumption) (by assumption)) (H.sub sU) ?_; simp only [pS]) | (refine rg_take (i := 12) rfl kR kR kR (Yld.ldc rfl rfl agg3 rfl mR cE) (H.sub sU) ?_; simp only [pS])
  refine rg_take (i := 13) rfl kR kR kR (Yld.move rfl rfl) (H.sub sU) ?_; simp only [pS, pE]
  refine rg_take (i := 14) rfl kR kR kR (Yld.of (v := .bool false) rfl (fun W _ => by go_simp; first | done | exact HK.out | (rw [HK.out]) | (simpa using HK.out))) (H.sub sU) ?_; simp only [pS, pE]
  refine rg_take (i := 15) rfl kR kR kR (Yld.pick rfl rfl rfl) (H.sub sU) ?_; simp only [pS, pE]
  refine rg_take (i := 16) rfl kR kR kR (Yld.move rfl rfl) (H.sub sU) ?_; simp only [pS, pE]
  refine rg_take (i := 17) rfl kR kR kR (Yld.o rfl) (H.sub sU) ?_; simp only [pS]
  first | (refine rg_take (i := 18) rfl kR kR kR (Yld.ldo rfl rfl agg22 rfl (by assumption) (by assumption)) (H.sub sU) ?_; simp only [pS]) | (refine rg_take (i := 18) rfl kR kR kR (Yld.ldc rfl rfl agg22 rfl mR cE) (H.sub sU) ?_; simp only [pS])
  refine rg_take (i := 19) rfl kR kR kR (Yld.move rfl rfl) (H.sub sU) ?_; simp only [pS, pE]
  refine rg_take (i := 20) rfl kR kR kR (Yld.o rfl) (H.sub sU) ?_; simp only [pS]
  refine rg_take (i := 21) rfl kR kR kR (Yld.o rfl) (H.sub sU) ?_; simp only [pS]
  first | (refine rg_take (i := 22) rfl kR kR kR (Yld.ldo rfl rfl agg22 rfl (by assumption) (by assumption)) (H.sub sU) ?_; simp only [pS]) | (refine rg_take (i := 22) rfl kR kR kR (Yld.ldc rfl rfl agg22 rfl mR cE) (H.sub sU) ?_; simp only [pS])
  refine rg_take (i := 23) rfl kR kR kR (Yld.of (v := .bool false) rfl (fun W _ => by go_simp; first | done | exact HSL.out | (rw [HSL.out]) | (simpa using HSL.out))) (H.sub sU) ?_; simp only [pS, pE]
  refine rg_take (i := 24) rfl kR kR kR (Yld.pick rfl rfl rfl) (H.sub sU) ?_; simp only [pS, pE]
  refine rg_take (i := 25) rfl kR kR kR (Yld.move rfl rfl) (H.sub sU) ?_; simp only [pS, pE]
  refine rg_take (i := 26) rfl kR kR kR (Yld.o rfl) (H.sub sU) ?_; simp only [pS]
  first | (refine rg_take (i := 27) rfl kR kR kR (Yld.ldor rfl rfl agg67 size67 rfl (by assumption) sZ (by assumption)) (H.sub sU) ?_; simp only [pS]) | (refine rg_take (i := 27) rfl kR kR kR (Yld.ldr rfl rfl agg67 size67 rfl mR sZ) (H.sub sU) ?_; simp only [pS]) | (refine rg_take (i := 27) rfl kR kR kR (Yld.ldl rfl rfl agg67 size67 rfl mR (by simp)) (H.sub sU) ?_; simp only [pS]; simp only [List.drop_succ_cons, List.drop_zero, List.take_succ_cons, List.take_zero])
  refine rg_take (i := 28) rfl kR kR kR (Yld.move rfl rfl) (H.sub sU) ?_; simp only [pS, pE]
  refine rg_take (i := 29) rfl kR kR kR (Yld.o rfl) (H.sub sU) ?_; simp only [pS]
  refine rg_take (i := 30) rfl kR kR kR (Yld.o rfl) (H.sub sU) ?_; simp only [pS]
  first | (refine rg_take (i := 31) rfl kR kR kR (Yld.ldor rfl rfl agg67 size67 rfl (by assumption) sZ (by assumption)) (H.sub sU) ?_; simp only [pS]) | (refine rg_take (i := 31) rfl kR kR kR (Yld.ldr rfl rfl agg67 size67 rfl mR sZ) (H.sub sU) ?_; simp only [pS]) | (refine rg_take (i := 31) rfl kR kR kR (Yld.ldl rfl rfl agg67 size67 rfl mR (by simp)) (H.sub sU) ?_; simp only [pS]; simp only [List.drop_succ_cons, List.drop_zero, List.take_succ_cons, List.take_zero])
  refine rg_take (i := 32) rfl kR kR kR (Yld.neqBl rfl rfl rfl rfl HB.out) (H.sub sU) ?_; simp only [pS, pE]
  refine rg_take (i := 33) rfl kR kR kR (Yld.pick rfl rfl rfl) (H.sub sU) ?_; simp only [pS, pE]
  refine rg_done (by kernel_rfl) ?_
  go_wp2_with (first | (with_reducible refine wpl rfl (dQ 8 rfl ?_); with_reducible refine (Stp.box 8 rfl rfl rfl H ?_); clear H; intro g8 w1 H; simp only [pS]; simp only [pE, nC, pS] at H) | (with_reducible refine wpl rfl (dQ 9 rfl ?_); with_reducible refine (Stp.box 9 rfl rfl rfl H ?_); clear H; intro g9 w1 H; simp only [pS]; simp only [pE, nC, pS] at H) | (with_reducible refine wpl rfl (ldQ (ty := 127) rfl ?_); first | (with_reducible refine (Stp.ldor rfl agg127 size127 rfl H (by assumption) sZ (by assumption) ?_); simp only [pS]) | (with_reducible refine (Stp.ldr rfl agg127 size127 rfl H mR sZ ?_); simp only [pS]) | (with_reducible refine (Stp.ldl rfl agg127 size127 rfl H mR (by simp) ?_); simp only [pS]; simp only [List.drop_succ_cons, List.drop_zero, List.take_succ_cons, List.take_zero])) | (with_reducible refine wpl rfl (stQ (ty := 127) rfl ?_); first | (with_reducible refine (Stp.str rfl size127 rfl rfl (by first | rfl | (simp [Value.oneCell']; done) | assumption) H uP sZ sZ ?_); clear H; intro w1 H; simp only [pS]) | (with_reducible refine (Stp.stl rfl size127 rfl rfl rfl rfl H uP (by simp) ?_); clear H; intro w1 H; simp only [pS]; simp only [List.drop_succ_cons, List.drop_zero, List.take_succ_cons, List.take_zero, List.nil_append, List.cons_append, Nat.reduceAdd] at H)))
  refine rg_begin 7 rfl (S := fun W => St _ _ W (row 36 g8 #[.int .u16 (q.1 : Int), .int .u32 (q.2 : Int)] :: row 129 gp #[.int .u16 (sf.1 : Int), .int .u32 (sf.2 : Int), .int .u32 (sn.r : Int), .int .u16 (sn.w.1 : Int), .int .u32 (sn.w.2 : Int), .int .i64 ph, .slice la n lc, .int .u64 (sl : Int), .int .u32 (bl.r : Int), .int .u16 (bl.w.1 : Int), .int .u32 (bl.w.2 : Int), .pointer vp, .int .u64 (a1 : Int), .int .u64 (a2 : Int)] :: slc 36 2 (.slice la n lc) n (pv ld) :: [])) (by kernel_rfl) (H.drew.sub sU) ?_
  replace H := H.drew
  have HS := H
  refine rg_take (i := 0) rfl kR kR kR (Yld.move rfl rfl) (H.sub sU) ?_; simp only [pS, pE]
  refine rg_take (i := 1) rfl kR kR kR (Yld.o rfl) (H.sub sU) ?_; simp only [pS]
  refine rg_take (i := 2) rfl kR kR kR (Yld.o rfl) (H.sub sU) ?_; simp only [pS]
  first | (refine rg_take (i := 3) rfl kR kR kR (Yld.ldo rfl rfl agg23 rfl (by assumption) (by assumption)) (H.sub sU) ?_; simp only [pS]) | (refine rg_take (i := 3) rfl kR kR kR (Yld.ldc rfl rfl agg23 rfl mR cE) (H.sub sU) ?_; simp only [pS])
  first | (refine rg_take (i := 4) rfl kR kR kR (Yld.ldor rfl rfl agg36 size36 rfl (by assumption) sZ (by assumption)) (H.sub sU) ?_; simp only [pS]) | (refine rg_take (i := 4) rfl kR kR kR (Yld.ldr rfl rfl agg36 size36 rfl mR sZ) (H.sub sU) ?_; simp only [pS]) | (refine rg_take (i := 4) rfl kR kR kR (Yld.ldl rfl rfl agg36 size36 rfl mR (by simp)) (H.sub sU) ?_; simp only [pS]; simp only [List.drop_succ_cons, List.drop_zero, List.take_succ_cons, List.take_zero])
  refine rg_one (i := 5) (by kernel_rfl) rfl rfl (fun K hK => ?_)
  refine wp_callf rfl ent117 (pindex_is _ ld q _ (own_pvk (H.getSlc mE) HLN.out hn)) rfl (fun v w1 hr => ?_)
  obtain ⟨rfl, hb1⟩ := hr
  replace H := H.grow hb1
  clear hb1
  rw [HAT.out]
  clear HS
  have HS := H
  refine hK.out _ _ (H.sub sU) ?_
  clear hK K
  simp only [pS]
  refine rg_take (i := 6) rfl kR kR kR (Yld.assign rfl rfl) (H.sub sU) ?_; simp only [pS, pE]
  refine rg_done (by kernel_rfl) ?_
  go_wp2_with (first | (go_at_call 87; (with_reducible refine (has_ok a1 a2 z b1 b2 _ HHS.out _).mono ?_); rintro e w1 ⟨v, rfl, hr⟩; obtain ⟨rfl, hb1⟩ := hr; replace H := H.grow hb1; clear hb1) | (go_at_call 118; (with_reducible refine (with_ok a1 a2 z b1 b2 c1 c2 HWT.out _).mono ?_); rintro e w1 ⟨v, rfl, hr⟩; obtain ⟨rfl, hb1⟩ := hr; replace H := H.grow hb1; clear hb1) | (with_reducible refine wpl rfl (dQ 8 rfl ?_); with_reducible refine (Stp.box 8 rfl rfl rfl H ?_); clear H; intro g8 w1 H; simp only [pS]; simp only [pE, nC, pS] at H) | (with_reducible refine wpl rfl (dQ 9 rfl ?_); with_reducible refine (Stp.box 9 rfl rfl rfl H ?_); clear H; intro g9 w1 H; simp only [pS]; simp only [pE, nC, pS] at H) | (with_reducible refine wpl rfl (ldQ (ty := 127) rfl ?_); first | (with_reducible refine (Stp.ldor rfl agg127 size127 rfl H (by assumption) sZ (by assumption) ?_); simp only [pS]) | (with_reducible refine (Stp.ldr rfl agg127 size127 rfl H mR sZ ?_); simp only [pS]) | (with_reducible refine (Stp.ldl rfl agg127 size127 rfl H mR (by simp) ?_); simp only [pS]; simp only [List.drop_succ_cons, List.drop_zero, List.take_succ_cons, List.take_zero])) | (with_reducible refine wpl rfl (stQ (ty := 127) rfl ?_); first | (with_reducible refine (Stp.str rfl size127 rfl rfl (by first | rfl | (simp [Value.oneCell']; done) | assumption) H uP sZ sZ ?_); clear H; intro w1 H; simp only [pS]) | (with_reducible refine (Stp.stl rfl size127 rfl rfl rfl rfl H uP (by simp) ?_); clear H; intro w1 H; simp only [pS]; simp only [List.drop_succ_cons, List.drop_zero, List.take_succ_cons, List.take_zero, List.nil_append, List.cons_append, Nat.reduceAdd] at H)))
  go_ret
  exact ⟨_, rfl, rfl, H.sub sU⟩
theorem most_is {B : Nat} {w0 : World} {L : List Res} (gp : Nat) (sf : Pr) (sn : Bl) (ph : Int) (la : Option Addr) (n lc sl : Nat) (bl : Bl) (vp : Option Addr) (a1 a2 : Nat) (ld : List Pr) (hn0 : 0 < n) (hn : n < 1000) (b1 : a1 < 18446744073709551616) (b2 : a2 < 18446744073709551616) (r : Bool) (hr : majM a1 a2 (n : Int) = r) (w : World) (H : St B w0 w (row 129 gp #[.int .u16 (sf.1 : Int), .int .u32 (sf.2 : Int), .int .u32 (sn.r : Int), .int .u16 (sn.w.1 : Int), .int .u32 (sn.w.2 : Int), .int .i64 ph, .slice la n lc, .int .u64 (sl : Int), .int .u32 (bl.r : Int), .int .u16 (bl.w.1 : Int), .int .u32 (bl.w.2 : Int), .pointer vp, .int .u64 (a1 : Int), .int .u64 (a2 : Int)] :: L)) :
    Calls Try.prog 86 #[.pointer (some ⟨gp, 0, none⟩)] w (Ret fun v w' => v = .bool r ∧ St B w0 w' (row 129 gp #[.int .u16 (sf.1 : Int), .int .u32 (sf.2 : Int), .int .u32 (sn.r : Int), .int .u16 (sn.w.1 : Int), .int .u32 (sn.w.2 : Int), .int .i64 ph, .slice la n lc, .int .u64 (sl : Int), .int .u32 (bl.r : Int), .int .u16 (bl.w.1 : Int), .int .u32 (bl.w.2 : Int), .pointer vp, .int .u64 (a1 : Int), .int .u64 (a2 : Int)] :: L)) := by
  have HMJ := Lib.hid hr
  clear hr
  go_enter Try.func86, Try.ntmps86
  go_wp2_with fail
  refine rg_begin 11 rfl (S := fun W => St _ _ W (row 129 gp #[.int .u16 (sf.1 : Int), .int .u32 (sf.2 : Int), .int .u32 (sn.r : Int), .int .u16 (sn.w.1 : Int), .int .u32 (sn.w.2 : Int), .int .i64 ph, .slice la n lc, .int .u64 (sl : Int), .int .u32 (bl.r : Int), .int .u16 (bl.w.1 : Int), .int .u32 (bl.w.2 : Int), .pointer vp, .int .u64 (a1 : Int), .int .u64 (a2 : Int)] :: [])) (by kernel_rfl) (H.drew.sub sU) ?_
  replace H := H.drew
  have HS := H
  refine rg_take (i := 0) rfl kR kR kR (Yld.move rfl rfl) (H.sub sU) ?_; simp only [pS, pE]
  refine rg_take (i := 1) rfl kR kR kR (Yld.o rfl) (H.sub sU) ?_; simp only [pS]
  refine rg_take (i := 2) rfl kR kR kR (Yld.o rfl) (H.sub sU) ?_; simp only [pS]
  first | (refine rg_take (i := 3) rfl kR kR kR (Yld.ldor rfl rfl agg127 size127 rfl (by assumption) sZ (by assumption)) (H.sub sU) ?_; simp only [pS]) | (refine rg_take (i := 3) rfl kR kR kR (Yld.ldr rfl rfl agg127 size127 rfl mR sZ) (H.sub sU) ?_; simp only [pS]) | (refine rg_take (i := 3) rfl kR kR kR (Yld.ldl rfl rfl agg127 size127 rfl mR (by simp)) (H.sub sU) ?_; simp only [pS]; simp only [List.drop_succ_cons, List.drop_zero, List.take_succ_cons, List.take_zero])
  refine rg_take (i := 4) rfl kR kR kR (Yld.move rfl rfl) (H.sub sU) ?_; simp only [pS, pE]
  refine rg_take (i := 5) rfl kR kR kR (Yld.o rfl) (H.sub sU) ?_; simp only [pS]
  refine rg_take (i := 6) rfl kR kR kR (Yld.o rfl) (H.sub sU) ?_; simp only [pS]
  first | (refine rg_take (i := 7) rfl kR kR kR (Yld.ldo rfl rfl agg23 rfl (by assumption) (by assumption)) (H.sub sU) ?_; simp only [pS]) | (refine rg_take (i := 7) rfl kR kR kR (Yld.ldc rfl rfl agg23 rfl mR cE) (H.sub sU) ?_; simp only [pS])
  refine rg_take (i := 8) rfl kR kR kR (Yld.o rfl) (H.sub sU) ?_; simp only [pS]
  refine rg_one (i := 9) (by kernel_rfl) rfl rfl (fun K hK => ?_)
  refine wp_callf rfl ent119 (majority_ok a1 a2 (n : Int) b1 b2 (by omega) (by omega) _ HMJ.out _) rfl (fun v w1 hr => ?_)
  obtain ⟨rfl, hb1⟩ := hr
  replace H := H.grow hb1
  clear hb1
  clear HS
  have HS := H
  refine hK.out _ _ (H.sub sU) ?_
  clear hK K
  simp only [pS]
  refine rg_take (i := 10) rfl kR kR kR (Yld.assign rfl rfl) (H.sub sU) ?_; simp only [pS, pE]
  refine rg_done (by kernel_rfl) ?_
  go_wp2_with fail
  go_ret
  exact ⟨_, rfl, rfl, H.sub sU⟩
end Go.Proofs.Ytjghcmejmdllbaa
