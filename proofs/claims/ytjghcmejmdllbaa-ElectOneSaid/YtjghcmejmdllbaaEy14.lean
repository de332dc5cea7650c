/- Layer 21's Proposer (elect): New, what a message answers; ballots, the next one; the bounds stand in each. -/
import Derived.Test.YtjghcmejmdllbaaEy6
import Derived.Test.YtjghcmejmdllbaaEy12
import Derived.Test.YtjghcmejmdllbaaEy13
namespace Go.Proofs.Ytjghcmejmdllbaa
open Go.ChangeShapes Go.WideShapes Go.ChangeAt Go.RowKit Go.Maps
set_option linter.unusedVariables false
set_option linter.unusedSimpArgs false
set_option linter.unusedSectionVars false
set_option maxRecDepth 100000
set_option maxHeartbeats 4000000
instance decBl : DecidableEq Bl := fun a b => decidable_of_iff (a.r = b.r ∧ a.w = b.w) ⟨fun h => by cases a; cases b; simp only at h; obtain ⟨h1, h2⟩ := h; subst h1 h2; rfl, fun h => by subst h; exact ⟨rfl, rfl⟩⟩
theorem bl_eq {a b : Bl} : a = b ↔ a.r = b.r ∧ a.w.1 = b.w.1 ∧ a.w.2 = b.w.2 := by
  obtain ⟨r1, x1, y1⟩ := a
  obtain ⟨r2, x2, y2⟩ := b
  simp
/-- '!=' of two ballots. -/
theorem run_neq_bl (a b : Bl) (r : Bool) (h : (!(decide (a = b))) = r) (w : World) : (binOp .neq 67 (.agg (blC a)) (.agg (blC b))).run Try.prog w = .ok (.bool r) w := by
  have h2 : (Op.equal 67 (.agg (blC a)) (.agg (blC b))).run Try.prog w = .ok (decide (a = b)) w := by
    refine (eqBT (a.r : Int) (a.w.1 : Int) (a.w.2 : Int) (b.r : Int) (b.w.1 : Int) (b.w.2 : Int) w).trans ?_
    congr 1
    rw [Bool.eq_iff_iff]
    simp only [Bool.and_eq_true, beq_iff_eq, decide_eq_true_eq, bl_eq]
    omega
  simp only [binOp]
  simp [h2, ← h]
section
variable {ops : Array Oper} {a : Act} {o : Oper} {S : World → Prop} {x y : Operand} {b1 b2 : Bl} {r : Bool}
theorem Yld.neqBl (hw : Region.wanted o (yielded ops a.tmps) = true) (ho : o.op = .binOp .neq 67 x y 67) (hx : a.eval x = .agg (blC b1)) (hy : a.eval y = .agg (blC b2)) (h : (!(decide (b1 = b2))) = r) : YieldsIf Try.prog ops S o (.bool r) a :=
  .inl ⟨hw, fun W _ => by
    unfold execOp; simp only [ho, hx, hy]
    simp [run_neq_bl b1 b2 r h, eqGuard, eqg_BT]⟩
end
theorem enew_ok {B : Nat} {w0 : World} {L : List Res} (sf : Pr) (w : World) (H : St B w0 w L) :
    Calls Try.prog 30 #[.agg #[.int .u16 (sf.1 : Int), .int .u32 (sf.2 : Int)]] w (Ret fun v w' => ∃ gp, v = .pointer (some ⟨gp, 0, none⟩) ∧ St B w0 w' (row 129 gp #[.int .u16 (sf.1 : Int), .int .u32 (sf.2 : Int), .int .u32 0, .int .u16 0, .int .u32 0, .int .i64 0, .slice none 0 0, .int .u64 0, .int .u32 0, .int .u16 0, .int .u32 0, .pointer none, .int .u64 0, .int .u64 0] :: L)) := by
  go_enter Try.func30, Try.ntmps30
  go_wp2_with (first | (with_reducible refine wpl rfl (dQ 4 rfl ?_); with_reducible refine (Stp.build (v := (.agg #[.int .u16 (sf.1 : Int), .int .u32 (sf.2 : Int), .int .u32 0, .int .u16 0, .int .u32 0, .int .i64 0, .slice none 0 0, .int .u64 0, .int .u32 0, .int .u16 0, .int .u32 0, .pointer none, .int .u64 0, .int .u64 0])) 4 rfl rfl (fun W => by kernel_rfl) ?_); simp only [pS]) | (with_reducible refine wpl rfl (dQ 1 rfl ?_); with_reducible refine (Stp.box 1 rfl rfl rfl H ?_); clear H; intro g1 w1 H; simp only [pS]; simp only [pE, nC, pS] at H) | (with_reducible refine wpl rfl (ldQ (ty := 36) rfl ?_); first | (with_reducible refine (Stp.ldor rfl agg36 size36 rfl H (by assumption) sZ (by assumption) ?_); simp only [pS]) | (with_reducible refine (Stp.ldr rfl agg36 size36 rfl H mR sZ ?_); simp only [pS]) | (with_reducible refine (Stp.ldl rfl agg36 size36 rfl H mR (by simp) ?_); simp only [pS]; simp only [List.drop_succ_cons, List.drop_zero, List.take_succ_cons, List.take_zero])) | (with_reducible refine wpl rfl (dQ 5 rfl ?_); with_reducible refine (Stp.box 5 rfl rfl rfl H ?_); clear H; intro g5 w1 H; simp only [pS]; simp only [pE, nC, pS] at H))
  go_ret
  exact ⟨_, rfl, g5, rfl, H.sub sU⟩
/-- The next ballot. -/
theorem next_yes (b : Bl) (q : Pr) (h : b.r < 4294967295) (w : World) : Calls Try.prog 81 #[.agg (blC b), .agg #[.int .u16 (q.1 : Int), .int .u32 (q.2 : Int)]] w (Ret fun v w' => v = .tuple #[.agg (blC ⟨b.r + 1, q⟩), .int .i64 0] ∧ Below w.heap.size w w') := by
  have H := St.init w
  have hi : ((b.r : Int) == 4294967295) = false := by simp; omega
  have HW : Hid (IntKind.u32.wrap ((b.r : Int) + 1) = ((b.r + 1 : Nat) : Int)) := Lib.hid (by rw [IntKind.wrap_u32]; omega)
  have hw := HW.out
  simp only [blC]
  go_enter Try.func81, Try.ntmps81
  go_wp2_with (first | (with_reducible refine wpl rfl (dQ 14 rfl ?_); with_reducible refine (Stp.build (v := (.agg #[.int .u32 ((b.r + 1 : Nat) : Int), .int .u16 (q.1 : Int), .int .u32 (q.2 : Int)])) 14 rfl rfl (fun W => by kernel_rfl) ?_); simp only [pS]) | (with_reducible refine wpl rfl (dQ 2 rfl ?_); with_reducible refine (Stp.box 2 rfl rfl rfl H ?_); clear H; intro g2 w1 H; simp only [pS]; simp only [pE, nC, pS] at H) | (with_reducible refine wpl rfl (dQ 3 rfl ?_); with_reducible refine (Stp.box 3 rfl rfl rfl H ?_); clear H; intro g3 w1 H; simp only [pS]; simp only [pE, nC, pS] at H) | (with_reducible refine wpl rfl (dQ 4 rfl ?_); with_reducible refine (Stp.alloc 4 rfl rfl zero67 H ?_); clear H; intro g4 w1 H; simp only [pS]; simp only [nC] at H) | (with_reducible refine wpl rfl (ldQ (ty := 34) rfl ?_); first | (with_reducible refine (Stp.ldo rfl agg34 rfl H (by assumption) (by assumption) ?_); simp only [pS]) | (with_reducible refine (Stp.ldc rfl agg34 rfl H mR cE ?_); simp only [pS])) | (with_reducible refine wpl rfl (stQ (ty := 67) rfl ?_); first | (with_reducible refine (Stp.str rfl size67 rfl rfl (by first | rfl | (simp [Value.oneCell']; done) | assumption) H uP sZ sZ ?_); clear H; intro w1 H; simp only [pS]) | (with_reducible refine (Stp.stl rfl size67 rfl rfl rfl rfl H uP (by simp) ?_); clear H; intro w1 H; simp only [pS]; simp only [List.drop_succ_cons, List.drop_zero, List.take_succ_cons, List.take_zero, List.nil_append, List.cons_append, Nat.reduceAdd] at H)) | (with_reducible refine wpl rfl (ldQ (ty := 36) rfl ?_); first | (with_reducible refine (Stp.ldor rfl agg36 size36 rfl H (by assumption) sZ (by assumption) ?_); simp only [pS]) | (with_reducible refine (Stp.ldr rfl agg36 size36 rfl H mR sZ ?_); simp only [pS]) | (with_reducible refine (Stp.ldl rfl agg36 size36 rfl H mR (by simp) ?_); simp only [pS]; simp only [List.drop_succ_cons, List.drop_zero, List.take_succ_cons, List.take_zero])))
  exact post_row2 rfl agg67 size67 rfl H mE rfl rfl ⟨_, rfl, rfl, H.below⟩
theorem next_no (b : Bl) (q : Pr) (h : b.r = 4294967295) (w : World) : Calls Try.prog 81 #[.agg (blC b), .agg #[.int .u16 (q.1 : Int), .int .u32 (q.2 : Int)]] w (Ret fun v w' => v = .tuple #[.agg #[.int .u32 0, .int .u16 0, .int .u32 0], .int .i64 16] ∧ Below w.heap.size w w') := by
  have H := St.init w
  have hi : ((b.r : Int) == 4294967295) = true := by simp; omega
  simp only [blC]
  go_enter Try.func81, Try.ntmps81
  go_wp2_with (first | (with_reducible refine wpl rfl (dQ 9 rfl ?_); with_reducible refine (Stp.build (v := (.agg #[.int .u32 0, .int .u16 0, .int .u32 0])) 9 rfl rfl (fun W => by kernel_rfl) ?_); simp only [pS]) | (with_reducible refine wpl rfl (dQ 2 rfl ?_); with_reducible refine (Stp.box 2 rfl rfl rfl H ?_); clear H; intro g2 w1 H; simp only [pS]; simp only [pE, nC, pS] at H) | (with_reducible refine wpl rfl (dQ 3 rfl ?_); with_reducible refine (Stp.box 3 rfl rfl rfl H ?_); clear H; intro g3 w1 H; simp only [pS]; simp only [pE, nC, pS] at H) | (with_reducible refine wpl rfl (dQ 4 rfl ?_); with_reducible refine (Stp.alloc 4 rfl rfl zero67 H ?_); clear H; intro g4 w1 H; simp only [pS]; simp only [nC] at H) | (with_reducible refine wpl rfl (ldQ (ty := 34) rfl ?_); first | (with_reducible refine (Stp.ldo rfl agg34 rfl H (by assumption) (by assumption) ?_); simp only [pS]) | (with_reducible refine (Stp.ldc rfl agg34 rfl H mR cE ?_); simp only [pS])) | (with_reducible refine wpl rfl (stQ (ty := 67) rfl ?_); first | (with_reducible refine (Stp.str rfl size67 rfl rfl (by first | rfl | (simp [Value.oneCell']; done) | assumption) H uP sZ sZ ?_); clear H; intro w1 H; simp only [pS]) | (with_reducible refine (Stp.stl rfl size67 rfl rfl rfl rfl H uP (by simp) ?_); clear H; intro w1 H; simp only [pS]; simp only [List.drop_succ_cons, List.drop_zero, List.take_succ_cons, List.take_zero, List.nil_append, List.cons_append, Nat.reduceAdd] at H)) | (with_reducible refine wpl rfl (ldQ (ty := 36) rfl ?_); first | (with_reducible refine (Stp.ldor rfl agg36 size36 rfl H (by assumption) sZ (by assumption) ?_); simp only [pS]) | (with_reducible refine (Stp.ldr rfl agg36 size36 rfl H mR sZ ?_); simp only [pS]) | (with_reducible refine (Stp.ldl rfl agg36 size36 rfl H mR (by simp) ?_); simp only [pS]; simp only [List.drop_succ_cons, List.drop_zero, List.take_succ_cons, List.take_zero])))
  exact post_row2 rfl agg67 size67 rfl H mE rfl rfl ⟨_, rfl, rfl, H.below⟩
attribute [local irreducible] hasM setM atR
theorem ans_no1 {B : Nat} {w0 : World} {L : List Res} (gp : Nat) (sf : Pr) (sn : Bl) (ph : Int) (la : Option Addr) (n lc sl : Nat) (bl : Bl) (vp : Option Addr) (a1 a2 : Nat) (ld : List Pr) (p0 k0 : Int) (q : Pr) (kd m1 m2 m3 m5 m6 : Int) (ms : Nat) (mb ma : Bl) (mh : Bool) (mc : Cm) (me : Hd) (mv : Vw) (mx : Hd) (my : Option Addr) (m7 mz : Nat) (h : ¬ (ph = p0 ∧ kd = k0 ∧ ms = sl ∧ mb = bl)) (w : World) (H : St B w0 w (row 129 gp #[.int .u16 (sf.1 : Int), .int .u32 (sf.2 : Int), .int .u32 (sn.r : Int), .int .u16 (sn.w.1 : Int), .int .u32 (sn.w.2 : Int), .int .i64 ph, .slice la n lc, .int .u64 (sl : Int), .int .u32 (bl.r : Int), .int .u16 (bl.w.1 : Int), .int .u32 (bl.w.2 : Int), .pointer vp, .int .u64 (a1 : Int), .int .u64 (a2 : Int)] :: slc 36 2 (.slice la n lc) n (pv ld) :: L)) :
    Calls Try.prog 85 #[.pointer (some ⟨gp, 0, none⟩), .int .i64 p0, .int .i64 k0, .agg #[.int .u16 (q.1 : Int), .int .u32 (q.2 : Int)], .agg #[.int .i64 kd, .int .u16 m1, .int .u32 m2, .int .u64 m3, .int .u64 (ms : Int), .int .u64 m5, .int .i64 m6, .int .u32 (mb.r : Int), .int .u16 (mb.w.1 : Int), .int .u32 (mb.w.2 : Int), .int .u32 (ma.r : Int), .int .u16 (ma.w.1 : Int), .int .u32 (ma.w.2 : Int), .bool mh, .int .i64 mc.kind, .int .u16 (mc.fr.1 : Int), .int .u32 (mc.fr.2 : Int), .int .u64 (mc.num : Int), .int .u64 (mc.vw : Int), .slice me.ba mc.data.length me.bc, .int .u64 (mc.v.id : Int), .slice me.ma mc.v.mem.length me.mc, .slice me.la mc.v.lvs.length me.lc, .slice me.da mc.v.ldr.length me.dc, .int .u64 (mv.id : Int), .slice mx.ma mv.mem.length mx.mc, .slice mx.la mv.lvs.length mx.lc, .slice mx.da mv.ldr.length mx.dc, .slice my m7 mz]] w (Ret fun v w' => v = .bool false ∧ St B w0 w' (row 129 gp #[.int .u16 (sf.1 : Int), .int .u32 (sf.2 : Int), .int .u32 (sn.r : Int), .int .u16 (sn.w.1 : Int), .int .u32 (sn.w.2 : Int), .int .i64 ph, .slice la n lc, .int .u64 (sl : Int), .int .u32 (bl.r : Int), .int .u16 (bl.w.1 : Int), .int .u32 (bl.w.2 : Int), .pointer vp, .int .u64 (a1 : Int), .int .u64 (a2 : Int)] :: slc 36 2 (.slice la n lc) n (pv ld) :: L)) := by
  by_cases h1 : ph = p0
  · have HP : Hid ((ph != p0) = false) := Lib.hid (by simp [h1])
    by_cases h2 : kd = k0
    · have HK : Hid ((kd != k0) = false) := Lib.hid (by simp [h2])
      by_cases h3 : ms = sl
      · have HSL : Hid (((ms : Int) != (sl : Int)) = false) := Lib.hid (by simp [h3])
        have HB : Hid ((!(decide (mb = bl))) = true) := Lib.hid (by simp; exact fun e => h ⟨h1, h2, h3, e⟩)
        clear h h1 h2 h3
        go_enter Try.func85, Try.ntmps85
        go_wp2_with (first | (with_reducible refine wpl rfl (dQ 8 rfl ?_); with_reducible refine (Stp.box 8 rfl rfl rfl H ?_); clear H; intro g8 w1 H; simp only [pS]; simp only [pE, nC, pS] at H) | (with_reducible refine wpl rfl (dQ 9 rfl ?_); with_reducible refine (Stp.box 9 rfl rfl rfl H ?_); clear H; intro g9 w1 H; simp only [pS]; simp only [pE, nC, pS] at H) | (with_reducible refine wpl rfl (ldQ (ty := 127) rfl ?_); first | (with_reducible refine (Stp.ldor rfl agg127 size127 rfl H (by assumption) sZ (by assumption) ?_); simp only [pS]) | (with_reducible refine (Stp.ldr rfl agg127 size127 rfl H mR sZ ?_); simp only [pS]) | (with_reducible refine (Stp.ldl rfl agg127 size127 rfl H mR (by simp) ?_); simp only [pS]; simp only [List.drop_succ_cons, List.drop_zero, List.take_succ_cons, List.take_zero])) | (with_reducible refine wpl rfl (stQ (ty := 127) rfl ?_); first | (with_reducible refine (Stp.str rfl size127 rfl rfl (by first | rfl | (simp [Value.oneCell']; done) | assumption) H uP sZ sZ ?_); clear H; intro w1 H; simp only [pS]) | (with_reducible refine (Stp.stl rfl size127 rfl rfl rfl rfl H uP (by simp) ?_); clear H; intro w1 H; simp only [pS]; simp only [List.drop_succ_cons, List.drop_zero, List.take_succ_cons, List.take_zero, List.nil_append, List.cons_append, Nat.reduceAdd] at H)))
        refine rg_begin 34 rfl (S := fun W => St _ _ W (row 74 g9 #[.int .i64 kd, .int .u16 m1, .int .u32 m2, .int .u64 m3, .int .u64 (ms : Int), .int .u64 m5, .int .i64 m6, .int .u32 (mb.r : Int), .int .u16 (mb.w.1 : Int), .int .u32 (mb.w.2 : Int), .int .u32 (ma.r : Int), .int .u16 (ma.w.1 : Int), .int .u32 (ma.w.2 : Int), .bool mh, .int .i64 mc.kind, .int .u16 (mc.fr.1 : Int), .int .u32 (mc.fr.2 : Int), .int .u64 (mc.num : Int), .int .u64 (mc.vw : Int), .slice me.ba mc.data.length me.bc, .int .u64 (mc.v.id : Int), .slice me.ma mc.v.mem.length me.mc, .slice me.la mc.v.lvs.length me.lc, .slice me.da mc.v.ldr.length me.dc, .int .u64 (mv.id : Int), .slice mx.ma mv.mem.length mx.mc, .slice mx.la mv.lvs.length mx.lc, .slice mx.da mv.ldr.length mx.dc, .slice my m7 mz] :: row 36 g8 #[.int .u16 (q.1 : Int), .int .u32 (q.2 : Int)] :: row 129 gp #[.int .u16 (sf.1 : Int), .int .u32 (sf.2 : Int), .int .u32 (sn.r : Int), .int .u16 (sn.w.1 : Int), .int .u32 (sn.w.2 : Int), .int .i64 ph, .slice la n lc, .int .u64 (sl : Int), .int .u32 (bl.r : Int), .int .u16 (bl.w.1 : Int), .int .u32 (bl.w.2 : Int), .pointer vp, .int .u64 (a1 : Int), .int .u64 (a2 : Int)] :: [])) (by kernel_rfl) (H.drew.sub sU) ?_
        replace H := H.drew
        have HS := H
        refine rg_take (i := 0) rfl kR kR kR (Yld.move rfl rfl) (H.sub sU) ?_; simp only [pS, pE]
        refine rg_take (i := 1) rfl kR kR kR (Yld.o rfl) (H.sub sU) ?_; simp only [pS]
        refine rg_take (i := 2) rfl kR kR kR (Yld.move rfl rfl) (H.sub sU) ?_; simp only [pS, pE]
        refine rg_take (i := 3) rfl kR kR kR (Yld.move rfl rfl) (H.sub sU) ?_; simp only [pS, pE]
        refine rg_take (i := 4) rfl kR kR kR (Yld.o rfl) (H.sub sU) ?_; simp only [pS]
        refine rg_take (i := 5) rfl kR kR kR (Yld.o rfl) (H.sub sU) ?_; simp only [pS]
        first | (refine rg_take (i := 6) rfl kR kR kR (Yld.ldo rfl rfl agg3 rfl (by assumption) (by assumption)) (H.sub sU) ?_; simp only [pS]) | (refine rg_take (i := 6) rfl kR kR kR (Yld.ldc rfl rfl agg3 rfl mR cE) (H.sub sU) ?_; simp only [pS])
        refine rg_take (i := 7) rfl kR kR kR (Yld.move rfl rfl) (H.sub sU) ?_; simp only [pS, pE]
        refine rg_take (i := 8) rfl kR kR kR (Yld.of (v := .bool false) rfl (fun W _ => by go_simp; first | done | exact HP.out | (rw [HP.out]) | (simpa using HP.out))) (H.sub sU) ?_; simp only [pS, pE]
        refine rg_take (i := 9) rfl kR kR kR (Yld.pick rfl rfl rfl) (H.sub sU) ?_; simp only [pS, pE]
        refine rg_take (i := 10) rfl kR kR kR (Yld.move rfl rfl) (H.sub sU) ?_; simp only [pS, pE]
        refine rg_take (i := 11) rfl kR kR kR (Yld.o rfl) (H.sub sU) ?_; simp only [pS]
        first | (refine rg_take (i := 12) rfl kR kR kR (Yld.ldo rfl rfl agg3 rfl (by assumption) (by assumption)) (H.sub sU) ?_; simp only [pS]) | (refine rg_take (i := 12) rfl kR kR kR (Yld.ldc rfl rfl agg3 rfl mR cE) (H.sub sU) ?_; simp only [pS])
        refine rg_take (i := 13) rfl kR kR kR (Yld.move rfl rfl) (H.sub sU) ?_; simp only [pS, pE]
        refine rg_take (i := 14) rfl kR kR kR (Yld.of (v := .bool false) rfl (fun W _ => by go_simp; first | done | exact HK.out | (rw [HK.out]) | (simpa using HK.out))) (H.sub sU) ?_; simp only [pS, pE]
        refine rg_take (i := 15) rfl kR kR kR (Yld.pick rfl rfl rfl) (H.sub sU) ?_; simp only [pS, pE]
        refine rg_take (i := 16) rfl kR kR kR (Yld.move rfl rfl) (H.sub sU) ?_; simp only [pS, pE]
        refine rg_take (i := 17) rfl kR kR kR (Yld.o rfl) (H.sub sU) ?_; simp only [pS]
        first | (refine rg_take (i := 18) rfl kR kR kR (Yld.ldo rfl rfl agg22 rfl (by assumption) (by assumption)) (H.sub sU) ?_; simp only [pS]) | (refine rg_take (i := 18) rfl kR kR kR (Yld.ldc rfl rfl agg22 rfl mR cE) (H.sub sU) ?_; simp only [pS])
        refine rg_take (i := 19) rfl kR kR kR (Yld.move rfl rfl) (H.sub sU) ?_; simp only [pS, pE]
        refine rg_take (i := 20) rfl kR kR kR (Yld.o rfl) (H.sub sU) ?_; simp only [pS]
        refine rg_take (i := 21) rfl kR kR kR (Yld.o rfl) (H.sub sU) ?_; simp only [pS]
        first | (refine rg_take (i := 22) rfl kR kR kR (Yld.ldo rfl rfl agg22 rfl (by assumption) (by assumption)) (H.sub sU) ?_; simp only [pS]) | (refine rg_take (i := 22) rfl kR kR kR (Yld.ldc rfl rfl agg22 rfl mR cE) (H.sub sU) ?_; simp only [pS])
        refine rg_take (i := 23) rfl kR kR kR (Yld.of (v := .bool false) rfl (fun W _ => by go_simp; first | done | exact HSL.out | (rw [HSL.out]) | (simpa using HSL.out))) (H.sub sU) ?_; simp only [pS, pE]
        refine rg_take (i := 24) rfl kR kR kR (Yld.pick rfl rfl rfl) (H.sub sU) ?_; simp only [pS, pE]
        refine rg_take (i := 25) rfl kR kR kR (Yld.move rfl rfl) (H.sub sU) ?_; simp only [pS, pE]
        refine rg_take (i := 26) rfl kR kR kR (Yld.o rfl) (H.sub sU) ?_; simp only [pS]
        first | (refine rg_take (i := 27) rfl kR kR kR (Yld.ldor rfl rfl agg67 size67 rfl (by assumption) sZ (by assumption)) (H.sub sU) ?_; simp only [pS]) | (refine rg_take (i := 27) rfl kR kR kR (Yld.ldr rfl rfl agg67 size67 rfl mR sZ) (H.sub sU) ?_; simp only [pS]) | (refine rg_take (i := 27) rfl kR kR kR (Yld.ldl rfl rfl agg67 size67 rfl mR (by simp)) (H.sub sU) ?_; simp only [pS]; simp only [List.drop_succ_cons, List.drop_zero, List.take_succ_cons, List.take_zero])
        refine rg_take (i := 28) rfl kR kR kR (Yld.move rfl rfl) (H.sub sU) ?_; simp only [pS, pE]
        refine rg_take (i := 29) rfl kR kR kR (Yld.o rfl) (H.sub sU) ?_; simp only [pS]
        refine rg_take (i := 30) rfl kR kR kR (Yld.o rfl) (H.sub sU) ?_; simp only [pS]
        first | (refine rg_take (i := 31) rfl kR kR kR (Yld.ldor rfl rfl agg67 size67 rfl (by assumption) sZ (by assumption)) (H.sub sU) ?_; simp only [pS]) | (refine rg_take (i := 31) rfl kR kR kR (Yld.ldr rfl rfl agg67 size67 rfl mR sZ) (H.sub sU) ?_; simp only [pS]) | (refine rg_take (i := 31) rfl kR kR kR (Yld.ldl rfl rfl agg67 size67 rfl mR (by simp)) (H.sub sU) ?_; simp only [pS]; simp only [List.drop_succ_cons, List.drop_zero, List.take_succ_cons, List.take_zero])
        refine rg_take (i := 32) rfl kR kR kR (Yld.neqBl rfl rfl rfl rfl HB.out) (H.sub sU) ?_; simp only [pS, pE]
        refine rg_take (i := 33) rfl kR kR kR (Yld.pick rfl rfl rfl) (H.sub sU) ?_; simp only [pS, pE]
        refine rg_done (by kernel_rfl) ?_
        go_wp2_with (first | (with_reducible refine wpl rfl (dQ 8 rfl ?_); with_reducible refine (Stp.box 8 rfl rfl rfl H ?_); clear H; intro g8 w1 H; simp only [pS]; simp only [pE, nC, pS] at H) | (with_reducible refine wpl rfl (dQ 9 rfl ?_); with_reducible refine (Stp.box 9 rfl rfl rfl H ?_); clear H; intro g9 w1 H; simp only [pS]; simp only [pE, nC, pS] at H) | (with_reducible refine wpl rfl (ldQ (ty := 127) rfl ?_); first | (with_reducible refine (Stp.ldor rfl agg127 size127 rfl H (by assumption) sZ (by assumption) ?_); simp only [pS]) | (with_reducible refine (Stp.ldr rfl agg127 size127 rfl H mR sZ ?_); simp only [pS]) | (with_reducible refine (Stp.ldl rfl agg127 size127 rfl H mR (by simp) ?_); simp only [pS]; simp only [List.drop_succ_cons, List.drop_zero, List.take_succ_cons, List.take_zero])) | (with_reducible refine wpl rfl (stQ (ty := 127) rfl ?_); first | (with_reducible refine (Stp.str rfl size127 rfl rfl (by first | rfl | (simp [Value.oneCell']; done) | assumption) H uP sZ sZ ?_); clear H; intro w1 H; simp only [pS]) | (with_reducible refine (Stp.stl rfl size127 rfl rfl rfl rfl H uP (by simp) ?_); clear H; intro w1 H; simp only [pS]; simp only [List.drop_succ_cons, List.drop_zero, List.take_succ_cons, List.take_zero, List.nil_append, List.cons_append, Nat.reduceAdd] at H)))
        go_ret
        exact ⟨_, rfl, rfl, H.sub sU⟩
      · have HSL : Hid (((ms : Int) != (sl : Int)) = true) := Lib.hid (by simp; omega)
        have HB : Hid ((!(decide (mb = bl))) = (!(decide (mb = bl)))) := Lib.hid rfl
        clear h h1 h2 h3
        go_enter Try.func85, Try.ntmps85
        go_wp2_with (first | (with_reducible refine wpl rfl (dQ 8 rfl ?_); with_reducible refine (Stp.box 8 rfl rfl rfl H ?_); clear H; intro g8 w1 H; simp only [pS]; simp only [pE, nC, pS] at H) | (with_reducible refine wpl rfl (dQ 9 rfl ?_); with_reducible refine (Stp.box 9 rfl rfl rfl H ?_); clear H; intro g9 w1 H; simp only [pS]; simp only [pE, nC, pS] at H) | (with_reducible refine wpl rfl (ldQ (ty := 127) rfl ?_); first | (with_reducible refine (Stp.ldor rfl agg127 size127 rfl H (by assumption) sZ (by assumption) ?_); simp only [pS]) | (with_reducible refine (Stp.ldr rfl agg127 size127 rfl H mR sZ ?_); simp only [pS]) | (with_reducible refine (Stp.ldl rfl agg127 size127 rfl H mR (by simp) ?_); simp only [pS]; simp only [List.drop_succ_cons, List.drop_zero, List.take_succ_cons, List.take_zero])) | (with_reducible refine wpl rfl (stQ (ty := 127) rfl ?_); first | (with_reducible refine (Stp.str rfl size127 rfl rfl (by first | rfl | (simp [Value.oneCell']; done) | assumption) H uP sZ sZ ?_); clear H; intro w1 H; simp only [pS]) | (with_reducible refine (Stp.stl rfl size127 rfl rfl rfl rfl H uP (by simp) ?_); clear H; intro w1 H; simp only [pS]; simp only [List.drop_succ_cons, List.drop_zero, List.take_succ_cons, List.take_zero, List.nil_append, List.cons_append, Nat.reduceAdd] at H)))
        refine rg_begin 34 rfl (S := fun W => St _ _ W (row 74 g9 #[.int .i64 kd, .int .u16 m1, .int .u32 m2, .int .u64 m3, .int .u64 (ms : Int), .int .u64 m5, .int .i64 m6, .int .u32 (mb.r : Int), .int .u16 (mb.w.1 : Int), .int .u32 (mb.w.2 : Int), .int .u32 (ma.r : Int), .int .u16 (ma.w.1 : Int), .int .u32 (ma.w.2 : Int), .bool mh, .int .i64 mc.kind, .int .u16 (mc.fr.1 : Int), .int .u32 (mc.fr.2 : Int), .int .u64 (mc.num : Int), .int .u64 (mc.vw : Int), .slice me.ba mc.data.length me.bc, .int .u64 (mc.v.id : Int), .slice me.ma mc.v.mem.length me.mc, .slice me.la mc.v.lvs.length me.lc, .slice me.da mc.v.ldr.length me.dc, .int .u64 (mv.id : Int), .slice mx.ma mv.mem.length mx.mc, .slice mx.la mv.lvs.length mx.lc, .slice mx.da mv.ldr.length mx.dc, .slice my m7 mz] :: row 36 g8 #[.int .u16 (q.1 : Int), .int .u32 (q.2 : Int)] :: row 129 gp #[.int .u16 (sf.1 : Int), .int .u32 (sf.2 : Int), .int .u32 (sn.r : Int), .int .u16 (sn.w.1 : Int), .int .u32 (sn.w.2 : Int), .int .i64 ph, .slice la n lc, .int .u64 (sl : Int), .int .u32 (bl.r : Int), .int .u16 (bl.w.1 : Int), .int .u32 (bl.w.2 : Int), .pointer vp, .int .u64 (a1 : Int), .int .u64 (a2 : Int)] :: [])) (by kernel_rfl) (H.drew.sub sU) ?_
        replace H := H.drew
        have HS := H
        refine rg_take (i := 0) rfl kR kR kR (Yld.move rfl rfl) (H.sub sU) ?_; simp only [pS, pE]
        refine rg_take (i := 1) rfl kR kR kR (Yld.o rfl) (H.sub sU) ?_; simp only [pS]
        refine rg_take (i := 2) rfl kR kR kR (Yld.move rfl rfl) (H.sub sU) ?_; simp only [pS, pE]
        refine rg_take (i := 3) rfl kR kR kR (Yld.move rfl rfl) (H.sub sU) ?_; simp only [pS, pE]
        refine rg_take (i := 4) rfl kR kR kR (Yld.o rfl) (H.sub sU) ?_; simp only [pS]
        refine rg_take (i := 5) rfl kR kR kR (Yld.o rfl) (H.sub sU) ?_; simp only [pS]
        first | (refine rg_take (i := 6) rfl kR kR kR (Yld.ldo rfl rfl agg3 rfl (by assumption) (by assumption)) (H.sub sU) ?_; simp only [pS]) | (refine rg_take (i := 6) rfl kR kR kR (Yld.ldc rfl rfl agg3 rfl mR cE) (H.sub sU) ?_; simp only [pS])
        refine rg_take (i := 7) rfl kR kR kR (Yld.move rfl rfl) (H.sub sU) ?_; simp only [pS, pE]
        refine rg_take (i := 8) rfl kR kR kR (Yld.of (v := .bool false) rfl (fun W _ => by go_simp; first | done | exact HP.out | (rw [HP.out]) | (simpa using HP.out))) (H.sub sU) ?_; simp only [pS, pE]
        refine rg_take (i := 9) rfl kR kR kR (Yld.pick rfl rfl rfl) (H.sub sU) ?_; simp only [pS, pE]
        refine rg_take (i := 10) rfl kR kR kR (Yld.move rfl rfl) (H.sub sU) ?_; simp only [pS, pE]
        refine rg_take (i := 11) rfl kR kR kR (Yld.o rfl) (H.sub sU) ?_; simp only [pS]
        first | (refine rg_take (i := 12) rfl kR kR kR (Yld.ldo rfl rfl agg3 rfl (by assumption) (by assumption)) (H.sub sU) ?_; simp only [pS]) | (refine rg_take (i := 12) rfl kR kR kR (Yld.ldc rfl rfl agg3 rfl mR cE) (H.sub sU) ?_; simp only [pS])
        refine rg_take (i := 13) rfl kR kR kR (Yld.move rfl rfl) (H.sub sU) ?_; simp only [pS, pE]
        refine rg_take (i := 14) rfl kR kR kR (Yld.of (v := .bool false) rfl (fun W _ => by go_simp; first | done | exact HK.out | (rw [HK.out]) | (simpa using HK.out))) (H.sub sU) ?_; simp only [pS, pE]
        refine rg_take (i := 15) rfl kR kR kR (Yld.pick rfl rfl rfl) (H.sub sU) ?_; simp only [pS, pE]
        refine rg_take (i := 16) rfl kR kR kR (Yld.move rfl rfl) (H.sub sU) ?_; simp only [pS, pE]
        refine rg_take (i := 17) rfl kR kR kR (Yld.o rfl) (H.sub sU) ?_; simp only [pS]
        first | (refine rg_take (i := 18) rfl kR kR kR (Yld.ldo rfl rfl agg22 rfl (by assumption) (by assumption)) (H.sub sU) ?_; simp only [pS]) | (refine rg_take (i := 18) rfl kR kR kR (Yld.ldc rfl rfl agg22 rfl mR cE) (H.sub sU) ?_; simp only [pS])
        refine rg_take (i := 19) rfl kR kR kR (Yld.move rfl rfl) (H.sub sU) ?_; simp only [pS, pE]
        refine rg_take (i := 20) rfl kR kR kR (Yld.o rfl) (H.sub sU) ?_; simp only [pS]
        refine rg_take (i := 21) rfl kR kR kR (Yld.o rfl) (H.sub sU) ?_; simp only [pS]
        first | (refine rg_take (i := 22) rfl kR kR kR (Yld.ldo rfl rfl agg22 rfl (by assumption) (by assumption)) (H.sub sU) ?_; simp only [pS]) | (refine rg_take (i := 22) rfl kR kR kR (Yld.ldc rfl rfl agg22 rfl mR cE) (H.sub sU) ?_; simp only [pS])
        refine rg_take (i := 23) rfl kR kR kR (Yld.of (v := .bool true) rfl (fun W _ => by go_simp; first | done | exact HSL.out | (rw [HSL.out]) | (simpa using HSL.out))) (H.sub sU) ?_; simp only [pS, pE]
        refine rg_take (i := 24) rfl kR kR kR (Yld.pick rfl rfl rfl) (H.sub sU) ?_; simp only [pS, pE]
        refine rg_take (i := 25) rfl kR kR kR (Yld.move rfl rfl) (H.sub sU) ?_; simp only [pS, pE]
        refine rg_take (i := 26) rfl kR kR kR (Yld.skip rfl) (H.sub sU) ?_; simp only [pS]
        refine rg_take (i := 27) rfl kR kR kR (Yld.skip rfl) (H.sub sU) ?_; simp only [pS]
        refine rg_take (i := 28) rfl kR kR kR (Yld.skip rfl) (H.sub sU) ?_; simp only [pS]
        refine rg_take (i := 29) rfl kR kR kR (Yld.skip rfl) (H.sub sU) ?_; simp only [pS]
        refine rg_take (i := 30) rfl kR kR kR (Yld.skip rfl) (H.sub sU) ?_; simp only [pS]
        refine rg_take (i := 31) rfl kR kR kR (Yld.skip rfl) (H.sub sU) ?_; simp only [pS]
        refine rg_take (i := 32) rfl kR kR kR (Yld.skip rfl) (H.sub sU) ?_; simp only [pS]
        refine rg_take (i := 33) rfl kR kR kR (Yld.pick rfl rfl rfl) (H.sub sU) ?_; simp only [pS, pE]
        refine rg_done (by kernel_rfl) ?_
        go_wp2_with (first | (with_reducible refine wpl rfl (dQ 8 rfl ?_); with_reducible refine (Stp.box 8 rfl rfl rfl H ?_); clear H; intro g8 w1 H; simp only [pS]; simp only [pE, nC, pS] at H) | (with_reducible refine wpl rfl (dQ 9 rfl ?_); with_reducible refine (Stp.box 9 rfl rfl rfl H ?_); clear H; intro g9 w1 H; simp only [pS]; simp only [pE, nC, pS] at H) | (with_reducible refine wpl rfl (ldQ (ty := 127) rfl ?_); first | (with_reducible refine (Stp.ldor rfl agg127 size127 rfl H (by assumption) sZ (by assumption) ?_); simp only [pS]) | (with_reducible refine (Stp.ldr rfl agg127 size127 rfl H mR sZ ?_); simp only [pS]) | (with_reducible refine (Stp.ldl rfl agg127 size127 rfl H mR (by simp) ?_); simp only [pS]; simp only [List.drop_succ_cons, List.drop_zero, List.take_succ_cons, List.take_zero])) | (with_reducible refine wpl rfl (stQ (ty := 127) rfl ?_); first | (with_reducible refine (Stp.str rfl size127 rfl rfl (by first | rfl | (simp [Value.oneCell']; done) | assumption) H uP sZ sZ ?_); clear H; intro w1 H; simp only [pS]) | (with_reducible refine (Stp.stl rfl size127 rfl rfl rfl rfl H uP (by simp) ?_); clear H; intro w1 H; simp only [pS]; simp only [List.drop_succ_cons, List.drop_zero, List.take_succ_cons, List.take_zero, List.nil_append, List.cons_append, Nat.reduceAdd] at H)))
        go_ret
        exact ⟨_, rfl, rfl, H.sub sU⟩
    · have HK : Hid ((kd != k0) = true) := Lib.hid (by simp [h2])
      have HSL : Hid (True) := Lib.hid trivial
      have HB : Hid ((!(decide (mb = bl))) = (!(decide (mb = bl)))) := Lib.hid rfl
      clear h h1 h2
      go_enter Try.func85, Try.ntmps85
      go_wp2_with (first | (with_reducible refine wpl rfl (dQ 8 rfl ?_); with_reducible refine (Stp.box 8 rfl rfl rfl H ?_); clear H; intro g8 w1 H; simp only [pS]; simp only [pE, nC, pS] at H) | (with_reducible refine wpl rfl (dQ 9 rfl ?_); with_reducible refine (Stp.box 9 rfl rfl rfl H ?_); clear H; intro g9 w1 H; simp only [pS]; simp only [pE, nC, pS] at H) | (with_reducible refine wpl rfl (ldQ (ty := 127) rfl ?_); first | (with_reducible refine (Stp.ldor rfl agg127 size127 rfl H (by assumption) sZ (by assumption) ?_); simp only [pS]) | (with_reducible refine (Stp.ldr rfl agg127 size127 rfl H mR sZ ?_); simp only [pS]) | (with_reducible refine (Stp.ldl rfl agg127 size127 rfl H mR (by simp) ?_); simp only [pS]; simp only [List.drop_succ_cons, List.drop_zero, List.take_succ_cons, List.take_zero])) | (with_reducible refine wpl rfl (stQ (ty := 127) rfl ?_); first | (with_reducible refine (Stp.str rfl size127 rfl rfl (by first | rfl | (simp [Value.oneCell']; done) | assumption) H uP sZ sZ ?_); clear H; intro w1 H; simp only [pS]) | (with_reducible refine (Stp.stl rfl size127 rfl rfl rfl rfl H uP (by simp) ?_); clear H; intro w1 H; simp only [pS]; simp only [List.drop_succ_cons, List.drop_zero, List.take_succ_cons, List.take_zero, List.nil_append, List.cons_append, Nat.reduceAdd] at H)))
      refine rg_begin 34 rfl (S := fun W => St _ _ W (row 74 g9 #[.int .i64 kd, .int .u16 m1, .int .u32 m2, .int .u64 m3, .int .u64 (ms : Int), .int .u64 m5, .int .i64 m6, .int .u32 (mb.r : Int), .int .u16 (mb.w.1 : Int), .int .u32 (mb.w.2 : Int), .int .u32 (ma.r : Int), .int .u16 (ma.w.1 : Int), .int .u32 (ma.w.2 : Int), .bool mh, .int .i64 mc.kind, .int .u16 (mc.fr.1 : Int), .int .u32 (mc.fr.2 : Int), .int .u64 (mc.num : Int), .int .u64 (mc.vw : Int), .slice me.ba mc.data.length me.bc, .int .u64 (mc.v.id : Int), .slice me.ma mc.v.mem.length me.mc, .slice me.la mc.v.lvs.length me.lc, .slice me.da mc.v.ldr.length me.dc, .int .u64 (mv.id : Int), .slice mx.ma mv.mem.length mx.mc, .slice mx.la mv.lvs.length mx.lc, .slice mx.da mv.ldr.length mx.dc, .slice my m7 mz] :: row 36 g8 #[.int .u16 (q.1 : Int), .int .u32 (q.2 : Int)] :: row 129 gp #[.int .u16 (sf.1 : Int), .int .u32 (sf.2 : Int), .int .u32 (sn.r : Int), .int .u16 (sn.w.1 : Int), .int .u32 (sn.w.2 : Int), .int .i64 ph, .slice la n lc, .int .u64 (sl : Int), .int .u32 (bl.r : Int), .int .u16 (bl.w.1 : Int), .int .u32 (bl.w.2 : Int), .pointer vp, .int .u64 (a1 : Int), .int .u64 (a2 : Int)] :: [])) (by kernel_rfl) (H.drew.sub sU) ?_
      replace H := H.drew
      have HS := H
      refine rg_take (i := 0) rfl kR kR kR (Yld.move rfl rfl) (H.sub sU) ?_; simp only [pS, pE]
      refine rg_take (i := 1) rfl kR kR kR (Yld.o rfl) (H.sub sU) ?_; simp only [pS]
      refine rg_take (i := 2) rfl kR kR kR (Yld.move rfl rfl) (H.sub sU) ?_; simp only [pS, pE]
      refine rg_take (i := 3) rfl kR kR kR (Yld.move rfl rfl) (H.sub sU) ?_; simp only [pS, pE]
      refine rg_take (i := 4) rfl kR kR kR (Yld.o rfl) (H.sub sU) ?_; simp only [pS]
      refine rg_take (i := 5) rfl kR kR kR (Yld.o rfl) (H.sub sU) ?_; simp only [pS]
      first | (refine rg_take (i := 6) rfl kR kR kR (Yld.ldo rfl rfl agg3 rfl (by assumption) (by assumption)) (H.sub sU) ?_; simp only [pS]) | (refine rg_take (i := 6) rfl kR kR kR (Yld.ldc rfl rfl agg3 rfl mR cE) (H.sub sU) ?_; simp only [pS])
      refine rg_take (i := 7) rfl kR kR kR (Yld.move rfl rfl) (H.sub sU) ?_; simp only [pS, pE]
      refine rg_take (i := 8) rfl kR kR kR (Yld.of (v := .bool false) rfl (fun W _ => by go_simp; first | done | exact HP.out | (rw [HP.out]) | (simpa using HP.out))) (H.sub sU) ?_; simp only [pS, pE]
      refine rg_take (i := 9) rfl kR kR kR (Yld.pick rfl rfl rfl) (H.sub sU) ?_; simp only [pS, pE]
      refine rg_take (i := 10) rfl kR kR kR (Yld.move rfl rfl) (H.sub sU) ?_; simp only [pS, pE]
      refine rg_take (i := 11) rfl kR kR kR (Yld.o rfl) (H.sub sU) ?_; simp only [pS]
      first | (refine rg_take (i := 12) rfl kR kR kR (Yld.ldo rfl rfl agg3 rfl (by assumption) (by assumption)) (H.sub sU) ?_; simp only [pS]) | (refine rg_take (i := 12) rfl kR kR kR (Yld.ldc rfl rfl agg3 rfl mR cE) (H.sub sU) ?_; simp only [pS])
      refine rg_take (i := 13) rfl kR kR kR (Yld.move rfl rfl) (H.sub sU) ?_; simp only [pS, pE]
      refine rg_take (i := 14) rfl kR kR kR (Yld.of (v := .bool true) rfl (fun W _ => by go_simp; first | done | exact HK.out | (rw [HK.out]) | (simpa using HK.out))) (H.sub sU) ?_; simp only [pS, pE]
      refine rg_take (i := 15) rfl kR kR kR (Yld.pick rfl rfl rfl) (H.sub sU) ?_; simp only [pS, pE]
      refine rg_take (i := 16) rfl kR kR kR (Yld.move rfl rfl) (H.sub sU) ?_; simp only [pS, pE]
      refine rg_take (i := 17) rfl kR kR kR (Yld.skip rfl) (H.sub sU) ?_; simp only [pS]
      refine rg_take (i := 18) rfl kR kR kR (Yld.skip rfl) (H.sub sU) ?_; simp only [pS]
      refine rg_take (i := 19) rfl kR kR kR (Yld.skip rfl) (H.sub sU) ?_; simp only [pS]
      refine rg_take (i := 20) rfl kR kR kR (Yld.skip rfl) (H.sub sU) ?_; simp only [pS]
      refine rg_take (i := 21) rfl kR kR kR (Yld.skip rfl) (H.sub sU) ?_; simp only [pS]
      refine rg_take (i := 22) rfl kR kR kR (Yld.skip rfl) (H.sub sU) ?_; simp only [pS]
      refine rg_take (i := 23) rfl kR kR kR (Yld.skip rfl) (H.sub sU) ?_; simp only [pS]
      refine rg_take (i := 24) rfl kR kR kR (Yld.pick rfl rfl rfl) (H.sub sU) ?_; simp only [pS, pE]
      refine rg_take (i := 25) rfl kR kR kR (Yld.move rfl rfl) (H.sub sU) ?_; simp only [pS, pE]
      refine rg_take (i := 26) rfl kR kR kR (Yld.skip rfl) (H.sub sU) ?_; simp only [pS]
      refine rg_take (i := 27) rfl kR kR kR (Yld.skip rfl) (H.sub sU) ?_; simp only [pS]
      refine rg_take (i := 28) rfl kR kR kR (Yld.skip rfl) (H.sub sU) ?_; simp only [pS]
      refine rg_take (i := 29) rfl kR kR kR (Yld.skip rfl) (H.sub sU) ?_; simp only [pS]
      refine rg_take (i := 30) rfl kR kR kR (Yld.skip rfl) (H.sub sU) ?_; simp only [pS]
      refine rg_take (i := 31) rfl kR kR kR (Yld.skip rfl) (H.sub sU) ?_; simp only [pS]
      refine rg_take (i := 32) rfl kR kR kR (Yld.skip rfl) (H.sub sU) ?_; simp only [pS]
      refine rg_take (i := 33) rfl kR kR kR (Yld.pick rfl rfl rfl) (H.sub sU) ?_; simp only [pS, pE]
      refine rg_done (by kernel_rfl) ?_
      go_wp2_with (first | (with_reducible refine wpl rfl (dQ 8 rfl ?_); with_reducible refine (Stp.box 8 rfl rfl rfl H ?_); clear H; intro g8 w1 H; simp only [pS]; simp only [pE, nC, pS] at H) | (with_reducible refine wpl rfl (dQ 9 rfl ?_); with_reducible refine (Stp.box 9 rfl rfl rfl H ?_); clear H; intro g9 w1 H; simp only [pS]; simp only [pE, nC, pS] at H) | (with_reducible refine wpl rfl (ldQ (ty := 127) rfl ?_); first | (with_reducible refine (Stp.ldor rfl agg127 size127 rfl H (by assumption) sZ (by assumption) ?_); simp only [pS]) | (with_reducible refine (Stp.ldr rfl agg127 size127 rfl H mR sZ ?_); simp only [pS]) | (with_reducible refine (Stp.ldl rfl agg127 size127 rfl H mR (by simp) ?_); simp only [pS]; simp only [List.drop_succ_cons, List.drop_zero, List.take_succ_cons, List.take_zero])) | (with_reducible refine wpl rfl (stQ (ty := 127) rfl ?_); first | (with_reducible refine (Stp.str rfl size127 rfl rfl (by first | rfl | (simp [Value.oneCell']; done) | assumption) H uP sZ sZ ?_); clear H; intro w1 H; simp only [pS]) | (with_reducible refine (Stp.stl rfl size127 rfl rfl rfl rfl H uP (by simp) ?_); clear H; intro w1 H; simp only [pS]; simp only [List.drop_succ_cons, List.drop_zero, List.take_succ_cons, List.take_zero, List.nil_append, List.cons_append, Nat.reduceAdd] at H)))
      go_ret
      exact ⟨_, rfl, rfl, H.sub sU⟩
  · have HP : Hid ((ph != p0) = true) := Lib.hid (by simp [h1])
    have HK : Hid (True) := Lib.hid trivial
    have HSL : Hid (True) := Lib.hid trivial
    have HB : Hid ((!(decide (mb = bl))) = (!(decide (mb = bl)))) := Lib.hid rfl
    clear h h1
    go_enter Try.func85, Try.ntmps85
    go_wp2_with (first | (with_reducible refine wpl rfl (dQ 8 rfl ?_); with_reducible refine (Stp.box 8 rfl rfl rfl H ?_); clear H; intro g8 w1 H; simp only [pS]; simp only [pE, nC, pS] at H) | (with_reducible refine wpl rfl (dQ 9 rfl ?_); with_reducible refine (Stp.box 9 rfl rfl rfl H ?_); clear H; intro g9 w1 H; simp only [pS]; simp only [pE, nC, pS] at H) | (with_reducible refine wpl rfl (ldQ (ty := 127) rfl ?_); first | (with_reducible refine (Stp.ldor rfl agg127 size127 rfl H (by assumption) sZ (by assumption) ?_); simp only [pS]) | (with_reducible refine (Stp.ldr rfl agg127 size127 rfl H mR sZ ?_); simp only [pS]) | (with_reducible refine (Stp.ldl rfl agg127 size127 rfl H mR (by simp) ?_); simp only [pS]; simp only [List.drop_succ_cons, List.drop_zero, List.take_succ_cons, List.take_zero])) | (with_reducible refine wpl rfl (stQ (ty := 127) rfl ?_); first | (with_reducible refine (Stp.str rfl size127 rfl rfl (by first | rfl | (simp [Value.oneCell']; done) | assumption) H uP sZ sZ ?_); clear H; intro w1 H; simp only [pS]) | (with_reducible refine (Stp.stl rfl size127 rfl rfl rfl rfl H uP (by simp) ?_); clear H; intro w1 H; simp only [pS]; simp only [List.drop_succ_cons, List.drop_zero, List.take_succ_cons, List.take_zero, List.nil_append, List.cons_append, Nat.reduceAdd] at H)))
    refine rg_begin 34 rfl (S := fun W => St _ _ W (row 74 g9 #[.int .i64 kd, .int .u16 m1, .int .u32 m2, .int .u64 m3, .int .u64 (ms : Int), .int .u64 m5, .int .i64 m6, .int .u32 (mb.r : Int), .int .u16 (mb.w.1 : Int), .int .u32 (mb.w.2 : Int), .int .u32 (ma.r : Int), .int .u16 (ma.w.1 : Int), .int .u32 (ma.w.2 : Int), .bool mh, .int .i64 mc.kind, .int .u16 (mc.fr.1 : Int), .int .u32 (mc.fr.2 : Int), .int .u64 (mc.num : Int), .int .u64 (mc.vw : Int), .slice me.ba mc.data.length me.bc, .int .u64 (mc.v.id : Int), .slice me.ma mc.v.mem.length me.mc, .slice me.la mc.v.lvs.length me.lc, .slice me.da mc.v.ldr.length me.dc, .int .u64 (mv.id : Int), .slice mx.ma mv.mem.length mx.mc, .slice mx.la mv.lvs.length mx.lc, .slice mx.da mv.ldr.length mx.dc, .slice my m7 mz] :: row 36 g8 #[.int .u16 (q.1 : Int), .int .u32 (q.2 : Int)] :: row 129 gp #[.int .u16 (sf.1 : Int), .int .u32 (sf.2 : Int), .int .u32 (sn.r : Int), .int .u16 (sn.w.1 : Int), .int .u32 (sn.w.2 : Int), .int .i64 ph, .slice la n lc, .int .u64 (sl : Int), .int .u32 (bl.r : Int), .int .u16 (bl.w.1 : Int), .int .u32 (bl.w.2 : Int), .pointer vp, .int .u64 (a1 : Int), .int .u64 (a2 : Int)] :: [])) (by kernel_rfl) (H.drew.sub sU) ?_
    replace H := H.drew
    have HS := H
    refine rg_take (i := 0) rfl kR kR kR (Yld.move rfl rfl) (H.sub sU) ?_; simp only [pS, pE]
    refine rg_take (i := 1) rfl kR kR kR (Yld.o rfl) (H.sub sU) ?_; simp only [pS]
    refine rg_take (i := 2) rfl kR kR kR (Yld.move rfl rfl) (H.sub sU) ?_; simp only [pS, pE]
    refine rg_take (i := 3) rfl kR kR kR (Yld.move rfl rfl) (H.sub sU) ?_; simp only [pS, pE]
    refine rg_take (i := 4) rfl kR kR kR (Yld.o rfl) (H.sub sU) ?_; simp only [pS]
    refine rg_take (i := 5) rfl kR kR kR (Yld.o rfl) (H.sub sU) ?_; simp only [pS]
    first | (refine rg_take (i := 6) rfl kR kR kR (Yld.ldo rfl rfl agg3 rfl (by assumption) (by assumption)) (H.sub sU) ?_; simp only [pS]) | (refine rg_take (i := 6) rfl kR kR kR (Yld.ldc rfl rfl agg3 rfl mR cE) (H.sub sU) ?_; simp only [pS])
    refine rg_take (i := 7) rfl kR kR kR (Yld.move rfl rfl) (H.sub sU) ?_; simp only [pS, pE]
    refine rg_take (i := 8) rfl kR kR kR (Yld.of (v := .bool true) rfl (fun W _ => by go_simp; first | done | exact HP.out | (rw [HP.out]) | (simpa using HP.out))) (H.sub sU) ?_; simp only [pS, pE]
    refine rg_take (i := 9) rfl kR kR kR (Yld.pick rfl rfl rfl) (H.sub sU) ?_; simp only [pS, pE]
    refine rg_take (i := 10) rfl kR kR kR (Yld.move rfl rfl) (H.sub sU) ?_; simp only [pS, pE]
    refine rg_take (i := 11) rfl kR kR kR (Yld.skip rfl) (H.sub sU) ?_; simp only [pS]
    refine rg_take (i := 12) rfl kR kR kR (Yld.skip rfl) (H.sub sU) ?_; simp only [pS]
    refine rg_take (i := 13) rfl kR kR kR (Yld.skip rfl) (H.sub sU) ?_; simp only [pS]
    refine rg_take (i := 14) rfl kR kR kR (Yld.skip rfl) (H.sub sU) ?_; simp only [pS]
    refine rg_take (i := 15) rfl kR kR kR (Yld.pick rfl rfl rfl) (H.sub sU) ?_; simp only [pS, pE]
    refine rg_take (i := 16) rfl kR kR kR (Yld.move rfl rfl) (H.sub sU) ?_; simp only [pS, pE]
    refine rg_take (i := 17) rfl kR kR kR (Yld.skip rfl) (H.sub sU) ?_; simp only [pS]
    refine rg_take (i := 18) rfl kR kR kR (Yld.skip rfl) (H.sub sU) ?_; simp only [pS]
    refine rg_take (i := 19) rfl kR kR kR (Yld.skip rfl) (H.sub sU) ?_; simp only [pS]
    refine rg_take (i := 20) rfl kR kR kR (Yld.skip rfl) (H.sub sU) ?_; simp only [pS]
    refine rg_take (i := 21) rfl kR kR kR (Yld.skip rfl) (H.sub sU) ?_; simp only [pS]
    refine rg_take (i := 22) rfl kR kR kR (Yld.skip rfl) (H.sub sU) ?_; simp only [pS]
    refine rg_take (i := 23) rfl kR kR kR (Yld.skip rfl) (H.sub sU) ?_; simp only [pS]
    refine rg_take (i := 24) rfl kR kR kR (Yld.pick rfl rfl rfl) (H.sub sU) ?_; simp only [pS, pE]
    refine rg_take (i := 25) rfl kR kR kR (Yld.move rfl rfl) (H.sub sU) ?_; simp only [pS, pE]
    refine rg_take (i := 26) rfl kR kR kR (Yld.skip rfl) (H.sub sU) ?_; simp only [pS]
    refine rg_take (i := 27) rfl kR kR kR (Yld.skip rfl) (H.sub sU) ?_; simp only [pS]
    refine rg_take (i := 28) rfl kR kR kR (Yld.skip rfl) (H.sub sU) ?_; simp only [pS]
    refine rg_take (i := 29) rfl kR kR kR (Yld.skip rfl) (H.sub sU) ?_; simp only [pS]
    refine rg_take (i := 30) rfl kR kR kR (Yld.skip rfl) (H.sub sU) ?_; simp only [pS]
    refine rg_take (i := 31) rfl kR kR kR (Yld.skip rfl) (H.sub sU) ?_; simp only [pS]
    refine rg_take (i := 32) rfl kR kR kR (Yld.skip rfl) (H.sub sU) ?_; simp only [pS]
    refine rg_take (i := 33) rfl kR kR kR (Yld.pick rfl rfl rfl) (H.sub sU) ?_; simp only [pS, pE]
    refine rg_done (by kernel_rfl) ?_
    go_wp2_with (first | (with_reducible refine wpl rfl (dQ 8 rfl ?_); with_reducible refine (Stp.box 8 rfl rfl rfl H ?_); clear H; intro g8 w1 H; simp only [pS]; simp only [pE, nC, pS] at H) | (with_reducible refine wpl rfl (dQ 9 rfl ?_); with_reducible refine (Stp.box 9 rfl rfl rfl H ?_); clear H; intro g9 w1 H; simp only [pS]; simp only [pE, nC, pS] at H) | (with_reducible refine wpl rfl (ldQ (ty := 127) rfl ?_); first | (with_reducible refine (Stp.ldor rfl agg127 size127 rfl H (by assumption) sZ (by assumption) ?_); simp only [pS]) | (with_reducible refine (Stp.ldr rfl agg127 size127 rfl H mR sZ ?_); simp only [pS]) | (with_reducible refine (Stp.ldl rfl agg127 size127 rfl H mR (by simp) ?_); simp only [pS]; simp only [List.drop_succ_cons, List.drop_zero, List.take_succ_cons, List.take_zero])) | (with_reducible refine wpl rfl (stQ (ty := 127) rfl ?_); first | (with_reducible refine (Stp.str rfl size127 rfl rfl (by first | rfl | (simp [Value.oneCell']; done) | assumption) H uP sZ sZ ?_); clear H; intro w1 H; simp only [pS]) | (with_reducible refine (Stp.stl rfl size127 rfl rfl rfl rfl H uP (by simp) ?_); clear H; intro w1 H; simp only [pS]; simp only [List.drop_succ_cons, List.drop_zero, List.take_succ_cons, List.take_zero, List.nil_append, List.cons_append, Nat.reduceAdd] at H)))
    go_ret
    exact ⟨_, rfl, rfl, H.sub sU⟩
end Go.Proofs.Ytjghcmejmdllbaa
