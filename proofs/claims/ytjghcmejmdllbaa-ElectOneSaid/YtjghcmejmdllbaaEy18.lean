/- Layer 21's Proposer (elect): See, Nack, Move, Stop, Phase, Ballot, Value; the bounds stand in each. -/
import Derived.Test.YtjghcmejmdllbaaEy17
namespace Go.Proofs.Ytjghcmejmdllbaa
open Go.ChangeShapes Go.WideShapes Go.ChangeAt Go.RowKit Go.Maps Go.Deep
set_option linter.unusedVariables false
set_option linter.unusedSimpArgs false
set_option linter.unusedSectionVars false
set_option maxRecDepth 100000
set_option maxHeartbeats 4000000
def hd0 : Hd := ⟨none, none, none, none, 0, 0, 0, 0⟩
attribute [local irreducible] blt
theorem esee_ok {B : Nat} {w0 : World} {L : List Res} (gp : Nat) (sf : Pr) (sn : Bl) (ph : Int) (la : Option Addr) (n lc sl : Nat) (bl : Bl) (vp : Option Addr) (a1 a2 : Nat) (b : Bl) (hu1 : sn.w.1 < 65536) (hu2 : sn.w.2 < 4294967296) (ha1 : b.w.1 < 65536) (ha2 : b.w.2 < 4294967296) (r : Bool) (hr : blt sn b = r) (w : World) (H : St B w0 w (row 129 gp #[.int .u16 (sf.1 : Int), .int .u32 (sf.2 : Int), .int .u32 (sn.r : Int), .int .u16 (sn.w.1 : Int), .int .u32 (sn.w.2 : Int), .int .i64 ph, .slice la n lc, .int .u64 (sl : Int), .int .u32 (bl.r : Int), .int .u16 (bl.w.1 : Int), .int .u32 (bl.w.2 : Int), .pointer vp, .int .u64 (a1 : Int), .int .u64 (a2 : Int)] :: L)) :
    Calls Try.prog 39 #[.pointer (some ⟨gp, 0, none⟩), .agg #[.int .u32 (b.r : Int), .int .u16 (b.w.1 : Int), .int .u32 (b.w.2 : Int)]] w (Ret fun v w' => v = .tuple #[] ∧ St B w0 w' (row 129 gp #[.int .u16 (sf.1 : Int), .int .u32 (sf.2 : Int), .int .u32 ((if r = true then b else sn).r : Int), .int .u16 ((if r = true then b else sn).w.1 : Int), .int .u32 ((if r = true then b else sn).w.2 : Int), .int .i64 ph, .slice la n lc, .int .u64 (sl : Int), .int .u32 (bl.r : Int), .int .u16 (bl.w.1 : Int), .int .u32 (bl.w.2 : Int), .pointer vp, .int .u64 (a1 : Int), .int .u64 (a2 : Int)] :: L)) := by
  have HBF := Lib.hid hr
  clear hr
  cases r
  all_goals
    go_enter Try.func39, Try.ntmps39
    go_wp2_with (first | (with_reducible refine wpl rfl (dQ 3 rfl ?_); with_reducible refine (Stp.box 3 rfl rfl rfl H ?_); clear H; intro g3 w1 H; simp only [pS]; simp only [pE, nC, pS] at H) | (with_reducible refine wpl rfl (ldQ (ty := 67) rfl ?_); first | (with_reducible refine (Stp.ldor rfl agg67 size67 rfl H (by assumption) sZ (by assumption) ?_); simp only [pS]) | (with_reducible refine (Stp.ldr rfl agg67 size67 rfl H mR sZ ?_); simp only [pS]) | (with_reducible refine (Stp.ldl rfl agg67 size67 rfl H mR (by simp) ?_); simp only [pS]; simp only [List.drop_succ_cons, List.drop_zero, List.take_succ_cons, List.take_zero])) | (with_reducible refine wpl rfl (stQ (ty := 67) rfl ?_); first | (with_reducible refine (Stp.str rfl size67 rfl rfl (by first | rfl | (simp [Value.oneCell']; done) | assumption) H uP sZ sZ ?_); clear H; intro w1 H; simp only [pS]) | (with_reducible refine (Stp.stl rfl size67 rfl rfl rfl rfl H uP (by simp) ?_); clear H; intro w1 H; simp only [pS]; simp only [List.drop_succ_cons, List.drop_zero, List.take_succ_cons, List.take_zero, List.nil_append, List.cons_append, Nat.reduceAdd] at H)))
    refine rg_begin 10 rfl (S := fun W => St _ _ W (row 67 g3 #[.int .u32 (b.r : Int), .int .u16 (b.w.1 : Int), .int .u32 (b.w.2 : Int)] :: row 129 gp #[.int .u16 (sf.1 : Int), .int .u32 (sf.2 : Int), .int .u32 (sn.r : Int), .int .u16 (sn.w.1 : Int), .int .u32 (sn.w.2 : Int), .int .i64 ph, .slice la n lc, .int .u64 (sl : Int), .int .u32 (bl.r : Int), .int .u16 (bl.w.1 : Int), .int .u32 (bl.w.2 : Int), .pointer vp, .int .u64 (a1 : Int), .int .u64 (a2 : Int)] :: [])) (by kernel_rfl) (H.drew.sub sU) ?_
    replace H := H.drew
    have HS := H
    refine rg_take (i := 0) rfl kR kR kR (Yld.move rfl rfl) (H.sub sU) ?_; simp only [pS, pE]
    refine rg_take (i := 1) rfl kR kR kR (Yld.o rfl) (H.sub sU) ?_; simp only [pS]
    refine rg_take (i := 2) rfl kR kR kR (Yld.move rfl rfl) (H.sub sU) ?_; simp only [pS, pE]
    refine rg_take (i := 3) rfl kR kR kR (Yld.move rfl rfl) (H.sub sU) ?_; simp only [pS, pE]
    refine rg_take (i := 4) rfl kR kR kR (Yld.o rfl) (H.sub sU) ?_; simp only [pS]
    refine rg_take (i := 5) rfl kR kR kR (Yld.o rfl) (H.sub sU) ?_; simp only [pS]
    first | (refine rg_take (i := 6) rfl kR kR kR (Yld.ldor rfl rfl agg67 size67 rfl (by assumption) sZ (by assumption)) (H.sub sU) ?_; simp only [pS]) | (refine rg_take (i := 6) rfl kR kR kR (Yld.ldr rfl rfl agg67 size67 rfl mR sZ) (H.sub sU) ?_; simp only [pS]) | (refine rg_take (i := 6) rfl kR kR kR (Yld.ldl rfl rfl agg67 size67 rfl mR (by simp)) (H.sub sU) ?_; simp only [pS]; simp only [List.drop_succ_cons, List.drop_zero, List.take_succ_cons, List.take_zero])
    first | (refine rg_take (i := 7) rfl kR kR kR (Yld.ldor rfl rfl agg67 size67 rfl (by assumption) sZ (by assumption)) (H.sub sU) ?_; simp only [pS]) | (refine rg_take (i := 7) rfl kR kR kR (Yld.ldr rfl rfl agg67 size67 rfl mR sZ) (H.sub sU) ?_; simp only [pS]) | (refine rg_take (i := 7) rfl kR kR kR (Yld.ldl rfl rfl agg67 size67 rfl mR (by simp)) (H.sub sU) ?_; simp only [pS]; simp only [List.drop_succ_cons, List.drop_zero, List.take_succ_cons, List.take_zero])
    refine rg_one (i := 8) (by kernel_rfl) rfl rfl (fun K hK => ?_)
    refine wp_callf rfl ent84 (before_ok sn b hu1 hu2 ha1 ha2 _ HBF.out _) rfl (fun v w1 hr => ?_)
    obtain ⟨rfl, hb1⟩ := hr
    replace H := H.grow hb1
    clear hb1
    clear HS
    have HS := H
    refine hK.out _ _ (H.sub sU) ?_
    clear hK K
    simp only [pS]
    refine rg_take (i := 9) rfl kR kR kR (Yld.pick rfl rfl rfl) (H.sub sU) ?_; simp only [pS, pE]
    refine rg_done (by kernel_rfl) ?_
    go_wp2_with (first | (with_reducible refine wpl rfl (dQ 3 rfl ?_); with_reducible refine (Stp.box 3 rfl rfl rfl H ?_); clear H; intro g3 w1 H; simp only [pS]; simp only [pE, nC, pS] at H) | (with_reducible refine wpl rfl (ldQ (ty := 67) rfl ?_); first | (with_reducible refine (Stp.ldor rfl agg67 size67 rfl H (by assumption) sZ (by assumption) ?_); simp only [pS]) | (with_reducible refine (Stp.ldr rfl agg67 size67 rfl H mR sZ ?_); simp only [pS]) | (with_reducible refine (Stp.ldl rfl agg67 size67 rfl H mR (by simp) ?_); simp only [pS]; simp only [List.drop_succ_cons, List.drop_zero, List.take_succ_cons, List.take_zero])) | (with_reducible refine wpl rfl (stQ (ty := 67) rfl ?_); first | (with_reducible refine (Stp.str rfl size67 rfl rfl (by first | rfl | (simp [Value.oneCell']; done) | assumption) H uP sZ sZ ?_); clear H; intro w1 H; simp only [pS]) | (with_reducible refine (Stp.stl rfl size67 rfl rfl rfl rfl H uP (by simp) ?_); clear H; intro w1 H; simp only [pS]; simp only [List.drop_succ_cons, List.drop_zero, List.take_succ_cons, List.take_zero, List.nil_append, List.cons_append, Nat.reduceAdd] at H)))
    go_end0
    exact ⟨_, rfl, rfl, H.sub sU⟩
theorem estop_ok {B : Nat} {w0 : World} {L : List Res} (gp : Nat) (sf : Pr) (sn : Bl) (ph : Int) (la : Option Addr) (n lc sl : Nat) (bl : Bl) (vp : Option Addr) (a1 a2 : Nat) (w : World) (H : St B w0 w (row 129 gp #[.int .u16 (sf.1 : Int), .int .u32 (sf.2 : Int), .int .u32 (sn.r : Int), .int .u16 (sn.w.1 : Int), .int .u32 (sn.w.2 : Int), .int .i64 ph, .slice la n lc, .int .u64 (sl : Int), .int .u32 (bl.r : Int), .int .u16 (bl.w.1 : Int), .int .u32 (bl.w.2 : Int), .pointer vp, .int .u64 (a1 : Int), .int .u64 (a2 : Int)] :: L)) :
    Calls Try.prog 40 #[.pointer (some ⟨gp, 0, none⟩)] w (Ret fun v w' => v = .tuple #[] ∧ St B w0 w' (row 129 gp #[.int .u16 (sf.1 : Int), .int .u32 (sf.2 : Int), .int .u32 (sn.r : Int), .int .u16 (sn.w.1 : Int), .int .u32 (sn.w.2 : Int), .int .i64 0, .slice la n lc, .int .u64 (sl : Int), .int .u32 (bl.r : Int), .int .u16 (bl.w.1 : Int), .int .u32 (bl.w.2 : Int), .pointer none, .int .u64 (a1 : Int), .int .u64 (a2 : Int)] :: L)) := by
  go_enter Try.func40, Try.ntmps40
  go_wp2_with (first | (with_reducible refine wpl rfl (stQ (ty := 3) rfl ?_); first | (with_reducible refine (Stp.stc rfl size3 rfl rfl rfl rfl H uP (by first | omega | (simp; done) | (simp; omega)) ?_); clear H; intro w1 H; simp only [pS]; simp only [pE, nC, pS] at H)) | (with_reducible refine wpl rfl (stQ (ty := 125) rfl ?_); first | (with_reducible refine (Stp.stc rfl size125 rfl rfl rfl rfl H uP (by first | omega | (simp; done) | (simp; omega)) ?_); clear H; intro w1 H; simp only [pS]; simp only [pE, nC, pS] at H)))
  go_end0
  exact ⟨_, rfl, rfl, H.sub sU⟩
theorem ephase_ok {B : Nat} {w0 : World} {L : List Res} (gp : Nat) (sf : Pr) (sn : Bl) (ph : Int) (la : Option Addr) (n lc sl : Nat) (bl : Bl) (vp : Option Addr) (a1 a2 : Nat) (w : World) (H : St B w0 w (row 129 gp #[.int .u16 (sf.1 : Int), .int .u32 (sf.2 : Int), .int .u32 (sn.r : Int), .int .u16 (sn.w.1 : Int), .int .u32 (sn.w.2 : Int), .int .i64 ph, .slice la n lc, .int .u64 (sl : Int), .int .u32 (bl.r : Int), .int .u16 (bl.w.1 : Int), .int .u32 (bl.w.2 : Int), .pointer vp, .int .u64 (a1 : Int), .int .u64 (a2 : Int)] :: L)) :
    Calls Try.prog 45 #[.pointer (some ⟨gp, 0, none⟩)] w (Ret fun v w' => v = .int .i64 ph ∧ St B w0 w' (row 129 gp #[.int .u16 (sf.1 : Int), .int .u32 (sf.2 : Int), .int .u32 (sn.r : Int), .int .u16 (sn.w.1 : Int), .int .u32 (sn.w.2 : Int), .int .i64 ph, .slice la n lc, .int .u64 (sl : Int), .int .u32 (bl.r : Int), .int .u16 (bl.w.1 : Int), .int .u32 (bl.w.2 : Int), .pointer vp, .int .u64 (a1 : Int), .int .u64 (a2 : Int)] :: L)) := by
  go_enter Try.func45, Try.ntmps45
  go_wp2_with (first | (with_reducible refine wpl rfl (ldQ (ty := 3) rfl ?_); first | (with_reducible refine (Stp.ldo rfl agg3 rfl H (by assumption) (by assumption) ?_); simp only [pS]) | (with_reducible refine (Stp.ldc rfl agg3 rfl H mR cE ?_); simp only [pS])))
  go_ret
  exact ⟨_, rfl, rfl, H⟩
theorem eballot_ok {B : Nat} {w0 : World} {L : List Res} (gp : Nat) (sf : Pr) (sn : Bl) (ph : Int) (la : Option Addr) (n lc sl : Nat) (bl : Bl) (vp : Option Addr) (a1 a2 : Nat) (w : World) (H : St B w0 w (row 129 gp #[.int .u16 (sf.1 : Int), .int .u32 (sf.2 : Int), .int .u32 (sn.r : Int), .int .u16 (sn.w.1 : Int), .int .u32 (sn.w.2 : Int), .int .i64 ph, .slice la n lc, .int .u64 (sl : Int), .int .u32 (bl.r : Int), .int .u16 (bl.w.1 : Int), .int .u32 (bl.w.2 : Int), .pointer vp, .int .u64 (a1 : Int), .int .u64 (a2 : Int)] :: L)) :
    Calls Try.prog 31 #[.pointer (some ⟨gp, 0, none⟩)] w (Ret fun v w' => v = .agg #[.int .u32 (bl.r : Int), .int .u16 (bl.w.1 : Int), .int .u32 (bl.w.2 : Int)] ∧ St B w0 w' (row 129 gp #[.int .u16 (sf.1 : Int), .int .u32 (sf.2 : Int), .int .u32 (sn.r : Int), .int .u16 (sn.w.1 : Int), .int .u32 (sn.w.2 : Int), .int .i64 ph, .slice la n lc, .int .u64 (sl : Int), .int .u32 (bl.r : Int), .int .u16 (bl.w.1 : Int), .int .u32 (bl.w.2 : Int), .pointer vp, .int .u64 (a1 : Int), .int .u64 (a2 : Int)] :: L)) := by
  go_enter Try.func31, Try.ntmps31
  go_wp2_with (first | (with_reducible refine wpl rfl (dQ 2 rfl ?_); with_reducible refine (Stp.alloc 2 rfl rfl zero67 H ?_); clear H; intro g2 w1 H; simp only [pS]; simp only [nC] at H) | (with_reducible refine wpl rfl (stQ (ty := 67) rfl ?_); first | (with_reducible refine (Stp.str rfl size67 rfl rfl (by first | rfl | (simp [Value.oneCell']; done) | assumption) H uP sZ sZ ?_); clear H; intro w1 H; simp only [pS]) | (with_reducible refine (Stp.stl rfl size67 rfl rfl rfl rfl H uP (by simp) ?_); clear H; intro w1 H; simp only [pS]; simp only [List.drop_succ_cons, List.drop_zero, List.take_succ_cons, List.take_zero, List.nil_append, List.cons_append, Nat.reduceAdd] at H)) | (with_reducible refine wpl rfl (ldQ (ty := 67) rfl ?_); first | (with_reducible refine (Stp.ldor rfl agg67 size67 rfl H (by assumption) sZ (by assumption) ?_); simp only [pS]) | (with_reducible refine (Stp.ldr rfl agg67 size67 rfl H mR sZ ?_); simp only [pS]) | (with_reducible refine (Stp.ldl rfl agg67 size67 rfl H mR (by simp) ?_); simp only [pS]; simp only [List.drop_succ_cons, List.drop_zero, List.take_succ_cons, List.take_zero])))
  refine post_row rfl agg67 size67 rfl H mE rfl rfl ⟨_, rfl, rfl, H.sub sU⟩
theorem enack_no {B : Nat} {w0 : World} {L : List Res} (gp : Nat) (sf : Pr) (sn : Bl) (ph : Int) (la : Option Addr) (n lc sl : Nat) (bl : Bl) (vp : Option Addr) (a1 a2 : Nat) (kd m1 m2 m3 m5 m6 : Int) (ms : Nat) (mb ma : Bl) (mh : Bool) (mc : Cm) (me : Hd) (mv : Vw) (mx : Hd) (my : Option Addr) (m7 mz : Nat) (hu1 : bl.w.1 < 65536) (hu2 : bl.w.2 < 4294967296) (ha1 : mb.w.1 < 65536) (ha2 : mb.w.2 < 4294967296) (h : ph = 0 ∨ kd ≠ 8 ∨ blt bl mb = false) (w : World) (H : St B w0 w (row 129 gp #[.int .u16 (sf.1 : Int), .int .u32 (sf.2 : Int), .int .u32 (sn.r : Int), .int .u16 (sn.w.1 : Int), .int .u32 (sn.w.2 : Int), .int .i64 ph, .slice la n lc, .int .u64 (sl : Int), .int .u32 (bl.r : Int), .int .u16 (bl.w.1 : Int), .int .u32 (bl.w.2 : Int), .pointer vp, .int .u64 (a1 : Int), .int .u64 (a2 : Int)] :: L)) :
    Calls Try.prog 43 #[.pointer (some ⟨gp, 0, none⟩), .agg #[.int .i64 kd, .int .u16 m1, .int .u32 m2, .int .u64 m3, .int .u64 (ms : Int), .int .u64 m5, .int .i64 m6, .int .u32 (mb.r : Int), .int .u16 (mb.w.1 : Int), .int .u32 (mb.w.2 : Int), .int .u32 (ma.r : Int), .int .u16 (ma.w.1 : Int), .int .u32 (ma.w.2 : Int), .bool mh, .int .i64 mc.kind, .int .u16 (mc.fr.1 : Int), .int .u32 (mc.fr.2 : Int), .int .u64 (mc.num : Int), .int .u64 (mc.vw : Int), .slice me.ba mc.data.length me.bc, .int .u64 (mc.v.id : Int), .slice me.ma mc.v.mem.length me.mc, .slice me.la mc.v.lvs.length me.lc, .slice me.da mc.v.ldr.length me.dc, .int .u64 (mv.id : Int), .slice mx.ma mv.mem.length mx.mc, .slice mx.la mv.lvs.length mx.lc, .slice mx.da mv.ldr.length mx.dc, .slice my m7 mz]] w (Ret fun v w' => v = .bool false ∧ St B w0 w' (row 129 gp #[.int .u16 (sf.1 : Int), .int .u32 (sf.2 : Int), .int .u32 (sn.r : Int), .int .u16 (sn.w.1 : Int), .int .u32 (sn.w.2 : Int), .int .i64 ph, .slice la n lc, .int .u64 (sl : Int), .int .u32 (bl.r : Int), .int .u16 (bl.w.1 : Int), .int .u32 (bl.w.2 : Int), .pointer vp, .int .u64 (a1 : Int), .int .u64 (a2 : Int)] :: L)) := by
  by_cases h1 : ph = 0
  · have HP : Hid ((ph == 0) = true) := Lib.hid (by simp [h1])
    have HK : Hid True := Lib.hid trivial
    clear h h1
    go_enter Try.func43, Try.ntmps43
    go_wp2_with (first | (with_reducible refine wpl rfl (dQ 3 rfl ?_); with_reducible refine (Stp.box 3 rfl rfl rfl H ?_); clear H; intro g3 w1 H; simp only [pS]; simp only [pE, nC, pS] at H) | (with_reducible refine wpl rfl (ldQ (ty := 67) rfl ?_); first | (with_reducible refine (Stp.ldor rfl agg67 size67 rfl H (by assumption) sZ (by assumption) ?_); simp only [pS]) | (with_reducible refine (Stp.ldr rfl agg67 size67 rfl H mR sZ ?_); simp only [pS]) | (with_reducible refine (Stp.ldl rfl agg67 size67 rfl H mR (by simp) ?_); simp only [pS]; simp only [List.drop_succ_cons, List.drop_zero, List.take_succ_cons, List.take_zero])))
    refine rg_begin 24 rfl (S := fun W => St _ _ W (row 74 g3 #[.int .i64 kd, .int .u16 m1, .int .u32 m2, .int .u64 m3, .int .u64 (ms : Int), .int .u64 m5, .int .i64 m6, .int .u32 (mb.r : Int), .int .u16 (mb.w.1 : Int), .int .u32 (mb.w.2 : Int), .int .u32 (ma.r : Int), .int .u16 (ma.w.1 : Int), .int .u32 (ma.w.2 : Int), .bool mh, .int .i64 mc.kind, .int .u16 (mc.fr.1 : Int), .int .u32 (mc.fr.2 : Int), .int .u64 (mc.num : Int), .int .u64 (mc.vw : Int), .slice me.ba mc.data.length me.bc, .int .u64 (mc.v.id : Int), .slice me.ma mc.v.mem.length me.mc, .slice me.la mc.v.lvs.length me.lc, .slice me.da mc.v.ldr.length me.dc, .int .u64 (mv.id : Int), .slice mx.ma mv.mem.length mx.mc, .slice mx.la mv.lvs.length mx.lc, .slice mx.da mv.ldr.length mx.dc, .slice my m7 mz] :: row 129 gp #[.int .u16 (sf.1 : Int), .int .u32 (sf.2 : Int), .int .u32 (sn.r : Int), .int .u16 (sn.w.1 : Int), .int .u32 (sn.w.2 : Int), .int .i64 ph, .slice la n lc, .int .u64 (sl : Int), .int .u32 (bl.r : Int), .int .u16 (bl.w.1 : Int), .int .u32 (bl.w.2 : Int), .pointer vp, .int .u64 (a1 : Int), .int .u64 (a2 : Int)] :: [])) (by kernel_rfl) (H.drew.sub sU) ?_
    replace H := H.drew
    have HS := H
    refine rg_take (i := 0) rfl kR kR kR (Yld.move rfl rfl) (H.sub sU) ?_; simp only [pS, pE]
    refine rg_take (i := 1) rfl kR kR kR (Yld.o rfl) (H.sub sU) ?_; simp only [pS]
    refine rg_take (i := 2) rfl kR kR kR (Yld.move rfl rfl) (H.sub sU) ?_; simp only [pS, pE]
    refine rg_take (i := 3) rfl kR kR kR (Yld.move rfl rfl) (H.sub sU) ?_; simp only [pS, pE]
    refine rg_take (i := 4) rfl kR kR kR (Yld.o rfl) (H.sub sU) ?_; simp only [pS]
    refine rg_take (i := 5) rfl kR kR kR (Yld.o rfl) (H.sub sU) ?_; simp only [pS]
    first | (refine rg_take (i := 6) rfl kR kR kR (Yld.ldo rfl rfl agg3 rfl (by assumption) (by assumption)) (H.sub sU) ?_; simp only [pS]) | (refine rg_take (i := 6) rfl kR kR kR (Yld.ldc rfl rfl agg3 rfl mR cE) (H.sub sU) ?_; simp only [pS])
    refine rg_take (i := 7) rfl kR kR kR (Yld.of (v := .bool true) rfl (fun W _ => by go_simp; first | done | exact HP.out | (rw [HP.out]) | (simpa using HP.out))) (H.sub sU) ?_; simp only [pS, pE]
    refine rg_take (i := 8) rfl kR kR kR (Yld.pick rfl rfl rfl) (H.sub sU) ?_; simp only [pS, pE]
    refine rg_take (i := 9) rfl kR kR kR (Yld.move rfl rfl) (H.sub sU) ?_; simp only [pS, pE]
    refine rg_take (i := 10) rfl kR kR kR (Yld.skip rfl) (H.sub sU) ?_; simp only [pS]
    refine rg_take (i := 11) rfl kR kR kR (Yld.skip rfl) (H.sub sU) ?_; simp only [pS]
    refine rg_take (i := 12) rfl kR kR kR (Yld.skip rfl) (H.sub sU) ?_; simp only [pS]
    refine rg_take (i := 13) rfl kR kR kR (Yld.pick rfl rfl rfl) (H.sub sU) ?_; simp only [pS, pE]
    refine rg_take (i := 14) rfl kR kR kR (Yld.move rfl rfl) (H.sub sU) ?_; simp only [pS, pE]
    refine rg_take (i := 15) rfl kR kR kR (Yld.skip rfl) (H.sub sU) ?_; simp only [pS]
    refine rg_take (i := 16) rfl kR kR kR (Yld.skip rfl) (H.sub sU) ?_; simp only [pS]
    refine rg_take (i := 17) rfl kR kR kR (Yld.skip rfl) (H.sub sU) ?_; simp only [pS]
    refine rg_take (i := 18) rfl kR kR kR (Yld.skip rfl) (H.sub sU) ?_; simp only [pS]
    refine rg_take (i := 19) rfl kR kR kR (Yld.skip rfl) (H.sub sU) ?_; simp only [pS]
    refine rg_take (i := 20) rfl kR kR kR (Yld.skip rfl) (H.sub sU) ?_; simp only [pS]
    refine rg_take (i := 21) rfl kR kR kR (Yld.skip rfl) (H.sub sU) ?_; simp only [pS]
    refine rg_take (i := 22) rfl kR kR kR (Yld.skip rfl) (H.sub sU) ?_; simp only [pS]
    refine rg_take (i := 23) rfl kR kR kR (Yld.pick rfl rfl rfl) (H.sub sU) ?_; simp only [pS, pE]
    refine rg_done (by kernel_rfl) ?_
    go_wp2_with (first | (with_reducible refine wpl rfl (dQ 3 rfl ?_); with_reducible refine (Stp.box 3 rfl rfl rfl H ?_); clear H; intro g3 w1 H; simp only [pS]; simp only [pE, nC, pS] at H) | (with_reducible refine wpl rfl (ldQ (ty := 67) rfl ?_); first | (with_reducible refine (Stp.ldor rfl agg67 size67 rfl H (by assumption) sZ (by assumption) ?_); simp only [pS]) | (with_reducible refine (Stp.ldr rfl agg67 size67 rfl H mR sZ ?_); simp only [pS]) | (with_reducible refine (Stp.ldl rfl agg67 size67 rfl H mR (by simp) ?_); simp only [pS]; simp only [List.drop_succ_cons, List.drop_zero, List.take_succ_cons, List.take_zero])))
    go_ret
    exact ⟨_, rfl, rfl, H.sub sU⟩
  · have HP : Hid ((ph == 0) = false) := Lib.hid (by simp [h1])
    by_cases h2 : kd = 8
    · have HK : Hid ((kd != 8) = false) := Lib.hid (by simp [h2])
      have HBF : Hid (blt bl mb = false) := Lib.hid (by exact (h.resolve_left h1).resolve_left (fun g => g h2))
      clear h h1 h2
      go_enter Try.func43, Try.ntmps43
      go_wp2_with (first | (with_reducible refine wpl rfl (dQ 3 rfl ?_); with_reducible refine (Stp.box 3 rfl rfl rfl H ?_); clear H; intro g3 w1 H; simp only [pS]; simp only [pE, nC, pS] at H) | (with_reducible refine wpl rfl (ldQ (ty := 67) rfl ?_); first | (with_reducible refine (Stp.ldor rfl agg67 size67 rfl H (by assumption) sZ (by assumption) ?_); simp only [pS]) | (with_reducible refine (Stp.ldr rfl agg67 size67 rfl H mR sZ ?_); simp only [pS]) | (with_reducible refine (Stp.ldl rfl agg67 size67 rfl H mR (by simp) ?_); simp only [pS]; simp only [List.drop_succ_cons, List.drop_zero, List.take_succ_cons, List.take_zero])))
      refine rg_begin 24 rfl (S := fun W => St _ _ W (row 74 g3 #[.int .i64 kd, .int .u16 m1, .int .u32 m2, .int .u64 m3, .int .u64 (ms : Int), .int .u64 m5, .int .i64 m6, .int .u32 (mb.r : Int), .int .u16 (mb.w.1 : Int), .int .u32 (mb.w.2 : Int), .int .u32 (ma.r : Int), .int .u16 (ma.w.1 : Int), .int .u32 (ma.w.2 : Int), .bool mh, .int .i64 mc.kind, .int .u16 (mc.fr.1 : Int), .int .u32 (mc.fr.2 : Int), .int .u64 (mc.num : Int), .int .u64 (mc.vw : Int), .slice me.ba mc.data.length me.bc, .int .u64 (mc.v.id : Int), .slice me.ma mc.v.mem.length me.mc, .slice me.la mc.v.lvs.length me.lc, .slice me.da mc.v.ldr.length me.dc, .int .u64 (mv.id : Int), .slice mx.ma mv.mem.length mx.mc, .slice mx.la mv.lvs.length mx.lc, .slice mx.da mv.ldr.length mx.dc, .slice my m7 mz] :: row 129 gp #[.int .u16 (sf.1 : Int), .int .u32 (sf.2 : Int), .int .u32 (sn.r : Int), .int .u16 (sn.w.1 : Int), .int .u32 (sn.w.2 : Int), .int .i64 ph, .slice la n lc, .int .u64 (sl : Int), .int .u32 (bl.r : Int), .int .u16 (bl.w.1 : Int), .int .u32 (bl.w.2 : Int), .pointer vp, .int .u64 (a1 : Int), .int .u64 (a2 : Int)] :: [])) (by kernel_rfl) (H.drew.sub sU) ?_
      replace H := H.drew
      have HS := H
      refine rg_take (i := 0) rfl kR kR kR (Yld.move rfl rfl) (H.sub sU) ?_; simp only [pS, pE]
      refine rg_take (i := 1) rfl kR kR kR (Yld.o rfl) (H.sub sU) ?_; simp only [pS]
      refine rg_take (i := 2) rfl kR kR kR (Yld.move rfl rfl) (H.sub sU) ?_; simp only [pS, pE]
      refine rg_take (i := 3) rfl kR kR kR (Yld.move rfl rfl) (H.sub sU) ?_; simp only [pS, pE]
      refine rg_take (i := 4) rfl kR kR kR (Yld.o rfl) (H.sub sU) ?_; simp only [pS]
      refine rg_take (i := 5) rfl kR kR kR (Yld.o rfl) (H.sub sU) ?_; simp only [pS]
      first | (refine rg_take (i := 6) rfl kR kR kR (Yld.ldo rfl rfl agg3 rfl (by assumption) (by assumption)) (H.sub sU) ?_; simp only [pS]) | (refine rg_take (i := 6) rfl kR kR kR (Yld.ldc rfl rfl agg3 rfl mR cE) (H.sub sU) ?_; simp only [pS])
      refine rg_take (i := 7) rfl kR kR kR (Yld.of (v := .bool false) rfl (fun W _ => by go_simp; first | done | exact HP.out | (rw [HP.out]) | (simpa using HP.out))) (H.sub sU) ?_; simp only [pS, pE]
      refine rg_take (i := 8) rfl kR kR kR (Yld.pick rfl rfl rfl) (H.sub sU) ?_; simp only [pS, pE]
      refine rg_take (i := 9) rfl kR kR kR (Yld.move rfl rfl) (H.sub sU) ?_; simp only [pS, pE]
      refine rg_take (i := 10) rfl kR kR kR (Yld.o rfl) (H.sub sU) ?_; simp only [pS]
      first | (refine rg_take (i := 11) rfl kR kR kR (Yld.ldo rfl rfl agg3 rfl (by assumption) (by assumption)) (H.sub sU) ?_; simp only [pS]) | (refine rg_take (i := 11) rfl kR kR kR (Yld.ldc rfl rfl agg3 rfl mR cE) (H.sub sU) ?_; simp only [pS])
      refine rg_take (i := 12) rfl kR kR kR (Yld.of (v := .bool false) rfl (fun W _ => by go_simp; first | done | exact HK.out | (rw [HK.out]) | (simpa using HK.out))) (H.sub sU) ?_; simp only [pS, pE]
      refine rg_take (i := 13) rfl kR kR kR (Yld.pick rfl rfl rfl) (H.sub sU) ?_; simp only [pS, pE]
      refine rg_take (i := 14) rfl kR kR kR (Yld.move rfl rfl) (H.sub sU) ?_; simp only [pS, pE]
      refine rg_take (i := 15) rfl kR kR kR (Yld.move rfl rfl) (H.sub sU) ?_; simp only [pS, pE]
      refine rg_take (i := 16) rfl kR kR kR (Yld.o rfl) (H.sub sU) ?_; simp only [pS]
      refine rg_take (i := 17) rfl kR kR kR (Yld.o rfl) (H.sub sU) ?_; simp only [pS]
      first | (refine rg_take (i := 18) rfl kR kR kR (Yld.ldor rfl rfl agg67 size67 rfl (by assumption) sZ (by assumption)) (H.sub sU) ?_; simp only [pS]) | (refine rg_take (i := 18) rfl kR kR kR (Yld.ldr rfl rfl agg67 size67 rfl mR sZ) (H.sub sU) ?_; simp only [pS]) | (refine rg_take (i := 18) rfl kR kR kR (Yld.ldl rfl rfl agg67 size67 rfl mR (by simp)) (H.sub sU) ?_; simp only [pS]; simp only [List.drop_succ_cons, List.drop_zero, List.take_succ_cons, List.take_zero])
      refine rg_take (i := 19) rfl kR kR kR (Yld.o rfl) (H.sub sU) ?_; simp only [pS]
      first | (refine rg_take (i := 20) rfl kR kR kR (Yld.ldor rfl rfl agg67 size67 rfl (by assumption) sZ (by assumption)) (H.sub sU) ?_; simp only [pS]) | (refine rg_take (i := 20) rfl kR kR kR (Yld.ldr rfl rfl agg67 size67 rfl mR sZ) (H.sub sU) ?_; simp only [pS]) | (refine rg_take (i := 20) rfl kR kR kR (Yld.ldl rfl rfl agg67 size67 rfl mR (by simp)) (H.sub sU) ?_; simp only [pS]; simp only [List.drop_succ_cons, List.drop_zero, List.take_succ_cons, List.take_zero])
      refine rg_one (i := 21) (by kernel_rfl) rfl rfl (fun K hK => ?_)
      refine wp_callf rfl ent84 (before_ok bl mb hu1 hu2 ha1 ha2 false HBF.out _) rfl (fun v w1 hr => ?_)
      obtain ⟨rfl, hb1⟩ := hr
      replace H := H.grow hb1
      clear hb1
      clear HS
      have HS := H
      refine hK.out _ _ (H.sub sU) ?_
      clear hK K
      simp only [pS]
      refine rg_take (i := 22) rfl kR kR kR (Yld.o rfl) (H.sub sU) ?_; simp only [pS]
      refine rg_take (i := 23) rfl kR kR kR (Yld.pick rfl rfl rfl) (H.sub sU) ?_; simp only [pS, pE]
      refine rg_done (by kernel_rfl) ?_
      go_wp2_with (first | (with_reducible refine wpl rfl (dQ 3 rfl ?_); with_reducible refine (Stp.box 3 rfl rfl rfl H ?_); clear H; intro g3 w1 H; simp only [pS]; simp only [pE, nC, pS] at H) | (with_reducible refine wpl rfl (ldQ (ty := 67) rfl ?_); first | (with_reducible refine (Stp.ldor rfl agg67 size67 rfl H (by assumption) sZ (by assumption) ?_); simp only [pS]) | (with_reducible refine (Stp.ldr rfl agg67 size67 rfl H mR sZ ?_); simp only [pS]) | (with_reducible refine (Stp.ldl rfl agg67 size67 rfl H mR (by simp) ?_); simp only [pS]; simp only [List.drop_succ_cons, List.drop_zero, List.take_succ_cons, List.take_zero])))
      go_ret
      exact ⟨_, rfl, rfl, H.sub sU⟩
    · have HK : Hid ((kd != 8) = true) := Lib.hid (by simp [h2])
      clear h h1 h2
      go_enter Try.func43, Try.ntmps43
      go_wp2_with (first | (with_reducible refine wpl rfl (dQ 3 rfl ?_); with_reducible refine (Stp.box 3 rfl rfl rfl H ?_); clear H; intro g3 w1 H; simp only [pS]; simp only [pE, nC, pS] at H) | (with_reducible refine wpl rfl (ldQ (ty := 67) rfl ?_); first | (with_reducible refine (Stp.ldor rfl agg67 size67 rfl H (by assumption) sZ (by assumption) ?_); simp only [pS]) | (with_reducible refine (Stp.ldr rfl agg67 size67 rfl H mR sZ ?_); simp only [pS]) | (with_reducible refine (Stp.ldl rfl agg67 size67 rfl H mR (by simp) ?_); simp only [pS]; simp only [List.drop_succ_cons, List.drop_zero, List.take_succ_cons, List.take_zero])))
      refine rg_begin 24 rfl (S := fun W => St _ _ W (row 74 g3 #[.int .i64 kd, .int .u16 m1, .int .u32 m2, .int .u64 m3, .int .u64 (ms : Int), .int .u64 m5, .int .i64 m6, .int .u32 (mb.r : Int), .int .u16 (mb.w.1 : Int), .int .u32 (mb.w.2 : Int), .int .u32 (ma.r : Int), .int .u16 (ma.w.1 : Int), .int .u32 (ma.w.2 : Int), .bool mh, .int .i64 mc.kind, .int .u16 (mc.fr.1 : Int), .int .u32 (mc.fr.2 : Int), .int .u64 (mc.num : Int), .int .u64 (mc.vw : Int), .slice me.ba mc.data.length me.bc, .int .u64 (mc.v.id : Int), .slice me.ma mc.v.mem.length me.mc, .slice me.la mc.v.lvs.length me.lc, .slice me.da mc.v.ldr.length me.dc, .int .u64 (mv.id : Int), .slice mx.ma mv.mem.length mx.mc, .slice mx.la mv.lvs.length mx.lc, .slice mx.da mv.ldr.length mx.dc, .slice my m7 mz] :: row 129 gp #[.int .u16 (sf.1 : Int), .int .u32 (sf.2 : Int), .int .u32 (sn.r : Int), .int .u16 (sn.w.1 : Int), .int .u32 (sn.w.2 : Int), .int .i64 ph, .slice la n lc, .int .u64 (sl : Int), .int .u32 (bl.r : Int), .int .u16 (bl.w.1 : Int), .int .u32 (bl.w.2 : Int), .pointer vp, .int .u64 (a1 : Int), .int .u64 (a2 : Int)] :: [])) (by kernel_rfl) (H.drew.sub sU) ?_
      replace H := H.drew
      have HS := H
      refine rg_take (i := 0) rfl kR kR kR (Yld.move rfl rfl) (H.sub sU) ?_; simp only [pS, pE]
      refine rg_take (i := 1) rfl kR kR kR (Yld.o rfl) (H.sub sU) ?_; simp only [pS]
      refine rg_take (i := 2) rfl kR kR kR (Yld.move rfl rfl) (H.sub sU) ?_; simp only [pS, pE]
      refine rg_take (i := 3) rfl kR kR kR (Yld.move rfl rfl) (H.sub sU) ?_; simp only [pS, pE]
      refine rg_take (i := 4) rfl kR kR kR (Yld.o rfl) (H.sub sU) ?_; simp only [pS]
      refine rg_take (i := 5) rfl kR kR kR (Yld.o rfl) (H.sub sU) ?_; simp only [pS]
      first | (refine rg_take (i := 6) rfl kR kR kR (Yld.ldo rfl rfl agg3 rfl (by assumption) (by assumption)) (H.sub sU) ?_; simp only [pS]) | (refine rg_take (i := 6) rfl kR kR kR (Yld.ldc rfl rfl agg3 rfl mR cE) (H.sub sU) ?_; simp only [pS])
      refine rg_take (i := 7) rfl kR kR kR (Yld.of (v := .bool false) rfl (fun W _ => by go_simp; first | done | exact HP.out | (rw [HP.out]) | (simpa using HP.out))) (H.sub sU) ?_; simp only [pS, pE]
      refine rg_take (i := 8) rfl kR kR kR (Yld.pick rfl rfl rfl) (H.sub sU) ?_; simp only [pS, pE]
      refine rg_take (i := 9) rfl kR kR kR (Yld.move rfl rfl) (H.sub sU) ?_; simp only [pS, pE]
      refine rg_take (i := 10) rfl kR kR kR (Yld.o rfl) (H.sub sU) ?_; simp only [pS]
      first | (refine rg_take (i := 11) rfl kR kR kR (Yld.ldo rfl rfl agg3 rfl (by assumption) (by assumption)) (H.sub sU) ?_; simp only [pS]) | (refine rg_take (i := 11) rfl kR kR kR (Yld.ldc rfl rfl agg3 rfl mR cE) (H.sub sU) ?_; simp only [pS])
      refine rg_take (i := 12) rfl kR kR kR (Yld.of (v := .bool true) rfl (fun W _ => by go_simp; first | done | exact HK.out | (rw [HK.out]) | (simpa using HK.out))) (H.sub sU) ?_; simp only [pS, pE]
      refine rg_take (i := 13) rfl kR kR kR (Yld.pick rfl rfl rfl) (H.sub sU) ?_; simp only [pS, pE]
      refine rg_take (i := 14) rfl kR kR kR (Yld.move rfl rfl) (H.sub sU) ?_; simp only [pS, pE]
      refine rg_take (i := 15) rfl kR kR kR (Yld.skip rfl) (H.sub sU) ?_; simp only [pS]
      refine rg_take (i := 16) rfl kR kR kR (Yld.skip rfl) (H.sub sU) ?_; simp only [pS]
      refine rg_take (i := 17) rfl kR kR kR (Yld.skip rfl) (H.sub sU) ?_; simp only [pS]
      refine rg_take (i := 18) rfl kR kR kR (Yld.skip rfl) (H.sub sU) ?_; simp only [pS]
      refine rg_take (i := 19) rfl kR kR kR (Yld.skip rfl) (H.sub sU) ?_; simp only [pS]
      refine rg_take (i := 20) rfl kR kR kR (Yld.skip rfl) (H.sub sU) ?_; simp only [pS]
      refine rg_take (i := 21) rfl kR kR kR (Yld.skip rfl) (H.sub sU) ?_; simp only [pS]
      refine rg_take (i := 22) rfl kR kR kR (Yld.skip rfl) (H.sub sU) ?_; simp only [pS]
      refine rg_take (i := 23) rfl kR kR kR (Yld.pick rfl rfl rfl) (H.sub sU) ?_; simp only [pS, pE]
      refine rg_done (by kernel_rfl) ?_
      go_wp2_with (first | (with_reducible refine wpl rfl (dQ 3 rfl ?_); with_reducible refine (Stp.box 3 rfl rfl rfl H ?_); clear H; intro g3 w1 H; simp only [pS]; simp only [pE, nC, pS] at H) | (with_reducible refine wpl rfl (ldQ (ty := 67) rfl ?_); first | (with_reducible refine (Stp.ldor rfl agg67 size67 rfl H (by assumption) sZ (by assumption) ?_); simp only [pS]) | (with_reducible refine (Stp.ldr rfl agg67 size67 rfl H mR sZ ?_); simp only [pS]) | (with_reducible refine (Stp.ldl rfl agg67 size67 rfl H mR (by simp) ?_); simp only [pS]; simp only [List.drop_succ_cons, List.drop_zero, List.take_succ_cons, List.take_zero])))
      go_ret
      exact ⟨_, rfl, rfl, H.sub sU⟩
theorem enack_yes {B : Nat} {w0 : World} {L : List Res} (gp : Nat) (sf : Pr) (sn : Bl) (ph : Int) (la : Option Addr) (n lc sl : Nat) (bl : Bl) (vp : Option Addr) (a1 a2 : Nat) (kd m1 m2 m3 m5 m6 : Int) (ms : Nat) (mb ma : Bl) (mh : Bool) (mc : Cm) (me : Hd) (mv : Vw) (mx : Hd) (my : Option Addr) (m7 mz : Nat) (hn1 : sn.w.1 < 65536) (hn2 : sn.w.2 < 4294967296) (hu1 : bl.w.1 < 65536) (hu2 : bl.w.2 < 4294967296) (ha1 : mb.w.1 < 65536) (ha2 : mb.w.2 < 4294967296) (h1 : ¬ ph = 0) (h2 : kd = 8) (h3 : blt bl mb = true) (r : Bool) (hr : blt sn mb = r) (w : World) (H : St B w0 w (row 129 gp #[.int .u16 (sf.1 : Int), .int .u32 (sf.2 : Int), .int .u32 (sn.r : Int), .int .u16 (sn.w.1 : Int), .int .u32 (sn.w.2 : Int), .int .i64 ph, .slice la n lc, .int .u64 (sl : Int), .int .u32 (bl.r : Int), .int .u16 (bl.w.1 : Int), .int .u32 (bl.w.2 : Int), .pointer vp, .int .u64 (a1 : Int), .int .u64 (a2 : Int)] :: L)) :
    Calls Try.prog 43 #[.pointer (some ⟨gp, 0, none⟩), .agg #[.int .i64 kd, .int .u16 m1, .int .u32 m2, .int .u64 m3, .int .u64 (ms : Int), .int .u64 m5, .int .i64 m6, .int .u32 (mb.r : Int), .int .u16 (mb.w.1 : Int), .int .u32 (mb.w.2 : Int), .int .u32 (ma.r : Int), .int .u16 (ma.w.1 : Int), .int .u32 (ma.w.2 : Int), .bool mh, .int .i64 mc.kind, .int .u16 (mc.fr.1 : Int), .int .u32 (mc.fr.2 : Int), .int .u64 (mc.num : Int), .int .u64 (mc.vw : Int), .slice me.ba mc.data.length me.bc, .int .u64 (mc.v.id : Int), .slice me.ma mc.v.mem.length me.mc, .slice me.la mc.v.lvs.length me.lc, .slice me.da mc.v.ldr.length me.dc, .int .u64 (mv.id : Int), .slice mx.ma mv.mem.length mx.mc, .slice mx.la mv.lvs.length mx.lc, .slice mx.da mv.ldr.length mx.dc, .slice my m7 mz]] w (Ret fun v w' => v = .bool true ∧ St B w0 w' (row 129 gp #[.int .u16 (sf.1 : Int), .int .u32 (sf.2 : Int), .int .u32 ((if r = true then mb else sn).r : Int), .int .u16 ((if r = true then mb else sn).w.1 : Int), .int .u32 ((if r = true then mb else sn).w.2 : Int), .int .i64 0, .slice la n lc, .int .u64 (sl : Int), .int .u32 (bl.r : Int), .int .u16 (bl.w.1 : Int), .int .u32 (bl.w.2 : Int), .pointer none, .int .u64 (a1 : Int), .int .u64 (a2 : Int)] :: L)) := by
  have HP : Hid ((ph == 0) = false) := Lib.hid (by simp [h1])
  have HK : Hid ((kd != 8) = false) := Lib.hid (by simp [h2])
  have HBF := Lib.hid h3
  have HSN := Lib.hid hr
  obtain ⟨s2, hs2⟩ : ∃ s2 : Bl, (if r = true then mb else sn) = s2 := ⟨_, rfl⟩
  have HS2 := Lib.hid hs2
  rw [hs2]
  clear h1 h2 h3 hr hs2
  go_enter Try.func43, Try.ntmps43
  go_wp2_with (first | (with_reducible refine wpl rfl (dQ 3 rfl ?_); with_reducible refine (Stp.box 3 rfl rfl rfl H ?_); clear H; intro g3 w1 H; simp only [pS]; simp only [pE, nC, pS] at H) | (with_reducible refine wpl rfl (ldQ (ty := 67) rfl ?_); first | (with_reducible refine (Stp.ldor rfl agg67 size67 rfl H (by assumption) sZ (by assumption) ?_); simp only [pS]) | (with_reducible refine (Stp.ldr rfl agg67 size67 rfl H mR sZ ?_); simp only [pS]) | (with_reducible refine (Stp.ldl rfl agg67 size67 rfl H mR (by simp) ?_); simp only [pS]; simp only [List.drop_succ_cons, List.drop_zero, List.take_succ_cons, List.take_zero])))
  refine rg_begin 24 rfl (S := fun W => St _ _ W (row 74 g3 #[.int .i64 kd, .int .u16 m1, .int .u32 m2, .int .u64 m3, .int .u64 (ms : Int), .int .u64 m5, .int .i64 m6, .int .u32 (mb.r : Int), .int .u16 (mb.w.1 : Int), .int .u32 (mb.w.2 : Int), .int .u32 (ma.r : Int), .int .u16 (ma.w.1 : Int), .int .u32 (ma.w.2 : Int), .bool mh, .int .i64 mc.kind, .int .u16 (mc.fr.1 : Int), .int .u32 (mc.fr.2 : Int), .int .u64 (mc.num : Int), .int .u64 (mc.vw : Int), .slice me.ba mc.data.length me.bc, .int .u64 (mc.v.id : Int), .slice me.ma mc.v.mem.length me.mc, .slice me.la mc.v.lvs.length me.lc, .slice me.da mc.v.ldr.length me.dc, .int .u64 (mv.id : Int), .slice mx.ma mv.mem.length mx.mc, .slice mx.la mv.lvs.length mx.lc, .slice mx.da mv.ldr.length mx.dc, .slice my m7 mz] :: row 129 gp #[.int .u16 (sf.1 : Int), .int .u32 (sf.2 : Int), .int .u32 (sn.r : Int), .int .u16 (sn.w.1 : Int), .int .u32 (sn.w.2 : Int), .int .i64 ph, .slice la n lc, .int .u64 (sl : Int), .int .u32 (bl.r : Int), .int .u16 (bl.w.1 : Int), .int .u32 (bl.w.2 : Int), .pointer vp, .int .u64 (a1 : Int), .int .u64 (a2 : Int)] :: [])) (by kernel_rfl) (H.drew.sub sU) ?_
  replace H := H.drew
  have HS := H
  refine rg_take (i := 0) rfl kR kR kR (Yld.move rfl rfl) (H.sub sU) ?_; simp only [pS, pE]
  refine rg_take (i := 1) rfl kR kR kR (Yld.o rfl) (H.sub sU) ?_; simp only [pS]
  refine rg_take (i := 2) rfl kR kR kR (Yld.move rfl rfl) (H.sub sU) ?_; simp only [pS, pE]
  refine rg_take (i := 3) rfl kR kR kR (Yld.move rfl rfl) (H.sub sU) ?_; simp only [pS, pE]
  refine rg_take (i := 4) rfl kR kR kR (Yld.o rfl) (H.sub sU) ?_; simp only [pS]
  refine rg_take (i := 5) rfl kR kR kR (Yld.o rfl) (H.sub sU) ?_; simp only [pS]
  first | (refine rg_take (i := 6) rfl kR kR kR (Yld.ldo rfl rfl agg3 rfl (by assumption) (by assumption)) (H.sub sU) ?_; simp only [pS]) | (refine rg_take (i := 6) rfl kR kR kR (Yld.ldc rfl rfl agg3 rfl mR cE) (H.sub sU) ?_; simp only [pS])
  refine rg_take (i := 7) rfl kR kR kR (Yld.of (v := .bool false) rfl (fun W _ => by go_simp; first | done | exact HP.out | (rw [HP.out]) | (simpa using HP.out))) (H.sub sU) ?_; simp only [pS, pE]
  refine rg_take (i := 8) rfl kR kR kR (Yld.pick rfl rfl rfl) (H.sub sU) ?_; simp only [pS, pE]
  refine rg_take (i := 9) rfl kR kR kR (Yld.move rfl rfl) (H.sub sU) ?_; simp only [pS, pE]
  refine rg_take (i := 10) rfl kR kR kR (Yld.o rfl) (H.sub sU) ?_; simp only [pS]
  first | (refine rg_take (i := 11) rfl kR kR kR (Yld.ldo rfl rfl agg3 rfl (by assumption) (by assumption)) (H.sub sU) ?_; simp only [pS]) | (refine rg_take (i := 11) rfl kR kR kR (Yld.ldc rfl rfl agg3 rfl mR cE) (H.sub sU) ?_; simp only [pS])
  refine rg_take (i := 12) rfl kR kR kR (Yld.of (v := .bool false) rfl (fun W _ => by go_simp; first | done | exact HK.out | (rw [HK.out]) | (simpa using HK.out))) (H.sub sU) ?_; simp only [pS, pE]
  refine rg_take (i := 13) rfl kR kR kR (Yld.pick rfl rfl rfl) (H.sub sU) ?_; simp only [pS, pE]
  refine rg_take (i := 14) rfl kR kR kR (Yld.move rfl rfl) (H.sub sU) ?_; simp only [pS, pE]
  refine rg_take (i := 15) rfl kR kR kR (Yld.move rfl rfl) (H.sub sU) ?_; simp only [pS, pE]
  refine rg_take (i := 16) rfl kR kR kR (Yld.o rfl) (H.sub sU) ?_; simp only [pS]
  refine rg_take (i := 17) rfl kR kR kR (Yld.o rfl) (H.sub sU) ?_; simp only [pS]
  first | (refine rg_take (i := 18) rfl kR kR kR (Yld.ldor rfl rfl agg67 size67 rfl (by assumption) sZ (by assumption)) (H.sub sU) ?_; simp only [pS]) | (refine rg_take (i := 18) rfl kR kR kR (Yld.ldr rfl rfl agg67 size67 rfl mR sZ) (H.sub sU) ?_; simp only [pS]) | (refine rg_take (i := 18) rfl kR kR kR (Yld.ldl rfl rfl agg67 size67 rfl mR (by simp)) (H.sub sU) ?_; simp only [pS]; simp only [List.drop_succ_cons, List.drop_zero, List.take_succ_cons, List.take_zero])
  refine rg_take (i := 19) rfl kR kR kR (Yld.o rfl) (H.sub sU) ?_; simp only [pS]
  first | (refine rg_take (i := 20) rfl kR kR kR (Yld.ldor rfl rfl agg67 size67 rfl (by assumption) sZ (by assumption)) (H.sub sU) ?_; simp only [pS]) | (refine rg_take (i := 20) rfl kR kR kR (Yld.ldr rfl rfl agg67 size67 rfl mR sZ) (H.sub sU) ?_; simp only [pS]) | (refine rg_take (i := 20) rfl kR kR kR (Yld.ldl rfl rfl agg67 size67 rfl mR (by simp)) (H.sub sU) ?_; simp only [pS]; simp only [List.drop_succ_cons, List.drop_zero, List.take_succ_cons, List.take_zero])
  refine rg_one (i := 21) (by kernel_rfl) rfl rfl (fun K hK => ?_)
  refine wp_callf rfl ent84 (before_ok bl mb hu1 hu2 ha1 ha2 true HBF.out _) rfl (fun v w1 hr => ?_)
  obtain ⟨rfl, hb1⟩ := hr
  replace H := H.grow hb1
  clear hb1
  clear HS
  have HS := H
  refine hK.out _ _ (H.sub sU) ?_
  clear hK K
  simp only [pS]
  refine rg_take (i := 22) rfl kR kR kR (Yld.o rfl) (H.sub sU) ?_; simp only [pS]
  refine rg_take (i := 23) rfl kR kR kR (Yld.pick rfl rfl rfl) (H.sub sU) ?_; simp only [pS, pE]
  refine rg_done (by kernel_rfl) ?_
  go_wp2_with (first | (go_at_call 39; (with_reducible refine (esee_ok gp sf sn ph la n lc sl bl vp a1 a2 mb hn1 hn2 ha1 ha2 _ HSN.out _ (H.pull (r := row 129 gp #[.int .u16 (sf.1 : Int), .int .u32 (sf.2 : Int), .int .u32 (sn.r : Int), .int .u16 (sn.w.1 : Int), .int .u32 (sn.w.2 : Int), .int .i64 ph, .slice la n lc, .int .u64 (sl : Int), .int .u32 (bl.r : Int), .int .u16 (bl.w.1 : Int), .int .u32 (bl.w.2 : Int), .pointer vp, .int .u64 (a1 : Int), .int .u64 (a2 : Int)]) pU)).mono ?_); rintro e w1 ⟨v, rfl, hr⟩; obtain ⟨rfl, H2⟩ := hr; clear H; have H := H2; clear H2; rw [HS2.out] at H) | (go_at_call 40; (with_reducible refine (estop_ok gp sf s2 ph la n lc sl bl vp a1 a2 _ (H.pull (r := row 129 gp #[.int .u16 (sf.1 : Int), .int .u32 (sf.2 : Int), .int .u32 (s2.r : Int), .int .u16 (s2.w.1 : Int), .int .u32 (s2.w.2 : Int), .int .i64 ph, .slice la n lc, .int .u64 (sl : Int), .int .u32 (bl.r : Int), .int .u16 (bl.w.1 : Int), .int .u32 (bl.w.2 : Int), .pointer vp, .int .u64 (a1 : Int), .int .u64 (a2 : Int)]) pU)).mono ?_); rintro e w1 ⟨v, rfl, hr⟩; obtain ⟨rfl, H2⟩ := hr; clear H; have H := H2; clear H2) | (with_reducible refine wpl rfl (dQ 3 rfl ?_); with_reducible refine (Stp.box 3 rfl rfl rfl H ?_); clear H; intro g3 w1 H; simp only [pS]; simp only [pE, nC, pS] at H) | (with_reducible refine wpl rfl (ldQ (ty := 67) rfl ?_); first | (with_reducible refine (Stp.ldor rfl agg67 size67 rfl H (by assumption) sZ (by assumption) ?_); simp only [pS]) | (with_reducible refine (Stp.ldr rfl agg67 size67 rfl H mR sZ ?_); simp only [pS]) | (with_reducible refine (Stp.ldl rfl agg67 size67 rfl H mR (by simp) ?_); simp only [pS]; simp only [List.drop_succ_cons, List.drop_zero, List.take_succ_cons, List.take_zero])))
  go_ret
  exact ⟨_, rfl, rfl, H.sub sU⟩
theorem eval0_ok {B : Nat} {w0 : World} {L : List Res} (gp : Nat) (sf : Pr) (sn : Bl) (ph : Int) (la : Option Addr) (n lc sl : Nat) (bl : Bl) (a1 a2 : Nat) (w : World) (H : St B w0 w (row 129 gp #[.int .u16 (sf.1 : Int), .int .u32 (sf.2 : Int), .int .u32 (sn.r : Int), .int .u16 (sn.w.1 : Int), .int .u32 (sn.w.2 : Int), .int .i64 ph, .slice la n lc, .int .u64 (sl : Int), .int .u32 (bl.r : Int), .int .u16 (bl.w.1 : Int), .int .u32 (bl.w.2 : Int), .pointer none, .int .u64 (a1 : Int), .int .u64 (a2 : Int)] :: L)) :
    Calls Try.prog 38 #[.pointer (some ⟨gp, 0, none⟩)] w (Ret fun v w' => v = .tuple #[.agg (cmH cm0 hd0), .bool false] ∧ St B w0 w' (row 129 gp #[.int .u16 (sf.1 : Int), .int .u32 (sf.2 : Int), .int .u32 (sn.r : Int), .int .u16 (sn.w.1 : Int), .int .u32 (sn.w.2 : Int), .int .i64 ph, .slice la n lc, .int .u64 (sl : Int), .int .u32 (bl.r : Int), .int .u16 (bl.w.1 : Int), .int .u32 (bl.w.2 : Int), .pointer none, .int .u64 (a1 : Int), .int .u64 (a2 : Int)] :: L)) := by
  go_enter Try.func38, Try.ntmps38
  go_wp2_with (first | (with_reducible refine wpl rfl (dQ 13 rfl ?_); with_reducible refine (Stp.build (v := (.agg (cmH cm0 hd0))) 13 rfl rfl (fun W => by kernel_rfl) ?_); simp only [pS]) | (with_reducible refine wpl rfl (dQ 2 rfl ?_); with_reducible refine (Stp.alloc 2 rfl rfl zero43 H ?_); clear H; intro g2 w1 H; simp only [pS]; simp only [nC] at H) | (with_reducible refine wpl rfl (ldQ (ty := 125) rfl ?_); first | (with_reducible refine (Stp.ldo rfl agg125 rfl H (by assumption) (by assumption) ?_); simp only [pS]) | (with_reducible refine (Stp.ldc rfl agg125 rfl H mR cE ?_); simp only [pS])) | (with_reducible refine wpl rfl (stQ (ty := 43) rfl ?_); first | (with_reducible refine (Stp.str rfl size43 rfl rfl (by first | rfl | (simp [Value.oneCell']; done) | assumption) H uP sZ sZ ?_); clear H; intro w1 H; simp only [pS]) | (with_reducible refine (Stp.stl rfl size43 rfl rfl rfl rfl H uP (by simp) ?_); clear H; intro w1 H; simp only [pS]; simp only [List.drop_succ_cons, List.drop_zero, List.take_succ_cons, List.take_zero, List.nil_append, List.cons_append, Nat.reduceAdd] at H)) | (with_reducible refine wpl rfl (ldQ (ty := 43) rfl ?_); first | (with_reducible refine (Stp.ldor rfl agg43 size43 rfl H (by assumption) sZ (by assumption) ?_); simp only [pS]) | (with_reducible refine (Stp.ldr rfl agg43 size43 rfl H mR sZ ?_); simp only [pS]) | (with_reducible refine (Stp.ldl rfl agg43 size43 rfl H mR (by simp) ?_); simp only [pS]; simp only [List.drop_succ_cons, List.drop_zero, List.take_succ_cons, List.take_zero])))
  refine post_row2 rfl agg43 size43 rfl H mE rfl rfl ⟨_, rfl, rfl, H.sub sU⟩
theorem eval1_ok {B : Nat} {w0 : World} {L : List Res} {G : Nat → Prop} (gp : Nat) (sf : Pr) (sn : Bl) (ph : Int) (la : Option Addr) (n lc sl : Nat) (bl : Bl) (a1 a2 : Nat) (gv : Nat) (u : Bl) (c : Cm) (hd : Hd) (hm : smC c) (w : World) (H : St B w0 w (row 129 gp #[.int .u16 (sf.1 : Int), .int .u32 (sf.2 : Int), .int .u32 (sn.r : Int), .int .u16 (sn.w.1 : Int), .int .u32 (sn.w.2 : Int), .int .i64 ph, .slice la n lc, .int .u64 (sl : Int), .int .u32 (bl.r : Int), .int .u16 (bl.w.1 : Int), .int .u32 (bl.w.2 : Int), .pointer (some ⟨gv, 0, none⟩), .int .u64 (a1 : Int), .int .u64 (a2 : Int)] :: row 140 gv #[.int .u32 (u.r : Int), .int .u16 (u.w.1 : Int), .int .u32 (u.w.2 : Int), .int .i64 c.kind, .int .u16 (c.fr.1 : Int), .int .u32 (c.fr.2 : Int), .int .u64 (c.num : Int), .int .u64 (c.vw : Int), .slice hd.ba c.data.length hd.bc, .int .u64 (c.v.id : Int), .slice hd.ma c.v.mem.length hd.mc, .slice hd.la c.v.lvs.length hd.lc, .slice hd.da c.v.ldr.length hd.dc] :: cmr G (.slice hd.ba c.data.length hd.bc) (.slice hd.ma c.v.mem.length hd.mc) (.slice hd.la c.v.lvs.length hd.lc) (.slice hd.da c.v.ldr.length hd.dc) c :: L)) :
    Calls Try.prog 38 #[.pointer (some ⟨gp, 0, none⟩)] w (Ret fun v w' => ∃ (h3 : Hd) (G3 : Nat → Prop), v = .tuple #[.agg (cmH c h3), .bool true] ∧ St B w0 w' (row 129 gp #[.int .u16 (sf.1 : Int), .int .u32 (sf.2 : Int), .int .u32 (sn.r : Int), .int .u16 (sn.w.1 : Int), .int .u32 (sn.w.2 : Int), .int .i64 ph, .slice la n lc, .int .u64 (sl : Int), .int .u32 (bl.r : Int), .int .u16 (bl.w.1 : Int), .int .u32 (bl.w.2 : Int), .pointer (some ⟨gv, 0, none⟩), .int .u64 (a1 : Int), .int .u64 (a2 : Int)] :: row 140 gv #[.int .u32 (u.r : Int), .int .u16 (u.w.1 : Int), .int .u32 (u.w.2 : Int), .int .i64 c.kind, .int .u16 (c.fr.1 : Int), .int .u32 (c.fr.2 : Int), .int .u64 (c.num : Int), .int .u64 (c.vw : Int), .slice hd.ba c.data.length hd.bc, .int .u64 (c.v.id : Int), .slice hd.ma c.v.mem.length hd.mc, .slice hd.la c.v.lvs.length hd.lc, .slice hd.da c.v.ldr.length hd.dc] :: cmr G (.slice hd.ba c.data.length hd.bc) (.slice hd.ma c.v.mem.length hd.mc) (.slice hd.la c.v.lvs.length hd.lc) (.slice hd.da c.v.ldr.length hd.dc) c :: cmr G3 (.slice h3.ba c.data.length h3.bc) (.slice h3.ma c.v.mem.length h3.mc) (.slice h3.la c.v.lvs.length h3.lc) (.slice h3.da c.v.ldr.length h3.dc) c :: L)) := by
  go_enter Try.func38, Try.ntmps38
  go_wp2_with (first | (go_at_call 83; (with_reducible refine (ccopy_ok c hd.ba hd.ma hd.la hd.da hd.bc hd.mc hd.lc hd.dc hm _ (H.getCmR (G := G) mE)).mono ?_); rintro e w1 ⟨v, rfl, hr⟩; obtain ⟨G3, ab3, am3, al3, ad3, cb3, cm3, cl3, cd3, rfl, hG2, hv2, hb1⟩ := hr; replace H := H.new hb1 (cmr_sound hG2 hv2) (fun g hg => (hG2 g hg).1); clear hb1 hG2 hv2) | (with_reducible refine wpl rfl (dQ 2 rfl ?_); with_reducible refine (Stp.alloc 2 rfl rfl zero43 H ?_); clear H; intro g2 w1 H; simp only [pS]; simp only [nC] at H) | (with_reducible refine wpl rfl (ldQ (ty := 125) rfl ?_); first | (with_reducible refine (Stp.ldo rfl agg125 rfl H (by assumption) (by assumption) ?_); simp only [pS]) | (with_reducible refine (Stp.ldc rfl agg125 rfl H mR cE ?_); simp only [pS])) | (with_reducible refine wpl rfl (stQ (ty := 43) rfl ?_); first | (with_reducible refine (Stp.str rfl size43 rfl rfl (by first | rfl | (simp [Value.oneCell']; done) | assumption) H uP sZ sZ ?_); clear H; intro w1 H; simp only [pS]) | (with_reducible refine (Stp.stl rfl size43 rfl rfl rfl rfl H uP (by simp) ?_); clear H; intro w1 H; simp only [pS]; simp only [List.drop_succ_cons, List.drop_zero, List.take_succ_cons, List.take_zero, List.nil_append, List.cons_append, Nat.reduceAdd] at H)) | (with_reducible refine wpl rfl (ldQ (ty := 43) rfl ?_); first | (with_reducible refine (Stp.ldor rfl agg43 size43 rfl H (by assumption) sZ (by assumption) ?_); simp only [pS]) | (with_reducible refine (Stp.ldr rfl agg43 size43 rfl H mR sZ ?_); simp only [pS]) | (with_reducible refine (Stp.ldl rfl agg43 size43 rfl H mR (by simp) ?_); simp only [pS]; simp only [List.drop_succ_cons, List.drop_zero, List.take_succ_cons, List.take_zero])))
  refine post_row2 rfl agg43 size43 rfl H mE rfl rfl ⟨_, rfl, ⟨ab3, am3, al3, ad3, cb3, cm3, cl3, cd3⟩, G3, rfl, ?_⟩
  exact ((((H.pull (r := cmr G3 _ _ _ _ c) pU).pull (r := cmr G _ _ _ _ c) pU).pull (r := row 140 gv #[.int .u32 (u.r : Int), .int .u16 (u.w.1 : Int), .int .u32 (u.w.2 : Int), .int .i64 c.kind, .int .u16 (c.fr.1 : Int), .int .u32 (c.fr.2 : Int), .int .u64 (c.num : Int), .int .u64 (c.vw : Int), .slice hd.ba c.data.length hd.bc, .int .u64 (c.v.id : Int), .slice hd.ma c.v.mem.length hd.mc, .slice hd.la c.v.lvs.length hd.lc, .slice hd.da c.v.ldr.length hd.dc]) pU).pull (r := row 129 gp #[.int .u16 (sf.1 : Int), .int .u32 (sf.2 : Int), .int .u32 (sn.r : Int), .int .u16 (sn.w.1 : Int), .int .u32 (sn.w.2 : Int), .int .i64 ph, .slice la n lc, .int .u64 (sl : Int), .int .u32 (bl.r : Int), .int .u16 (bl.w.1 : Int), .int .u32 (bl.w.2 : Int), .pointer (some ⟨gv, 0, none⟩), .int .u64 (a1 : Int), .int .u64 (a2 : Int)]) pU).sub sU
end Go.Proofs.Ytjghcmejmdllbaa
