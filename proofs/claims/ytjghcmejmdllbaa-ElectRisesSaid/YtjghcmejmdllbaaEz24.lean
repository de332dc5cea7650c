/- Layer 21's laws' do: promises taken. -/
import Derived.Test.YtjghcmejmdllbaaEz23
namespace Go.Proofs.Ytjghcmejmdllbaa
open Go.ChangeShapes Go.WideShapes Go.ChangeAt Go.RowKit Go.Maps Go.Deep
set_option linter.unusedVariables false
set_option linter.unusedSimpArgs false
set_option linter.unusedSectionVars false
set_option maxRecDepth 100000
set_option maxHeartbeats 4000000
attribute [local irreducible] blt vOk atR cErr
theorem do21_prom0 {B : Nat} {w0 : World} {L : List Res} {G1 : Nat → Prop} (gp gx : Nat) (sf : Pr) (d : Pd) (R : Res) (hR : ProR gp sf d R) (hw : Pw d) (hf1 : sf.1 < 65536) (hf2 : sf.2 < 4294967296)
    (m : Nat) (hmm : m ≤ 1000) (se : Pr) (sn bl : Bl) (ph : Int) (la : Option Addr) (lc : Nat) (ld : List Pr) (sl : Nat) (hs : Bool) (un : Bl) (c0 : Cm) (hd : Hd) (aa : Option Addr) (ac : Nat) (an : List Pr) (hI : XI B w0 G1 m sn la lc ld c0 hd an)
    (kind : Int) (x : Vw) (xa xl xr : Option Addr) (xc xd xe : Nat) (s0 : Nat) (q : Pr) (kd m1 m2 m3 m5 m6 : Int) (ms : Nat) (mb ma : Bl) (mh : Bool) (mc : Cm) (me : Hd) (mv : Vw) (mx : Hd) (my : Option Addr) (m7 mz : Nat) (c : Cm) (h : Hd)
    (hsm : smV x) (hwx : wfV x) (hld : x.ldr.length < 1000) (hvx : ∀ L, Rd B w0 L fun W => VwG G1 W (.slice xa x.mem.length xc) (.slice xl x.lvs.length xd) (.slice xr x.ldr.length xe) x) (hs0 : s0 < 18446744073709551616)
    (hb0 : mb.r < 4294967296) (hb1 : mb.w.1 < 65536) (hb2 : mb.w.2 < 4294967296) (ha1 : ma.w.1 < 65536) (ha2 : ma.w.2 < 4294967296) (hmc : smC mc) (hxm : ∀ L, Rd B w0 L fun W => CmG G1 W (.slice me.ba mc.data.length me.bc) (.slice me.ma mc.v.mem.length me.mc) (.slice me.la mc.v.lvs.length me.lc) (.slice me.da mc.v.ldr.length me.dc) mc)
    (hcs : smC c) (hcw : wfC c) (hxc : ∀ L, Rd B w0 L fun W => CmG G1 W (.slice h.ba c.data.length h.bc) (.slice h.ma c.v.mem.length h.mc) (.slice h.la c.v.lvs.length h.lc) (.slice h.da c.v.ldr.length h.dc) c) (j : Nat) (hj : (kind % ((10 : Nat) : Int)).toNat = j) (hjj : j = 1 ∨ j = 2) (w : World) (H : St B w0 w (row 69 gx #[.int .u16 (se.1 : Int), .int .u32 (se.2 : Int), .int .u32 (sn.r : Int), .int .u16 (sn.w.1 : Int), .int .u32 (sn.w.2 : Int), .int .u32 (bl.r : Int), .int .u16 (bl.w.1 : Int), .int .u32 (bl.w.2 : Int), .int .i64 ph, .slice la ld.length lc, .int .u64 (sl : Int), .bool hs, .int .u32 (un.r : Int), .int .u16 (un.w.1 : Int), .int .u32 (un.w.2 : Int), .int .i64 c0.kind, .int .u16 (c0.fr.1 : Int), .int .u32 (c0.fr.2 : Int), .int .u64 (c0.num : Int), .int .u64 (c0.vw : Int), .slice hd.ba c0.data.length hd.bc, .int .u64 (c0.v.id : Int), .slice hd.ma c0.v.mem.length hd.mc, .slice hd.la c0.v.lvs.length hd.lc, .slice hd.da c0.v.ldr.length hd.dc, .slice aa an.length ac] :: slc 36 2 (.slice aa an.length ac) an.length (pv an) :: R :: L)) :
    Calls Try.prog 32 #[.pointer (some ⟨gp, 0, none⟩), .pointer (some ⟨gx, 0, none⟩), .agg #[.int .i64 kind, .int .u64 (x.id : Int), .slice xa x.mem.length xc, .slice xl x.lvs.length xd, .slice xr x.ldr.length xe, .int .u64 (s0 : Int), .int .u16 (q.1 : Int), .int .u32 (q.2 : Int), .int .i64 kd, .int .u16 m1, .int .u32 m2, .int .u64 m3, .int .u64 (ms : Int), .int .u64 m5, .int .i64 m6, .int .u32 (mb.r : Int), .int .u16 (mb.w.1 : Int), .int .u32 (mb.w.2 : Int), .int .u32 (ma.r : Int), .int .u16 (ma.w.1 : Int), .int .u32 (ma.w.2 : Int), .bool mh, .int .i64 mc.kind, .int .u16 (mc.fr.1 : Int), .int .u32 (mc.fr.2 : Int), .int .u64 (mc.num : Int), .int .u64 (mc.vw : Int), .slice me.ba mc.data.length me.bc, .int .u64 (mc.v.id : Int), .slice me.ma mc.v.mem.length me.mc, .slice me.la mc.v.lvs.length me.lc, .slice me.da mc.v.ldr.length me.dc, .int .u64 (mv.id : Int), .slice mx.ma mv.mem.length mx.mc, .slice mx.la mv.lvs.length mx.lc, .slice mx.da mv.ldr.length mx.dc, .slice my m7 mz, .bool false, .int .i64 c.kind, .int .u16 (c.fr.1 : Int), .int .u32 (c.fr.2 : Int), .int .u64 (c.num : Int), .int .u64 (c.vw : Int), .slice h.ba c.data.length h.bc, .int .u64 (c.v.id : Int), .slice h.ma c.v.mem.length h.mc, .slice h.la c.v.lvs.length h.lc, .slice h.da c.v.ldr.length h.dc]] w (Ret fun v w' => ∃ e : Bool, v = .bool e ∧ DX B w0 G1 w' gp gx sf d (m + 1) mb j L) := by
  have HR := Lib.hid hR
  have HW := Lib.hid hw
  have HF1 := Lib.hid hf1
  have HF2 := Lib.hid hf2
  have HI := Lib.hid hI
  have HSM := Lib.hid hsm
  have HWX := Lib.hid hwx
  have HLD := Lib.hid hld
  have HVX := Lib.hid hvx
  have HS0 := Lib.hid hs0
  have HB0 := Lib.hid hb0
  have HB1 := Lib.hid hb1
  have HB2 := Lib.hid hb2
  have HA1 := Lib.hid ha1
  have HA2 := Lib.hid ha2
  have HMC := Lib.hid hmc
  have HXM := Lib.hid hxm
  have HCS := Lib.hid hcs
  have HCW := Lib.hid hcw
  have HXC := Lib.hid hxc
  have HJ := Lib.hid hj
  clear hR hw hf1 hf2 hI hsm hwx hld hvx hs0 hb0 hb1 hb2 ha1 ha2 hmc hxm hcs hcw hxc hj
  rcases hjj with rfl | rfl
  · go_enter Try.func32, Try.ntmps32
    go_wp2_with (first | (go_at_call 34; (with_reducible refine (pick_mod _ _ 10 (by omega) (by omega) (by omega) _).mono ?_); rintro e w1 ⟨v, rfl, hr⟩; obtain ⟨rfl, hb1⟩ := hr; replace H := H.grow hb1; clear hb1; rw [HJ.out]) | (with_reducible refine wpl rfl (Stp.box 5 rfl rfl rfl H ?_); clear H; intro g5 w1 H; simp only [pS]; simp only [pE, nC, pS] at H) | (with_reducible refine wpl rfl (Stp.ldl rfl agg74 size74 rfl H mR (by simp) ?_); simp only [pS]; simp only [List.drop_succ_cons, List.drop_zero, List.take_succ_cons, List.take_zero]) | (with_reducible refine wpl rfl (Stp.alloc 7 rfl rfl zero74 H ?_); clear H; intro g7 w1 H; simp only [pS]; simp only [nC] at H) | (with_reducible refine wpl rfl (Stp.str rfl size74 rfl rfl (by first | rfl | (simp [Value.oneCell']; done) | assumption) H uP sZ sZ ?_); clear H; intro w1 H; simp only [pS]) | (with_reducible refine wpl rfl (Stp.ldc rfl agg4 rfl H mR cE ?_); simp only [pS]) | (with_reducible refine wpl rfl (Stp.ldc rfl agg3 rfl H mR cE ?_); simp only [pS]))
    refine rg_begin 12 rfl (S := fun W => St _ _ W (row 74 g7 #[.int .i64 kd, .int .u16 m1, .int .u32 m2, .int .u64 m3, .int .u64 (ms : Int), .int .u64 m5, .int .i64 m6, .int .u32 (mb.r : Int), .int .u16 (mb.w.1 : Int), .int .u32 (mb.w.2 : Int), .int .u32 (ma.r : Int), .int .u16 (ma.w.1 : Int), .int .u32 (ma.w.2 : Int), .bool mh, .int .i64 mc.kind, .int .u16 (mc.fr.1 : Int), .int .u32 (mc.fr.2 : Int), .int .u64 (mc.num : Int), .int .u64 (mc.vw : Int), .slice me.ba mc.data.length me.bc, .int .u64 (mc.v.id : Int), .slice me.ma mc.v.mem.length me.mc, .slice me.la mc.v.lvs.length me.lc, .slice me.da mc.v.ldr.length me.dc, .int .u64 (mv.id : Int), .slice mx.ma mv.mem.length mx.mc, .slice mx.la mv.lvs.length mx.lc, .slice mx.da mv.ldr.length mx.dc, .slice my m7 mz] :: row 76 g5 #[.int .i64 kind, .int .u64 (x.id : Int), .slice xa x.mem.length xc, .slice xl x.lvs.length xd, .slice xr x.ldr.length xe, .int .u64 (s0 : Int), .int .u16 (q.1 : Int), .int .u32 (q.2 : Int), .int .i64 kd, .int .u16 m1, .int .u32 m2, .int .u64 m3, .int .u64 (ms : Int), .int .u64 m5, .int .i64 m6, .int .u32 (mb.r : Int), .int .u16 (mb.w.1 : Int), .int .u32 (mb.w.2 : Int), .int .u32 (ma.r : Int), .int .u16 (ma.w.1 : Int), .int .u32 (ma.w.2 : Int), .bool mh, .int .i64 mc.kind, .int .u16 (mc.fr.1 : Int), .int .u32 (mc.fr.2 : Int), .int .u64 (mc.num : Int), .int .u64 (mc.vw : Int), .slice me.ba mc.data.length me.bc, .int .u64 (mc.v.id : Int), .slice me.ma mc.v.mem.length me.mc, .slice me.la mc.v.lvs.length me.lc, .slice me.da mc.v.ldr.length me.dc, .int .u64 (mv.id : Int), .slice mx.ma mv.mem.length mx.mc, .slice mx.la mv.lvs.length mx.lc, .slice mx.da mv.ldr.length mx.dc, .slice my m7 mz, .bool false, .int .i64 c.kind, .int .u16 (c.fr.1 : Int), .int .u32 (c.fr.2 : Int), .int .u64 (c.num : Int), .int .u64 (c.vw : Int), .slice h.ba c.data.length h.bc, .int .u64 (c.v.id : Int), .slice h.ma c.v.mem.length h.mc, .slice h.la c.v.lvs.length h.lc, .slice h.da c.v.ldr.length h.dc] :: [])) (by kernel_rfl) (H.drew.sub sU) ?_
    replace H := H.drew
    have HS := H
    refine rg_take (i := 0) rfl kR kR kR (Yld.move rfl rfl) (H.sub sU) ?_; simp only [pS, pE]
    refine rg_take (i := 1) rfl kR kR kR (Yld.o rfl) (H.sub sU) ?_; simp only [pS]
    first | (refine rg_take (i := 2) rfl kR kR kR (Yld.ldr rfl rfl agg36 size36 rfl mR sZ) (H.sub sU) ?_; simp only [pS]) | (refine rg_take (i := 2) rfl kR kR kR (Yld.ldl rfl rfl agg36 size36 rfl mR (by simp)) (H.sub sU) ?_; simp only [pS]; simp only [List.drop_succ_cons, List.drop_zero, List.take_succ_cons, List.take_zero]) | (refine rg_take (i := 2) rfl kR kR kR (Yld.ldor rfl rfl agg36 size36 rfl (by assumption) sZ (by assumption)) (H.sub sU) ?_; simp only [pS])
    first | (refine rg_take (i := 3) rfl kR kR kR (Yld.ldr rfl rfl agg74 size74 rfl mR sZ) (H.sub sU) ?_; simp only [pS]) | (refine rg_take (i := 3) rfl kR kR kR (Yld.ldl rfl rfl agg74 size74 rfl mR (by simp)) (H.sub sU) ?_; simp only [pS]; simp only [List.drop_succ_cons, List.drop_zero, List.take_succ_cons, List.take_zero]) | (refine rg_take (i := 3) rfl kR kR kR (Yld.ldor rfl rfl agg74 size74 rfl (by assumption) sZ (by assumption)) (H.sub sU) ?_; simp only [pS])
    refine rg_take (i := 5) rfl kR kR kR (Yld.move rfl rfl) (H.sub sU) ?_; simp only [pS, pE]
    refine rg_take (i := 6) rfl kR kR kR (Yld.o rfl) (H.sub sU) ?_; simp only [pS]
    first | (refine rg_take (i := 7) rfl kR kR kR (Yld.ldr rfl rfl agg36 size36 rfl mR sZ) (H.sub sU) ?_; simp only [pS]) | (refine rg_take (i := 7) rfl kR kR kR (Yld.ldl rfl rfl agg36 size36 rfl mR (by simp)) (H.sub sU) ?_; simp only [pS]; simp only [List.drop_succ_cons, List.drop_zero, List.take_succ_cons, List.take_zero]) | (refine rg_take (i := 7) rfl kR kR kR (Yld.ldor rfl rfl agg36 size36 rfl (by assumption) sZ (by assumption)) (H.sub sU) ?_; simp only [pS])
    first | (refine rg_take (i := 8) rfl kR kR kR (Yld.ldr rfl rfl agg74 size74 rfl mR sZ) (H.sub sU) ?_; simp only [pS]) | (refine rg_take (i := 8) rfl kR kR kR (Yld.ldl rfl rfl agg74 size74 rfl mR (by simp)) (H.sub sU) ?_; simp only [pS]; simp only [List.drop_succ_cons, List.drop_zero, List.take_succ_cons, List.take_zero]) | (refine rg_take (i := 8) rfl kR kR kR (Yld.ldor rfl rfl agg74 size74 rfl (by assumption) sZ (by assumption)) (H.sub sU) ?_; simp only [pS])
    refine rg_one (i := 4) (by kernel_rfl) rfl rfl (fun K hK => ?_)
    refine wp_callf rfl ent41 (rprom_ok gp sf d R HR.out HW.out q kd m1 m2 m3 m5 m6 ms mb ma mh mc me mv mx my m7 mz HA1.out HA2.out HMC.out (HXM.out _) _ (H.pull (r := R) pU)) rfl (fun v w1 hr => ?_)
    obtain ⟨r1, d1, HD, rfl, R1, hR1, H2⟩ := hr
    clear H
    have H := H2
    have HR1 := Lib.hid hR1
    clear H2 hR1
    clear HS
    have HS := H
    refine hK.out _ _ (H.sub sU) ?_
    clear hK K
    simp only [pS]
    refine rg_one (i := 9) (by kernel_rfl) rfl rfl (fun K hK => ?_)
    refine wp_callf rfl ent71 (xprom_ok gx m q kd m1 m2 m3 m5 m6 ms mb ma mh mc me mv mx my m7 mz HMC.out (HXM.out _) hmm _ (XaR.mk se sn bl ph la lc ld sl hs un c0 hd aa ac an HI.out) _ (((H.pull (r := slc 36 2 (.slice aa an.length ac) an.length (pv an)) pU).pull (r := row 69 gx #[.int .u16 (se.1 : Int), .int .u32 (se.2 : Int), .int .u32 (sn.r : Int), .int .u16 (sn.w.1 : Int), .int .u32 (sn.w.2 : Int), .int .u32 (bl.r : Int), .int .u16 (bl.w.1 : Int), .int .u32 (bl.w.2 : Int), .int .i64 ph, .slice la ld.length lc, .int .u64 (sl : Int), .bool hs, .int .u32 (un.r : Int), .int .u16 (un.w.1 : Int), .int .u32 (un.w.2 : Int), .int .i64 c0.kind, .int .u16 (c0.fr.1 : Int), .int .u32 (c0.fr.2 : Int), .int .u64 (c0.num : Int), .int .u64 (c0.vw : Int), .slice hd.ba c0.data.length hd.bc, .int .u64 (c0.v.id : Int), .slice hd.ma c0.v.mem.length hd.mc, .slice hd.la c0.v.lvs.length hd.lc, .slice hd.da c0.v.ldr.length hd.dc, .slice aa an.length ac]) pU).sep)) rfl (fun v w1 hr => ?_)
    obtain ⟨r2, rfl, X2, hX2, H2⟩ := hr
    clear H
    have H := H2
    have HX2 := Lib.hid hX2
    clear H2 hX2
    clear HS
    have HS := H
    refine hK.out _ _ (H.sub sU) ?_
    clear hK K
    simp only [pS]
    refine rg_take (i := 10) rfl kR kR kR (Yld.eqB4 rfl rfl rfl rfl) (H.sub sU) ?_; simp only [pS, pE]
    refine rg_take (i := 11) rfl kR kR kR (Yld.assign rfl rfl) (H.sub sU) ?_; simp only [pS, pE]
    refine rg_done (by kernel_rfl) ?_
    go_wp2_with fail
    go_ret
    exact ⟨_, rfl, _, rfl, d1, Lib.hid ⟨HW.out.prom HA1.out HA2.out HMC.out HD.out, Mv.prom HD.out, (by intro hq; omega)⟩, R1, HR1.out, X2, HX2.out, ((H.pull (r := X2) pU).pull (r := R1) pU).sub sU⟩
  · go_enter Try.func32, Try.ntmps32
    go_wp2_with (first | (go_at_call 34; (with_reducible refine (pick_mod _ _ 10 (by omega) (by omega) (by omega) _).mono ?_); rintro e w1 ⟨v, rfl, hr⟩; obtain ⟨rfl, hb1⟩ := hr; replace H := H.grow hb1; clear hb1; rw [HJ.out]) | (with_reducible refine wpl rfl (Stp.box 5 rfl rfl rfl H ?_); clear H; intro g5 w1 H; simp only [pS]; simp only [pE, nC, pS] at H) | (with_reducible refine wpl rfl (Stp.ldl rfl agg74 size74 rfl H mR (by simp) ?_); simp only [pS]; simp only [List.drop_succ_cons, List.drop_zero, List.take_succ_cons, List.take_zero]) | (with_reducible refine wpl rfl (Stp.alloc 7 rfl rfl zero74 H ?_); clear H; intro g7 w1 H; simp only [pS]; simp only [nC] at H) | (with_reducible refine wpl rfl (Stp.str rfl size74 rfl rfl (by first | rfl | (simp [Value.oneCell']; done) | assumption) H uP sZ sZ ?_); clear H; intro w1 H; simp only [pS]) | (with_reducible refine wpl rfl (Stp.ldc rfl agg4 rfl H mR cE ?_); simp only [pS]) | (with_reducible refine wpl rfl (Stp.ldc rfl agg3 rfl H mR cE ?_); simp only [pS]))
    refine rg_begin 12 rfl (S := fun W => St _ _ W (row 74 g7 #[.int .i64 kd, .int .u16 m1, .int .u32 m2, .int .u64 m3, .int .u64 (ms : Int), .int .u64 m5, .int .i64 m6, .int .u32 (mb.r : Int), .int .u16 (mb.w.1 : Int), .int .u32 (mb.w.2 : Int), .int .u32 (ma.r : Int), .int .u16 (ma.w.1 : Int), .int .u32 (ma.w.2 : Int), .bool mh, .int .i64 mc.kind, .int .u16 (mc.fr.1 : Int), .int .u32 (mc.fr.2 : Int), .int .u64 (mc.num : Int), .int .u64 (mc.vw : Int), .slice me.ba mc.data.length me.bc, .int .u64 (mc.v.id : Int), .slice me.ma mc.v.mem.length me.mc, .slice me.la mc.v.lvs.length me.lc, .slice me.da mc.v.ldr.length me.dc, .int .u64 (mv.id : Int), .slice mx.ma mv.mem.length mx.mc, .slice mx.la mv.lvs.length mx.lc, .slice mx.da mv.ldr.length mx.dc, .slice my m7 mz] :: row 76 g5 #[.int .i64 kind, .int .u64 (x.id : Int), .slice xa x.mem.length xc, .slice xl x.lvs.length xd, .slice xr x.ldr.length xe, .int .u64 (s0 : Int), .int .u16 (q.1 : Int), .int .u32 (q.2 : Int), .int .i64 kd, .int .u16 m1, .int .u32 m2, .int .u64 m3, .int .u64 (ms : Int), .int .u64 m5, .int .i64 m6, .int .u32 (mb.r : Int), .int .u16 (mb.w.1 : Int), .int .u32 (mb.w.2 : Int), .int .u32 (ma.r : Int), .int .u16 (ma.w.1 : Int), .int .u32 (ma.w.2 : Int), .bool mh, .int .i64 mc.kind, .int .u16 (mc.fr.1 : Int), .int .u32 (mc.fr.2 : Int), .int .u64 (mc.num : Int), .int .u64 (mc.vw : Int), .slice me.ba mc.data.length me.bc, .int .u64 (mc.v.id : Int), .slice me.ma mc.v.mem.length me.mc, .slice me.la mc.v.lvs.length me.lc, .slice me.da mc.v.ldr.length me.dc, .int .u64 (mv.id : Int), .slice mx.ma mv.mem.length mx.mc, .slice mx.la mv.lvs.length mx.lc, .slice mx.da mv.ldr.length mx.dc, .slice my m7 mz, .bool false, .int .i64 c.kind, .int .u16 (c.fr.1 : Int), .int .u32 (c.fr.2 : Int), .int .u64 (c.num : Int), .int .u64 (c.vw : Int), .slice h.ba c.data.length h.bc, .int .u64 (c.v.id : Int), .slice h.ma c.v.mem.length h.mc, .slice h.la c.v.lvs.length h.lc, .slice h.da c.v.ldr.length h.dc] :: [])) (by kernel_rfl) (H.drew.sub sU) ?_
    replace H := H.drew
    have HS := H
    refine rg_take (i := 0) rfl kR kR kR (Yld.move rfl rfl) (H.sub sU) ?_; simp only [pS, pE]
    refine rg_take (i := 1) rfl kR kR kR (Yld.o rfl) (H.sub sU) ?_; simp only [pS]
    first | (refine rg_take (i := 2) rfl kR kR kR (Yld.ldr rfl rfl agg36 size36 rfl mR sZ) (H.sub sU) ?_; simp only [pS]) | (refine rg_take (i := 2) rfl kR kR kR (Yld.ldl rfl rfl agg36 size36 rfl mR (by simp)) (H.sub sU) ?_; simp only [pS]; simp only [List.drop_succ_cons, List.drop_zero, List.take_succ_cons, List.take_zero]) | (refine rg_take (i := 2) rfl kR kR kR (Yld.ldor rfl rfl agg36 size36 rfl (by assumption) sZ (by assumption)) (H.sub sU) ?_; simp only [pS])
    first | (refine rg_take (i := 3) rfl kR kR kR (Yld.ldr rfl rfl agg74 size74 rfl mR sZ) (H.sub sU) ?_; simp only [pS]) | (refine rg_take (i := 3) rfl kR kR kR (Yld.ldl rfl rfl agg74 size74 rfl mR (by simp)) (H.sub sU) ?_; simp only [pS]; simp only [List.drop_succ_cons, List.drop_zero, List.take_succ_cons, List.take_zero]) | (refine rg_take (i := 3) rfl kR kR kR (Yld.ldor rfl rfl agg74 size74 rfl (by assumption) sZ (by assumption)) (H.sub sU) ?_; simp only [pS])
    refine rg_take (i := 5) rfl kR kR kR (Yld.move rfl rfl) (H.sub sU) ?_; simp only [pS, pE]
    refine rg_take (i := 6) rfl kR kR kR (Yld.o rfl) (H.sub sU) ?_; simp only [pS]
    first | (refine rg_take (i := 7) rfl kR kR kR (Yld.ldr rfl rfl agg36 size36 rfl mR sZ) (H.sub sU) ?_; simp only [pS]) | (refine rg_take (i := 7) rfl kR kR kR (Yld.ldl rfl rfl agg36 size36 rfl mR (by simp)) (H.sub sU) ?_; simp only [pS]; simp only [List.drop_succ_cons, List.drop_zero, List.take_succ_cons, List.take_zero]) | (refine rg_take (i := 7) rfl kR kR kR (Yld.ldor rfl rfl agg36 size36 rfl (by assumption) sZ (by assumption)) (H.sub sU) ?_; simp only [pS])
    first | (refine rg_take (i := 8) rfl kR kR kR (Yld.ldr rfl rfl agg74 size74 rfl mR sZ) (H.sub sU) ?_; simp only [pS]) | (refine rg_take (i := 8) rfl kR kR kR (Yld.ldl rfl rfl agg74 size74 rfl mR (by simp)) (H.sub sU) ?_; simp only [pS]; simp only [List.drop_succ_cons, List.drop_zero, List.take_succ_cons, List.take_zero]) | (refine rg_take (i := 8) rfl kR kR kR (Yld.ldor rfl rfl agg74 size74 rfl (by assumption) sZ (by assumption)) (H.sub sU) ?_; simp only [pS])
    refine rg_one (i := 4) (by kernel_rfl) rfl rfl (fun K hK => ?_)
    refine wp_callf rfl ent41 (rprom_ok gp sf d R HR.out HW.out q kd m1 m2 m3 m5 m6 ms mb ma mh mc me mv mx my m7 mz HA1.out HA2.out HMC.out (HXM.out _) _ (H.pull (r := R) pU)) rfl (fun v w1 hr => ?_)
    obtain ⟨r1, d1, HD, rfl, R1, hR1, H2⟩ := hr
    clear H
    have H := H2
    have HR1 := Lib.hid hR1
    clear H2 hR1
    clear HS
    have HS := H
    refine hK.out _ _ (H.sub sU) ?_
    clear hK K
    simp only [pS]
    refine rg_one (i := 9) (by kernel_rfl) rfl rfl (fun K hK => ?_)
    refine wp_callf rfl ent71 (xprom_ok gx m q kd m1 m2 m3 m5 m6 ms mb ma mh mc me mv mx my m7 mz HMC.out (HXM.out _) hmm _ (XaR.mk se sn bl ph la lc ld sl hs un c0 hd aa ac an HI.out) _ (((H.pull (r := slc 36 2 (.slice aa an.length ac) an.length (pv an)) pU).pull (r := row 69 gx #[.int .u16 (se.1 : Int), .int .u32 (se.2 : Int), .int .u32 (sn.r : Int), .int .u16 (sn.w.1 : Int), .int .u32 (sn.w.2 : Int), .int .u32 (bl.r : Int), .int .u16 (bl.w.1 : Int), .int .u32 (bl.w.2 : Int), .int .i64 ph, .slice la ld.length lc, .int .u64 (sl : Int), .bool hs, .int .u32 (un.r : Int), .int .u16 (un.w.1 : Int), .int .u32 (un.w.2 : Int), .int .i64 c0.kind, .int .u16 (c0.fr.1 : Int), .int .u32 (c0.fr.2 : Int), .int .u64 (c0.num : Int), .int .u64 (c0.vw : Int), .slice hd.ba c0.data.length hd.bc, .int .u64 (c0.v.id : Int), .slice hd.ma c0.v.mem.length hd.mc, .slice hd.la c0.v.lvs.length hd.lc, .slice hd.da c0.v.ldr.length hd.dc, .slice aa an.length ac]) pU).sep)) rfl (fun v w1 hr => ?_)
    obtain ⟨r2, rfl, X2, hX2, H2⟩ := hr
    clear H
    have H := H2
    have HX2 := Lib.hid hX2
    clear H2 hX2
    clear HS
    have HS := H
    refine hK.out _ _ (H.sub sU) ?_
    clear hK K
    simp only [pS]
    refine rg_take (i := 10) rfl kR kR kR (Yld.eqB4 rfl rfl rfl rfl) (H.sub sU) ?_; simp only [pS, pE]
    refine rg_take (i := 11) rfl kR kR kR (Yld.assign rfl rfl) (H.sub sU) ?_; simp only [pS, pE]
    refine rg_done (by kernel_rfl) ?_
    go_wp2_with fail
    go_ret
    exact ⟨_, rfl, _, rfl, d1, Lib.hid ⟨HW.out.prom HA1.out HA2.out HMC.out HD.out, Mv.prom HD.out, (by intro hq; omega)⟩, R1, HR1.out, X2, HX2.out, ((H.pull (r := X2) pU).pull (r := R1) pU).sub sU⟩

theorem do21_prom1 {B : Nat} {w0 : World} {L : List Res} {G1 : Nat → Prop} (gp gx : Nat) (sf : Pr) (d : Pd) (R : Res) (hR : ProR gp sf d R) (hw : Pw d) (hf1 : sf.1 < 65536) (hf2 : sf.2 < 4294967296)
    (m : Nat) (hmm : m ≤ 1000) (se : Pr) (sn bl : Bl) (ph : Int) (la : Option Addr) (lc : Nat) (ld : List Pr) (sl : Nat) (hs : Bool) (un : Bl) (c0 : Cm) (hd : Hd) (aa : Option Addr) (ac : Nat) (an : List Pr) (hI : XI B w0 G1 m sn la lc ld c0 hd an)
    (kind : Int) (x : Vw) (xa xl xr : Option Addr) (xc xd xe : Nat) (s0 : Nat) (q : Pr) (kd m1 m2 m3 m5 m6 : Int) (ms : Nat) (mb ma : Bl) (mh : Bool) (mc : Cm) (me : Hd) (mv : Vw) (mx : Hd) (my : Option Addr) (m7 mz : Nat) (c : Cm) (h : Hd)
    (hsm : smV x) (hwx : wfV x) (hld : x.ldr.length < 1000) (hvx : ∀ L, Rd B w0 L fun W => VwG G1 W (.slice xa x.mem.length xc) (.slice xl x.lvs.length xd) (.slice xr x.ldr.length xe) x) (hs0 : s0 < 18446744073709551616)
    (hb0 : mb.r < 4294967296) (hb1 : mb.w.1 < 65536) (hb2 : mb.w.2 < 4294967296) (ha1 : ma.w.1 < 65536) (ha2 : ma.w.2 < 4294967296) (hmc : smC mc) (hxm : ∀ L, Rd B w0 L fun W => CmG G1 W (.slice me.ba mc.data.length me.bc) (.slice me.ma mc.v.mem.length me.mc) (.slice me.la mc.v.lvs.length me.lc) (.slice me.da mc.v.ldr.length me.dc) mc)
    (hcs : smC c) (hcw : wfC c) (hxc : ∀ L, Rd B w0 L fun W => CmG G1 W (.slice h.ba c.data.length h.bc) (.slice h.ma c.v.mem.length h.mc) (.slice h.la c.v.lvs.length h.lc) (.slice h.da c.v.ldr.length h.dc) c) (j : Nat) (hj : (kind % ((10 : Nat) : Int)).toNat = j) (hjj : j = 1 ∨ j = 2) (w : World) (H : St B w0 w (row 69 gx #[.int .u16 (se.1 : Int), .int .u32 (se.2 : Int), .int .u32 (sn.r : Int), .int .u16 (sn.w.1 : Int), .int .u32 (sn.w.2 : Int), .int .u32 (bl.r : Int), .int .u16 (bl.w.1 : Int), .int .u32 (bl.w.2 : Int), .int .i64 ph, .slice la ld.length lc, .int .u64 (sl : Int), .bool hs, .int .u32 (un.r : Int), .int .u16 (un.w.1 : Int), .int .u32 (un.w.2 : Int), .int .i64 c0.kind, .int .u16 (c0.fr.1 : Int), .int .u32 (c0.fr.2 : Int), .int .u64 (c0.num : Int), .int .u64 (c0.vw : Int), .slice hd.ba c0.data.length hd.bc, .int .u64 (c0.v.id : Int), .slice hd.ma c0.v.mem.length hd.mc, .slice hd.la c0.v.lvs.length hd.lc, .slice hd.da c0.v.ldr.length hd.dc, .slice aa an.length ac] :: slc 36 2 (.slice aa an.length ac) an.length (pv an) :: R :: L)) :
    Calls Try.prog 32 #[.pointer (some ⟨gp, 0, none⟩), .pointer (some ⟨gx, 0, none⟩), .agg #[.int .i64 kind, .int .u64 (x.id : Int), .slice xa x.mem.length xc, .slice xl x.lvs.length xd, .slice xr x.ldr.length xe, .int .u64 (s0 : Int), .int .u16 (q.1 : Int), .int .u32 (q.2 : Int), .int .i64 kd, .int .u16 m1, .int .u32 m2, .int .u64 m3, .int .u64 (ms : Int), .int .u64 m5, .int .i64 m6, .int .u32 (mb.r : Int), .int .u16 (mb.w.1 : Int), .int .u32 (mb.w.2 : Int), .int .u32 (ma.r : Int), .int .u16 (ma.w.1 : Int), .int .u32 (ma.w.2 : Int), .bool mh, .int .i64 mc.kind, .int .u16 (mc.fr.1 : Int), .int .u32 (mc.fr.2 : Int), .int .u64 (mc.num : Int), .int .u64 (mc.vw : Int), .slice me.ba mc.data.length me.bc, .int .u64 (mc.v.id : Int), .slice me.ma mc.v.mem.length me.mc, .slice me.la mc.v.lvs.length me.lc, .slice me.da mc.v.ldr.length me.dc, .int .u64 (mv.id : Int), .slice mx.ma mv.mem.length mx.mc, .slice mx.la mv.lvs.length mx.lc, .slice mx.da mv.ldr.length mx.dc, .slice my m7 mz, .bool true, .int .i64 c.kind, .int .u16 (c.fr.1 : Int), .int .u32 (c.fr.2 : Int), .int .u64 (c.num : Int), .int .u64 (c.vw : Int), .slice h.ba c.data.length h.bc, .int .u64 (c.v.id : Int), .slice h.ma c.v.mem.length h.mc, .slice h.la c.v.lvs.length h.lc, .slice h.da c.v.ldr.length h.dc]] w (Ret fun v w' => ∃ e : Bool, v = .bool e ∧ DX B w0 G1 w' gp gx sf d (m + 1) mb j L) := by
  have HR := Lib.hid hR
  have HW := Lib.hid hw
  have HF1 := Lib.hid hf1
  have HF2 := Lib.hid hf2
  have HI := Lib.hid hI
  have HSM := Lib.hid hsm
  have HWX := Lib.hid hwx
  have HLD := Lib.hid hld
  have HVX := Lib.hid hvx
  have HS0 := Lib.hid hs0
  have HB0 := Lib.hid hb0
  have HB1 := Lib.hid hb1
  have HB2 := Lib.hid hb2
  have HA1 := Lib.hid ha1
  have HA2 := Lib.hid ha2
  have HMC := Lib.hid hmc
  have HXM := Lib.hid hxm
  have HCS := Lib.hid hcs
  have HCW := Lib.hid hcw
  have HXC := Lib.hid hxc
  have HJ := Lib.hid hj
  clear hR hw hf1 hf2 hI hsm hwx hld hvx hs0 hb0 hb1 hb2 ha1 ha2 hmc hxm hcs hcw hxc hj
  rcases hjj with rfl | rfl
  · go_enter Try.func32, Try.ntmps32
    go_wp2_with (first | (go_at_call 34; (with_reducible refine (pick_mod _ _ 10 (by omega) (by omega) (by omega) _).mono ?_); rintro e w1 ⟨v, rfl, hr⟩; obtain ⟨rfl, hb1⟩ := hr; replace H := H.grow hb1; clear hb1; rw [HJ.out]) | (with_reducible refine wpl rfl (Stp.box 5 rfl rfl rfl H ?_); clear H; intro g5 w1 H; simp only [pS]; simp only [pE, nC, pS] at H) | (with_reducible refine wpl rfl (Stp.ldl rfl agg74 size74 rfl H mR (by simp) ?_); simp only [pS]; simp only [List.drop_succ_cons, List.drop_zero, List.take_succ_cons, List.take_zero]) | (with_reducible refine wpl rfl (Stp.alloc 7 rfl rfl zero74 H ?_); clear H; intro g7 w1 H; simp only [pS]; simp only [nC] at H) | (with_reducible refine wpl rfl (Stp.str rfl size74 rfl rfl (by first | rfl | (simp [Value.oneCell']; done) | assumption) H uP sZ sZ ?_); clear H; intro w1 H; simp only [pS]) | (with_reducible refine wpl rfl (Stp.ldc rfl agg4 rfl H mR cE ?_); simp only [pS]) | (with_reducible refine wpl rfl (Stp.ldc rfl agg22 rfl H mR cE ?_); simp only [pS]) | (with_reducible refine wpl rfl (Stp.stc rfl size22 rfl rfl rfl rfl H uP (by first | omega | (simp; done) | (simp; omega)) ?_); clear H; intro w1 H; simp only [pS]; simp only [pE, nC, pS] at H) | (with_reducible refine wpl rfl (Stp.ldl rfl agg67 size67 rfl H mR (by simp) ?_); simp only [pS]; simp only [List.drop_succ_cons, List.drop_zero, List.take_succ_cons, List.take_zero]) | (with_reducible refine wpl rfl (Stp.stl rfl size67 rfl rfl rfl rfl H uP (by simp) ?_); clear H; intro w1 H; simp only [pS]; simp only [List.drop_succ_cons, List.drop_zero, List.take_succ_cons, List.take_zero, List.nil_append, List.cons_append, Nat.reduceAdd] at H) | (with_reducible refine wpl rfl (Stp.ldc rfl agg3 rfl H mR cE ?_); simp only [pS]))
    refine rg_begin 12 rfl (S := fun W => St _ _ W (row 74 g7 #[.int .i64 kd, .int .u16 m1, .int .u32 m2, .int .u64 m3, .int .u64 (sl : Int), .int .u64 m5, .int .i64 m6, .int .u32 (bl.r : Int), .int .u16 (bl.w.1 : Int), .int .u32 (bl.w.2 : Int), .int .u32 (ma.r : Int), .int .u16 (ma.w.1 : Int), .int .u32 (ma.w.2 : Int), .bool mh, .int .i64 mc.kind, .int .u16 (mc.fr.1 : Int), .int .u32 (mc.fr.2 : Int), .int .u64 (mc.num : Int), .int .u64 (mc.vw : Int), .slice me.ba mc.data.length me.bc, .int .u64 (mc.v.id : Int), .slice me.ma mc.v.mem.length me.mc, .slice me.la mc.v.lvs.length me.lc, .slice me.da mc.v.ldr.length me.dc, .int .u64 (mv.id : Int), .slice mx.ma mv.mem.length mx.mc, .slice mx.la mv.lvs.length mx.lc, .slice mx.da mv.ldr.length mx.dc, .slice my m7 mz] :: row 76 g5 #[.int .i64 kind, .int .u64 (x.id : Int), .slice xa x.mem.length xc, .slice xl x.lvs.length xd, .slice xr x.ldr.length xe, .int .u64 (s0 : Int), .int .u16 (q.1 : Int), .int .u32 (q.2 : Int), .int .i64 kd, .int .u16 m1, .int .u32 m2, .int .u64 m3, .int .u64 (ms : Int), .int .u64 m5, .int .i64 m6, .int .u32 (mb.r : Int), .int .u16 (mb.w.1 : Int), .int .u32 (mb.w.2 : Int), .int .u32 (ma.r : Int), .int .u16 (ma.w.1 : Int), .int .u32 (ma.w.2 : Int), .bool mh, .int .i64 mc.kind, .int .u16 (mc.fr.1 : Int), .int .u32 (mc.fr.2 : Int), .int .u64 (mc.num : Int), .int .u64 (mc.vw : Int), .slice me.ba mc.data.length me.bc, .int .u64 (mc.v.id : Int), .slice me.ma mc.v.mem.length me.mc, .slice me.la mc.v.lvs.length me.lc, .slice me.da mc.v.ldr.length me.dc, .int .u64 (mv.id : Int), .slice mx.ma mv.mem.length mx.mc, .slice mx.la mv.lvs.length mx.lc, .slice mx.da mv.ldr.length mx.dc, .slice my m7 mz, .bool true, .int .i64 c.kind, .int .u16 (c.fr.1 : Int), .int .u32 (c.fr.2 : Int), .int .u64 (c.num : Int), .int .u64 (c.vw : Int), .slice h.ba c.data.length h.bc, .int .u64 (c.v.id : Int), .slice h.ma c.v.mem.length h.mc, .slice h.la c.v.lvs.length h.lc, .slice h.da c.v.ldr.length h.dc] :: [])) (by kernel_rfl) (H.drew.sub sU) ?_
    replace H := H.drew
    have HS := H
    refine rg_take (i := 0) rfl kR kR kR (Yld.move rfl rfl) (H.sub sU) ?_; simp only [pS, pE]
    refine rg_take (i := 1) rfl kR kR kR (Yld.o rfl) (H.sub sU) ?_; simp only [pS]
    first | (refine rg_take (i := 2) rfl kR kR kR (Yld.ldr rfl rfl agg36 size36 rfl mR sZ) (H.sub sU) ?_; simp only [pS]) | (refine rg_take (i := 2) rfl kR kR kR (Yld.ldl rfl rfl agg36 size36 rfl mR (by simp)) (H.sub sU) ?_; simp only [pS]; simp only [List.drop_succ_cons, List.drop_zero, List.take_succ_cons, List.take_zero]) | (refine rg_take (i := 2) rfl kR kR kR (Yld.ldor rfl rfl agg36 size36 rfl (by assumption) sZ (by assumption)) (H.sub sU) ?_; simp only [pS])
    first | (refine rg_take (i := 3) rfl kR kR kR (Yld.ldr rfl rfl agg74 size74 rfl mR sZ) (H.sub sU) ?_; simp only [pS]) | (refine rg_take (i := 3) rfl kR kR kR (Yld.ldl rfl rfl agg74 size74 rfl mR (by simp)) (H.sub sU) ?_; simp only [pS]; simp only [List.drop_succ_cons, List.drop_zero, List.take_succ_cons, List.take_zero]) | (refine rg_take (i := 3) rfl kR kR kR (Yld.ldor rfl rfl agg74 size74 rfl (by assumption) sZ (by assumption)) (H.sub sU) ?_; simp only [pS])
    refine rg_take (i := 5) rfl kR kR kR (Yld.move rfl rfl) (H.sub sU) ?_; simp only [pS, pE]
    refine rg_take (i := 6) rfl kR kR kR (Yld.o rfl) (H.sub sU) ?_; simp only [pS]
    first | (refine rg_take (i := 7) rfl kR kR kR (Yld.ldr rfl rfl agg36 size36 rfl mR sZ) (H.sub sU) ?_; simp only [pS]) | (refine rg_take (i := 7) rfl kR kR kR (Yld.ldl rfl rfl agg36 size36 rfl mR (by simp)) (H.sub sU) ?_; simp only [pS]; simp only [List.drop_succ_cons, List.drop_zero, List.take_succ_cons, List.take_zero]) | (refine rg_take (i := 7) rfl kR kR kR (Yld.ldor rfl rfl agg36 size36 rfl (by assumption) sZ (by assumption)) (H.sub sU) ?_; simp only [pS])
    first | (refine rg_take (i := 8) rfl kR kR kR (Yld.ldr rfl rfl agg74 size74 rfl mR sZ) (H.sub sU) ?_; simp only [pS]) | (refine rg_take (i := 8) rfl kR kR kR (Yld.ldl rfl rfl agg74 size74 rfl mR (by simp)) (H.sub sU) ?_; simp only [pS]; simp only [List.drop_succ_cons, List.drop_zero, List.take_succ_cons, List.take_zero]) | (refine rg_take (i := 8) rfl kR kR kR (Yld.ldor rfl rfl agg74 size74 rfl (by assumption) sZ (by assumption)) (H.sub sU) ?_; simp only [pS])
    refine rg_one (i := 4) (by kernel_rfl) rfl rfl (fun K hK => ?_)
    refine wp_callf rfl ent41 (rprom_ok gp sf d R HR.out HW.out q kd m1 m2 m3 m5 m6 sl bl ma mh mc me mv mx my m7 mz HA1.out HA2.out HMC.out (HXM.out _) _ (H.pull (r := R) pU)) rfl (fun v w1 hr => ?_)
    obtain ⟨r1, d1, HD, rfl, R1, hR1, H2⟩ := hr
    clear H
    have H := H2
    have HR1 := Lib.hid hR1
    clear H2 hR1
    clear HS
    have HS := H
    refine hK.out _ _ (H.sub sU) ?_
    clear hK K
    simp only [pS]
    refine rg_one (i := 9) (by kernel_rfl) rfl rfl (fun K hK => ?_)
    refine wp_callf rfl ent71 (xprom_ok gx m q kd m1 m2 m3 m5 m6 sl bl ma mh mc me mv mx my m7 mz HMC.out (HXM.out _) hmm _ (XaR.mk se sn bl ph la lc ld sl hs un c0 hd aa ac an HI.out) _ (((H.pull (r := slc 36 2 (.slice aa an.length ac) an.length (pv an)) pU).pull (r := row 69 gx #[.int .u16 (se.1 : Int), .int .u32 (se.2 : Int), .int .u32 (sn.r : Int), .int .u16 (sn.w.1 : Int), .int .u32 (sn.w.2 : Int), .int .u32 (bl.r : Int), .int .u16 (bl.w.1 : Int), .int .u32 (bl.w.2 : Int), .int .i64 ph, .slice la ld.length lc, .int .u64 (sl : Int), .bool hs, .int .u32 (un.r : Int), .int .u16 (un.w.1 : Int), .int .u32 (un.w.2 : Int), .int .i64 c0.kind, .int .u16 (c0.fr.1 : Int), .int .u32 (c0.fr.2 : Int), .int .u64 (c0.num : Int), .int .u64 (c0.vw : Int), .slice hd.ba c0.data.length hd.bc, .int .u64 (c0.v.id : Int), .slice hd.ma c0.v.mem.length hd.mc, .slice hd.la c0.v.lvs.length hd.lc, .slice hd.da c0.v.ldr.length hd.dc, .slice aa an.length ac]) pU).sep)) rfl (fun v w1 hr => ?_)
    obtain ⟨r2, rfl, X2, hX2, H2⟩ := hr
    clear H
    have H := H2
    have HX2 := Lib.hid hX2
    clear H2 hX2
    clear HS
    have HS := H
    refine hK.out _ _ (H.sub sU) ?_
    clear hK K
    simp only [pS]
    refine rg_take (i := 10) rfl kR kR kR (Yld.eqB4 rfl rfl rfl rfl) (H.sub sU) ?_; simp only [pS, pE]
    refine rg_take (i := 11) rfl kR kR kR (Yld.assign rfl rfl) (H.sub sU) ?_; simp only [pS, pE]
    refine rg_done (by kernel_rfl) ?_
    go_wp2_with fail
    go_ret
    exact ⟨_, rfl, _, rfl, d1, Lib.hid ⟨HW.out.prom HA1.out HA2.out HMC.out HD.out, Mv.prom HD.out, (by intro hq; omega)⟩, R1, HR1.out, X2, HX2.out, ((H.pull (r := X2) pU).pull (r := R1) pU).sub sU⟩
  · go_enter Try.func32, Try.ntmps32
    go_wp2_with (first | (go_at_call 34; (with_reducible refine (pick_mod _ _ 10 (by omega) (by omega) (by omega) _).mono ?_); rintro e w1 ⟨v, rfl, hr⟩; obtain ⟨rfl, hb1⟩ := hr; replace H := H.grow hb1; clear hb1; rw [HJ.out]) | (with_reducible refine wpl rfl (Stp.box 5 rfl rfl rfl H ?_); clear H; intro g5 w1 H; simp only [pS]; simp only [pE, nC, pS] at H) | (with_reducible refine wpl rfl (Stp.ldl rfl agg74 size74 rfl H mR (by simp) ?_); simp only [pS]; simp only [List.drop_succ_cons, List.drop_zero, List.take_succ_cons, List.take_zero]) | (with_reducible refine wpl rfl (Stp.alloc 7 rfl rfl zero74 H ?_); clear H; intro g7 w1 H; simp only [pS]; simp only [nC] at H) | (with_reducible refine wpl rfl (Stp.str rfl size74 rfl rfl (by first | rfl | (simp [Value.oneCell']; done) | assumption) H uP sZ sZ ?_); clear H; intro w1 H; simp only [pS]) | (with_reducible refine wpl rfl (Stp.ldc rfl agg4 rfl H mR cE ?_); simp only [pS]) | (with_reducible refine wpl rfl (Stp.ldc rfl agg22 rfl H mR cE ?_); simp only [pS]) | (with_reducible refine wpl rfl (Stp.stc rfl size22 rfl rfl rfl rfl H uP (by first | omega | (simp; done) | (simp; omega)) ?_); clear H; intro w1 H; simp only [pS]; simp only [pE, nC, pS] at H) | (with_reducible refine wpl rfl (Stp.ldl rfl agg67 size67 rfl H mR (by simp) ?_); simp only [pS]; simp only [List.drop_succ_cons, List.drop_zero, List.take_succ_cons, List.take_zero]) | (with_reducible refine wpl rfl (Stp.stl rfl size67 rfl rfl rfl rfl H uP (by simp) ?_); clear H; intro w1 H; simp only [pS]; simp only [List.drop_succ_cons, List.drop_zero, List.take_succ_cons, List.take_zero, List.nil_append, List.cons_append, Nat.reduceAdd] at H) | (with_reducible refine wpl rfl (Stp.ldc rfl agg3 rfl H mR cE ?_); simp only [pS]))
    refine rg_begin 12 rfl (S := fun W => St _ _ W (row 74 g7 #[.int .i64 kd, .int .u16 m1, .int .u32 m2, .int .u64 m3, .int .u64 (sl : Int), .int .u64 m5, .int .i64 m6, .int .u32 (bl.r : Int), .int .u16 (bl.w.1 : Int), .int .u32 (bl.w.2 : Int), .int .u32 (ma.r : Int), .int .u16 (ma.w.1 : Int), .int .u32 (ma.w.2 : Int), .bool mh, .int .i64 mc.kind, .int .u16 (mc.fr.1 : Int), .int .u32 (mc.fr.2 : Int), .int .u64 (mc.num : Int), .int .u64 (mc.vw : Int), .slice me.ba mc.data.length me.bc, .int .u64 (mc.v.id : Int), .slice me.ma mc.v.mem.length me.mc, .slice me.la mc.v.lvs.length me.lc, .slice me.da mc.v.ldr.length me.dc, .int .u64 (mv.id : Int), .slice mx.ma mv.mem.length mx.mc, .slice mx.la mv.lvs.length mx.lc, .slice mx.da mv.ldr.length mx.dc, .slice my m7 mz] :: row 76 g5 #[.int .i64 kind, .int .u64 (x.id : Int), .slice xa x.mem.length xc, .slice xl x.lvs.length xd, .slice xr x.ldr.length xe, .int .u64 (s0 : Int), .int .u16 (q.1 : Int), .int .u32 (q.2 : Int), .int .i64 kd, .int .u16 m1, .int .u32 m2, .int .u64 m3, .int .u64 (ms : Int), .int .u64 m5, .int .i64 m6, .int .u32 (mb.r : Int), .int .u16 (mb.w.1 : Int), .int .u32 (mb.w.2 : Int), .int .u32 (ma.r : Int), .int .u16 (ma.w.1 : Int), .int .u32 (ma.w.2 : Int), .bool mh, .int .i64 mc.kind, .int .u16 (mc.fr.1 : Int), .int .u32 (mc.fr.2 : Int), .int .u64 (mc.num : Int), .int .u64 (mc.vw : Int), .slice me.ba mc.data.length me.bc, .int .u64 (mc.v.id : Int), .slice me.ma mc.v.mem.length me.mc, .slice me.la mc.v.lvs.length me.lc, .slice me.da mc.v.ldr.length me.dc, .int .u64 (mv.id : Int), .slice mx.ma mv.mem.length mx.mc, .slice mx.la mv.lvs.length mx.lc, .slice mx.da mv.ldr.length mx.dc, .slice my m7 mz, .bool true, .int .i64 c.kind, .int .u16 (c.fr.1 : Int), .int .u32 (c.fr.2 : Int), .int .u64 (c.num : Int), .int .u64 (c.vw : Int), .slice h.ba c.data.length h.bc, .int .u64 (c.v.id : Int), .slice h.ma c.v.mem.length h.mc, .slice h.la c.v.lvs.length h.lc, .slice h.da c.v.ldr.length h.dc] :: [])) (by kernel_rfl) (H.drew.sub sU) ?_
    replace H := H.drew
    have HS := H
    refine rg_take (i := 0) rfl kR kR kR (Yld.move rfl rfl) (H.sub sU) ?_; simp only [pS, pE]
    refine rg_take (i := 1) rfl kR kR kR (Yld.o rfl) (H.sub sU) ?_; simp only [pS]
    first | (refine rg_take (i := 2) rfl kR kR kR (Yld.ldr rfl rfl agg36 size36 rfl mR sZ) (H.sub sU) ?_; simp only [pS]) | (refine rg_take (i := 2) rfl kR kR kR (Yld.ldl rfl rfl agg36 size36 rfl mR (by simp)) (H.sub sU) ?_; simp only [pS]; simp only [List.drop_succ_cons, List.drop_zero, List.take_succ_cons, List.take_zero]) | (refine rg_take (i := 2) rfl kR kR kR (Yld.ldor rfl rfl agg36 size36 rfl (by assumption) sZ (by assumption)) (H.sub sU) ?_; simp only [pS])
    first | (refine rg_take (i := 3) rfl kR kR kR (Yld.ldr rfl rfl agg74 size74 rfl mR sZ) (H.sub sU) ?_; simp only [pS]) | (refine rg_take (i := 3) rfl kR kR kR (Yld.ldl rfl rfl agg74 size74 rfl mR (by simp)) (H.sub sU) ?_; simp only [pS]; simp only [List.drop_succ_cons, List.drop_zero, List.take_succ_cons, List.take_zero]) | (refine rg_take (i := 3) rfl kR kR kR (Yld.ldor rfl rfl agg74 size74 rfl (by assumption) sZ (by assumption)) (H.sub sU) ?_; simp only [pS])
    refine rg_take (i := 5) rfl kR kR kR (Yld.move rfl rfl) (H.sub sU) ?_; simp only [pS, pE]
    refine rg_take (i := 6) rfl kR kR kR (Yld.o rfl) (H.sub sU) ?_; simp only [pS]
    first | (refine rg_take (i := 7) rfl kR kR kR (Yld.ldr rfl rfl agg36 size36 rfl mR sZ) (H.sub sU) ?_; simp only [pS]) | (refine rg_take (i := 7) rfl kR kR kR (Yld.ldl rfl rfl agg36 size36 rfl mR (by simp)) (H.sub sU) ?_; simp only [pS]; simp only [List.drop_succ_cons, List.drop_zero, List.take_succ_cons, List.take_zero]) | (refine rg_take (i := 7) rfl kR kR kR (Yld.ldor rfl rfl agg36 size36 rfl (by assumption) sZ (by assumption)) (H.sub sU) ?_; simp only [pS])
    first | (refine rg_take (i := 8) rfl kR kR kR (Yld.ldr rfl rfl agg74 size74 rfl mR sZ) (H.sub sU) ?_; simp only [pS]) | (refine rg_take (i := 8) rfl kR kR kR (Yld.ldl rfl rfl agg74 size74 rfl mR (by simp)) (H.sub sU) ?_; simp only [pS]; simp only [List.drop_succ_cons, List.drop_zero, List.take_succ_cons, List.take_zero]) | (refine rg_take (i := 8) rfl kR kR kR (Yld.ldor rfl rfl agg74 size74 rfl (by assumption) sZ (by assumption)) (H.sub sU) ?_; simp only [pS])
    refine rg_one (i := 4) (by kernel_rfl) rfl rfl (fun K hK => ?_)
    refine wp_callf rfl ent41 (rprom_ok gp sf d R HR.out HW.out q kd m1 m2 m3 m5 m6 sl bl ma mh mc me mv mx my m7 mz HA1.out HA2.out HMC.out (HXM.out _) _ (H.pull (r := R) pU)) rfl (fun v w1 hr => ?_)
    obtain ⟨r1, d1, HD, rfl, R1, hR1, H2⟩ := hr
    clear H
    have H := H2
    have HR1 := Lib.hid hR1
    clear H2 hR1
    clear HS
    have HS := H
    refine hK.out _ _ (H.sub sU) ?_
    clear hK K
    simp only [pS]
    refine rg_one (i := 9) (by kernel_rfl) rfl rfl (fun K hK => ?_)
    refine wp_callf rfl ent71 (xprom_ok gx m q kd m1 m2 m3 m5 m6 sl bl ma mh mc me mv mx my m7 mz HMC.out (HXM.out _) hmm _ (XaR.mk se sn bl ph la lc ld sl hs un c0 hd aa ac an HI.out) _ (((H.pull (r := slc 36 2 (.slice aa an.length ac) an.length (pv an)) pU).pull (r := row 69 gx #[.int .u16 (se.1 : Int), .int .u32 (se.2 : Int), .int .u32 (sn.r : Int), .int .u16 (sn.w.1 : Int), .int .u32 (sn.w.2 : Int), .int .u32 (bl.r : Int), .int .u16 (bl.w.1 : Int), .int .u32 (bl.w.2 : Int), .int .i64 ph, .slice la ld.length lc, .int .u64 (sl : Int), .bool hs, .int .u32 (un.r : Int), .int .u16 (un.w.1 : Int), .int .u32 (un.w.2 : Int), .int .i64 c0.kind, .int .u16 (c0.fr.1 : Int), .int .u32 (c0.fr.2 : Int), .int .u64 (c0.num : Int), .int .u64 (c0.vw : Int), .slice hd.ba c0.data.length hd.bc, .int .u64 (c0.v.id : Int), .slice hd.ma c0.v.mem.length hd.mc, .slice hd.la c0.v.lvs.length hd.lc, .slice hd.da c0.v.ldr.length hd.dc, .slice aa an.length ac]) pU).sep)) rfl (fun v w1 hr => ?_)
    obtain ⟨r2, rfl, X2, hX2, H2⟩ := hr
    clear H
    have H := H2
    have HX2 := Lib.hid hX2
    clear H2 hX2
    clear HS
    have HS := H
    refine hK.out _ _ (H.sub sU) ?_
    clear hK K
    simp only [pS]
    refine rg_take (i := 10) rfl kR kR kR (Yld.eqB4 rfl rfl rfl rfl) (H.sub sU) ?_; simp only [pS, pE]
    refine rg_take (i := 11) rfl kR kR kR (Yld.assign rfl rfl) (H.sub sU) ?_; simp only [pS, pE]
    refine rg_done (by kernel_rfl) ?_
    go_wp2_with fail
    go_ret
    exact ⟨_, rfl, _, rfl, d1, Lib.hid ⟨HW.out.prom HA1.out HA2.out HMC.out HD.out, Mv.prom HD.out, (by intro hq; omega)⟩, R1, HR1.out, X2, HX2.out, ((H.pull (r := X2) pU).pull (r := R1) pU).sub sU⟩

end Go.Proofs.Ytjghcmejmdllbaa
