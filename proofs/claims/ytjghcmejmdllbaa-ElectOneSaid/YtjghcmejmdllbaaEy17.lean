/- Layer 21's Proposer (elect): what must be proposed; Promise of any message; the bounds stand in each. -/
import Derived.Test.YtjghcmejmdllbaaEy16
namespace Go.Proofs.Ytjghcmejmdllbaa
open Go.ChangeShapes Go.WideShapes Go.ChangeAt Go.RowKit Go.Maps Go.Deep
set_option linter.unusedVariables false
set_option linter.unusedSimpArgs false
set_option linter.unusedSectionVars false
set_option maxRecDepth 100000
set_option maxHeartbeats 4000000
def empR : Res := (fun _ => False, fun _ => True)
theorem St.empR {B : Nat} {w0 w : World} {L : List Res} (H : St B w0 w L) : St B w0 w (Go.Proofs.Ytjghcmejmdllbaa.empR :: L) := St.emp (p := Go.Proofs.Ytjghcmejmdllbaa.empR.2) (fun _ => trivial) H
/-- The command that must be proposed, and the ballot under which it was told, where they lie. -/
def valR : Option (Bl × Cm) → Option Addr → Res → Prop
  | none, vp, RV => vp = none ∧ RV = empR
  | some (u, c), vp, RV => ∃ (gv : Nat) (hd : Hd) (G : Nat → Prop), vp = some ⟨gv, 0, none⟩ ∧ RV = sep (row 140 gv #[.int .u32 (u.r : Int), .int .u16 (u.w.1 : Int), .int .u32 (u.w.2 : Int), .int .i64 c.kind, .int .u16 (c.fr.1 : Int), .int .u32 (c.fr.2 : Int), .int .u64 (c.num : Int), .int .u64 (c.vw : Int), .slice hd.ba c.data.length hd.bc, .int .u64 (c.v.id : Int), .slice hd.ma c.v.mem.length hd.mc, .slice hd.la c.v.lvs.length hd.lc, .slice hd.da c.v.ldr.length hd.dc]) (cmr G (.slice hd.ba c.data.length hd.bc) (.slice hd.ma c.v.mem.length hd.mc) (.slice hd.la c.v.lvs.length hd.lc) (.slice hd.da c.v.ldr.length hd.dc) c)
/-- There is such a place and such a resource; simp leaves it together. -/
def ExR (P : Option Addr → Res → Prop) : Prop := ∃ (vp : Option Addr) (RV : Res), P vp RV
/-- Is the message's value taken? -/
def updB (val : Option (Bl × Cm)) (mh : Bool) (ma : Bl) : Bool := mh && (match val with | none => true | some (u, _) => blt u ma)
attribute [local irreducible] hasM setM atR majM blt
theorem prom_ok {B : Nat} {w0 : World} {L : List Res} {G1 : Nat → Prop} (gp : Nat) (sf : Pr) (sn : Bl) (la : Option Addr) (n lc sl : Nat) (bl : Bl) (a1 a2 : Nat) (ld : List Pr) (vp : Option Addr) (q : Pr) (mh : Bool) (m1 m2 m3 m5 m6 : Int) (ma : Bl) (mc : Cm) (me : Hd) (mv : Vw) (mx : Hd) (my : Option Addr) (m7 mz : Nat) (hln : ld.length = n) (hn0 : 0 < n) (hn : n < 1000) (b1 : a1 < 18446744073709551616) (b2 : a2 < 18446744073709551616) (z : Int) (hz : atR ld q = z) (hz0 : 0 ≤ z) (hh : hasM (a1, a2) z = false) (c1 c2 : Nat) (hc : setM (a1, a2) z = (c1, c2)) (hcl1 : c1 < 18446744073709551616) (hcl2 : c2 < 18446744073709551616) (r : Bool) (hr : majM c1 c2 (n : Int) = r) (val : Option (Bl × Cm)) (RV : Res) (hv : valR val vp RV) (hu : ∀ u c, val = some (u, c) → u.w.1 < 65536 ∧ u.w.2 < 4294967296) (ha1 : ma.w.1 < 65536) (ha2 : ma.w.2 < 4294967296) (hm : smC mc)
    (hx : Rd B w0 L fun W => CmG G1 W (.slice me.ba mc.data.length me.bc) (.slice me.ma mc.v.mem.length me.mc) (.slice me.la mc.v.lvs.length me.lc) (.slice me.da mc.v.ldr.length me.dc) mc) (w : World) (H : St B w0 w (row 129 gp #[.int .u16 (sf.1 : Int), .int .u32 (sf.2 : Int), .int .u32 (sn.r : Int), .int .u16 (sn.w.1 : Int), .int .u32 (sn.w.2 : Int), .int .i64 1, .slice la n lc, .int .u64 (sl : Int), .int .u32 (bl.r : Int), .int .u16 (bl.w.1 : Int), .int .u32 (bl.w.2 : Int), .pointer vp, .int .u64 (a1 : Int), .int .u64 (a2 : Int)] :: slc 36 2 (.slice la n lc) n (pv ld) :: RV :: L)) :
    Calls Try.prog 41 #[.pointer (some ⟨gp, 0, none⟩), .agg #[.int .u16 (q.1 : Int), .int .u32 (q.2 : Int)], .agg #[.int .i64 5, .int .u16 m1, .int .u32 m2, .int .u64 m3, .int .u64 (sl : Int), .int .u64 m5, .int .i64 m6, .int .u32 (bl.r : Int), .int .u16 (bl.w.1 : Int), .int .u32 (bl.w.2 : Int), .int .u32 (ma.r : Int), .int .u16 (ma.w.1 : Int), .int .u32 (ma.w.2 : Int), .bool mh, .int .i64 mc.kind, .int .u16 (mc.fr.1 : Int), .int .u32 (mc.fr.2 : Int), .int .u64 (mc.num : Int), .int .u64 (mc.vw : Int), .slice me.ba mc.data.length me.bc, .int .u64 (mc.v.id : Int), .slice me.ma mc.v.mem.length me.mc, .slice me.la mc.v.lvs.length me.lc, .slice me.da mc.v.ldr.length me.dc, .int .u64 (mv.id : Int), .slice mx.ma mv.mem.length mx.mc, .slice mx.la mv.lvs.length mx.lc, .slice mx.da mv.ldr.length mx.dc, .slice my m7 mz]] w (Ret fun v w' => v = .bool r ∧ ExR fun vp' RV' => valR (if updB val mh ma = true then some (ma, mc) else val) vp' RV' ∧ St B w0 w' (row 129 gp #[.int .u16 (sf.1 : Int), .int .u32 (sf.2 : Int), .int .u32 (sn.r : Int), .int .u16 (sn.w.1 : Int), .int .u32 (sn.w.2 : Int), .int .i64 (if r = true then 2 else 1), .slice la n lc, .int .u64 (sl : Int), .int .u32 (bl.r : Int), .int .u16 (bl.w.1 : Int), .int .u32 (bl.w.2 : Int), .pointer vp', .int .u64 (c1 : Int), .int .u64 (c2 : Int)] :: slc 36 2 (.slice la n lc) n (pv ld) :: RV' :: L)) := by
  have HLN := Lib.hid hln
  have HZ := Lib.hid hz
  have HH := Lib.hid hh
  have HC := Lib.hid hc
  have hn6 : n ≤ 1000000 := by omega
  clear hln hz hh hc
  have HMJ := Lib.hid hr
  clear hr
  cases val with
  | none =>
    obtain ⟨rfl, rfl⟩ := hv
    cases mh
    · rw [show updB none false ma = false from rfl]
      cases r
      all_goals
        go_enter Try.func41, Try.ntmps41
        go_wp2_with (first | (go_at_call 85; (with_reducible refine (ans_yes gp sf sn 1 la n lc sl bl none a1 a2 ld 1 5 q 5 m1 m2 m3 m5 m6 sl bl ma false mc me mv mx my m7 mz HLN.out hn6 b1 b2 rfl rfl rfl rfl z HZ.out hz0 HH.out c1 c2 HC.out _ ((H.pull (r := slc 36 2 (.slice la n lc) n (pv ld)) pU).pull (r := row 129 gp #[.int .u16 (sf.1 : Int), .int .u32 (sf.2 : Int), .int .u32 (sn.r : Int), .int .u16 (sn.w.1 : Int), .int .u32 (sn.w.2 : Int), .int .i64 1, .slice la n lc, .int .u64 (sl : Int), .int .u32 (bl.r : Int), .int .u16 (bl.w.1 : Int), .int .u32 (bl.w.2 : Int), .pointer none, .int .u64 (a1 : Int), .int .u64 (a2 : Int)]) pU)).mono ?_); rintro e w1 ⟨v, rfl, hr⟩; obtain ⟨rfl, H2⟩ := hr; clear H; have H := H2; clear H2) | (with_reducible refine wpl rfl (dQ 4 rfl ?_); with_reducible refine (Stp.box 4 rfl rfl rfl H ?_); clear H; intro g4 w1 H; simp only [pS]; simp only [pE, nC, pS] at H) | (with_reducible refine wpl rfl (dQ 5 rfl ?_); with_reducible refine (Stp.box 5 rfl rfl rfl H ?_); clear H; intro g5 w1 H; simp only [pS]; simp only [pE, nC, pS] at H) | (with_reducible refine wpl rfl (ldQ (ty := 36) rfl ?_); first | (with_reducible refine (Stp.ldor rfl agg36 size36 rfl H (by assumption) sZ (by assumption) ?_); simp only [pS]) | (with_reducible refine (Stp.ldr rfl agg36 size36 rfl H mR sZ ?_); simp only [pS]) | (with_reducible refine (Stp.ldl rfl agg36 size36 rfl H mR (by simp) ?_); simp only [pS]; simp only [List.drop_succ_cons, List.drop_zero, List.take_succ_cons, List.take_zero])) | (with_reducible refine wpl rfl (ldQ (ty := 74) rfl ?_); first | (with_reducible refine (Stp.ldor rfl agg74 size74 rfl H (by assumption) sZ (by assumption) ?_); simp only [pS]) | (with_reducible refine (Stp.ldr rfl agg74 size74 rfl H mR sZ ?_); simp only [pS]) | (with_reducible refine (Stp.ldl rfl agg74 size74 rfl H mR (by simp) ?_); simp only [pS]; simp only [List.drop_succ_cons, List.drop_zero, List.take_succ_cons, List.take_zero])) | (with_reducible refine wpl rfl (stQ (ty := 3) rfl ?_); first | (with_reducible refine (Stp.stc rfl size3 rfl rfl rfl rfl H uP (by first | omega | (simp; done) | (simp; omega)) ?_); clear H; intro w1 H; simp only [pS]; simp only [pE, nC, pS] at H)))
        refine rg_begin 21 rfl (S := fun W => St _ _ W (row 129 gp #[.int .u16 (sf.1 : Int), .int .u32 (sf.2 : Int), .int .u32 (sn.r : Int), .int .u16 (sn.w.1 : Int), .int .u32 (sn.w.2 : Int), .int .i64 1, .slice la n lc, .int .u64 (sl : Int), .int .u32 (bl.r : Int), .int .u16 (bl.w.1 : Int), .int .u32 (bl.w.2 : Int), .pointer none, .int .u64 (c1 : Int), .int .u64 (c2 : Int)] :: row 74 g5 #[.int .i64 5, .int .u16 m1, .int .u32 m2, .int .u64 m3, .int .u64 (sl : Int), .int .u64 m5, .int .i64 m6, .int .u32 (bl.r : Int), .int .u16 (bl.w.1 : Int), .int .u32 (bl.w.2 : Int), .int .u32 (ma.r : Int), .int .u16 (ma.w.1 : Int), .int .u32 (ma.w.2 : Int), .bool false, .int .i64 mc.kind, .int .u16 (mc.fr.1 : Int), .int .u32 (mc.fr.2 : Int), .int .u64 (mc.num : Int), .int .u64 (mc.vw : Int), .slice me.ba mc.data.length me.bc, .int .u64 (mc.v.id : Int), .slice me.ma mc.v.mem.length me.mc, .slice me.la mc.v.lvs.length me.lc, .slice me.da mc.v.ldr.length me.dc, .int .u64 (mv.id : Int), .slice mx.ma mv.mem.length mx.mc, .slice mx.la mv.lvs.length mx.lc, .slice mx.da mv.ldr.length mx.dc, .slice my m7 mz] :: [])) (by kernel_rfl) (H.drew.sub sU) ?_
        replace H := H.drew
        have HS := H
        refine rg_take (i := 0) rfl kR kR kR (Yld.o rfl) (H.sub sU) ?_; simp only [pS]
        first | (refine rg_take (i := 1) rfl kR kR kR (Yld.ldo rfl rfl agg4 rfl (by assumption) (by assumption)) (H.sub sU) ?_; simp only [pS]) | (refine rg_take (i := 1) rfl kR kR kR (Yld.ldc rfl rfl agg4 rfl mR cE) (H.sub sU) ?_; simp only [pS])
        refine rg_take (i := 2) rfl kR kR kR (Yld.move rfl rfl) (H.sub sU) ?_; simp only [pS, pE]
        refine rg_take (i := 3) rfl kR kR kR (Yld.skip rfl) (H.sub sU) ?_; simp only [pS]
        refine rg_take (i := 4) rfl kR kR kR (Yld.skip rfl) (H.sub sU) ?_; simp only [pS]
        refine rg_take (i := 5) rfl kR kR kR (Yld.skip rfl) (H.sub sU) ?_; simp only [pS]
        refine rg_take (i := 6) rfl kR kR kR (Yld.skip rfl) (H.sub sU) ?_; simp only [pS]
        refine rg_take (i := 7) rfl kR kR kR (Yld.skip rfl) (H.sub sU) ?_; simp only [pS]
        refine rg_take (i := 8) rfl kR kR kR (Yld.skip rfl) (H.sub sU) ?_; simp only [pS]
        refine rg_take (i := 9) rfl kR kR kR (Yld.skip rfl) (H.sub sU) ?_; simp only [pS]
        refine rg_take (i := 10) rfl kR kR kR (Yld.skip rfl) (H.sub sU) ?_; simp only [pS]
        refine rg_take (i := 11) rfl kR kR kR (Yld.skip rfl) (H.sub sU) ?_; simp only [pS]
        refine rg_take (i := 12) rfl kR kR kR (Yld.skip rfl) (H.sub sU) ?_; simp only [pS]
        refine rg_take (i := 13) rfl kR kR kR (Yld.skip rfl) (H.sub sU) ?_; simp only [pS]
        refine rg_take (i := 14) rfl kR kR kR (Yld.skip rfl) (H.sub sU) ?_; simp only [pS]
        refine rg_take (i := 15) rfl kR kR kR (Yld.skip rfl) (H.sub sU) ?_; simp only [pS]
        refine rg_take (i := 16) rfl kR kR kR (Yld.skip rfl) (H.sub sU) ?_; simp only [pS]
        refine rg_take (i := 17) rfl kR kR kR (Yld.skip rfl) (H.sub sU) ?_; simp only [pS]
        refine rg_take (i := 18) rfl kR kR kR (Yld.skip rfl) (H.sub sU) ?_; simp only [pS]
        refine rg_take (i := 19) rfl kR kR kR (Yld.skip rfl) (H.sub sU) ?_; simp only [pS]
        refine rg_take (i := 20) rfl kR kR kR (Yld.pick rfl rfl rfl) (H.sub sU) ?_; simp only [pS, pE]
        refine rg_done (by kernel_rfl) ?_
        go_wp2_with (first | (go_at_call 86; (with_reducible refine (most_is gp sf sn 1 la n lc sl bl none c1 c2 ld hn0 hn hcl1 hcl2 _ HMJ.out _ (H.pull (r := row 129 gp #[.int .u16 (sf.1 : Int), .int .u32 (sf.2 : Int), .int .u32 (sn.r : Int), .int .u16 (sn.w.1 : Int), .int .u32 (sn.w.2 : Int), .int .i64 1, .slice la n lc, .int .u64 (sl : Int), .int .u32 (bl.r : Int), .int .u16 (bl.w.1 : Int), .int .u32 (bl.w.2 : Int), .pointer none, .int .u64 (c1 : Int), .int .u64 (c2 : Int)]) pU)).mono ?_); rintro e w1 ⟨v, rfl, hr⟩; obtain ⟨rfl, H2⟩ := hr; clear H; have H := H2; clear H2) | (with_reducible refine wpl rfl (dQ 4 rfl ?_); with_reducible refine (Stp.box 4 rfl rfl rfl H ?_); clear H; intro g4 w1 H; simp only [pS]; simp only [pE, nC, pS] at H) | (with_reducible refine wpl rfl (dQ 5 rfl ?_); with_reducible refine (Stp.box 5 rfl rfl rfl H ?_); clear H; intro g5 w1 H; simp only [pS]; simp only [pE, nC, pS] at H) | (with_reducible refine wpl rfl (ldQ (ty := 36) rfl ?_); first | (with_reducible refine (Stp.ldor rfl agg36 size36 rfl H (by assumption) sZ (by assumption) ?_); simp only [pS]) | (with_reducible refine (Stp.ldr rfl agg36 size36 rfl H mR sZ ?_); simp only [pS]) | (with_reducible refine (Stp.ldl rfl agg36 size36 rfl H mR (by simp) ?_); simp only [pS]; simp only [List.drop_succ_cons, List.drop_zero, List.take_succ_cons, List.take_zero])) | (with_reducible refine wpl rfl (ldQ (ty := 74) rfl ?_); first | (with_reducible refine (Stp.ldor rfl agg74 size74 rfl H (by assumption) sZ (by assumption) ?_); simp only [pS]) | (with_reducible refine (Stp.ldr rfl agg74 size74 rfl H mR sZ ?_); simp only [pS]) | (with_reducible refine (Stp.ldl rfl agg74 size74 rfl H mR (by simp) ?_); simp only [pS]; simp only [List.drop_succ_cons, List.drop_zero, List.take_succ_cons, List.take_zero])) | (with_reducible refine wpl rfl (stQ (ty := 3) rfl ?_); first | (with_reducible refine (Stp.stc rfl size3 rfl rfl rfl rfl H uP (by first | omega | (simp; done) | (simp; omega)) ?_); clear H; intro w1 H; simp only [pS]; simp only [pE, nC, pS] at H)))
        go_ret
        refine ⟨_, rfl, rfl, none, _, ⟨rfl, rfl⟩, ?_⟩
        exact ((((H.pull (r := empR) pU).pull (r := slc 36 2 (.slice la n lc) n (pv ld)) pU).pull (r := row 129 gp _) pU).sub sU)
    · rw [show updB none true ma = true from rfl]
      cases r
      all_goals
        go_enter Try.func41, Try.ntmps41
        go_wp2_with (first | (go_at_call 85; (with_reducible refine (ans_yes gp sf sn 1 la n lc sl bl none a1 a2 ld 1 5 q 5 m1 m2 m3 m5 m6 sl bl ma true mc me mv mx my m7 mz HLN.out hn6 b1 b2 rfl rfl rfl rfl z HZ.out hz0 HH.out c1 c2 HC.out _ ((H.pull (r := slc 36 2 (.slice la n lc) n (pv ld)) pU).pull (r := row 129 gp #[.int .u16 (sf.1 : Int), .int .u32 (sf.2 : Int), .int .u32 (sn.r : Int), .int .u16 (sn.w.1 : Int), .int .u32 (sn.w.2 : Int), .int .i64 1, .slice la n lc, .int .u64 (sl : Int), .int .u32 (bl.r : Int), .int .u16 (bl.w.1 : Int), .int .u32 (bl.w.2 : Int), .pointer none, .int .u64 (a1 : Int), .int .u64 (a2 : Int)]) pU)).mono ?_); rintro e w1 ⟨v, rfl, hr⟩; obtain ⟨rfl, H2⟩ := hr; clear H; have H := H2; clear H2) | (with_reducible refine wpl rfl (dQ 4 rfl ?_); with_reducible refine (Stp.box 4 rfl rfl rfl H ?_); clear H; intro g4 w1 H; simp only [pS]; simp only [pE, nC, pS] at H) | (with_reducible refine wpl rfl (dQ 5 rfl ?_); with_reducible refine (Stp.box 5 rfl rfl rfl H ?_); clear H; intro g5 w1 H; simp only [pS]; simp only [pE, nC, pS] at H) | (with_reducible refine wpl rfl (ldQ (ty := 36) rfl ?_); first | (with_reducible refine (Stp.ldor rfl agg36 size36 rfl H (by assumption) sZ (by assumption) ?_); simp only [pS]) | (with_reducible refine (Stp.ldr rfl agg36 size36 rfl H mR sZ ?_); simp only [pS]) | (with_reducible refine (Stp.ldl rfl agg36 size36 rfl H mR (by simp) ?_); simp only [pS]; simp only [List.drop_succ_cons, List.drop_zero, List.take_succ_cons, List.take_zero])) | (with_reducible refine wpl rfl (ldQ (ty := 74) rfl ?_); first | (with_reducible refine (Stp.ldor rfl agg74 size74 rfl H (by assumption) sZ (by assumption) ?_); simp only [pS]) | (with_reducible refine (Stp.ldr rfl agg74 size74 rfl H mR sZ ?_); simp only [pS]) | (with_reducible refine (Stp.ldl rfl agg74 size74 rfl H mR (by simp) ?_); simp only [pS]; simp only [List.drop_succ_cons, List.drop_zero, List.take_succ_cons, List.take_zero])) | (with_reducible refine wpl rfl (stQ (ty := 3) rfl ?_); first | (with_reducible refine (Stp.stc rfl size3 rfl rfl rfl rfl H uP (by first | omega | (simp; done) | (simp; omega)) ?_); clear H; intro w1 H; simp only [pS]; simp only [pE, nC, pS] at H)))
        refine rg_begin 21 rfl (S := fun W => St _ _ W (row 129 gp #[.int .u16 (sf.1 : Int), .int .u32 (sf.2 : Int), .int .u32 (sn.r : Int), .int .u16 (sn.w.1 : Int), .int .u32 (sn.w.2 : Int), .int .i64 1, .slice la n lc, .int .u64 (sl : Int), .int .u32 (bl.r : Int), .int .u16 (bl.w.1 : Int), .int .u32 (bl.w.2 : Int), .pointer none, .int .u64 (c1 : Int), .int .u64 (c2 : Int)] :: row 74 g5 #[.int .i64 5, .int .u16 m1, .int .u32 m2, .int .u64 m3, .int .u64 (sl : Int), .int .u64 m5, .int .i64 m6, .int .u32 (bl.r : Int), .int .u16 (bl.w.1 : Int), .int .u32 (bl.w.2 : Int), .int .u32 (ma.r : Int), .int .u16 (ma.w.1 : Int), .int .u32 (ma.w.2 : Int), .bool true, .int .i64 mc.kind, .int .u16 (mc.fr.1 : Int), .int .u32 (mc.fr.2 : Int), .int .u64 (mc.num : Int), .int .u64 (mc.vw : Int), .slice me.ba mc.data.length me.bc, .int .u64 (mc.v.id : Int), .slice me.ma mc.v.mem.length me.mc, .slice me.la mc.v.lvs.length me.lc, .slice me.da mc.v.ldr.length me.dc, .int .u64 (mv.id : Int), .slice mx.ma mv.mem.length mx.mc, .slice mx.la mv.lvs.length mx.lc, .slice mx.da mv.ldr.length mx.dc, .slice my m7 mz] :: [])) (by kernel_rfl) (H.drew.sub sU) ?_
        replace H := H.drew
        have HS := H
        refine rg_take (i := 0) rfl kR kR kR (Yld.o rfl) (H.sub sU) ?_; simp only [pS]
        first | (refine rg_take (i := 1) rfl kR kR kR (Yld.ldo rfl rfl agg4 rfl (by assumption) (by assumption)) (H.sub sU) ?_; simp only [pS]) | (refine rg_take (i := 1) rfl kR kR kR (Yld.ldc rfl rfl agg4 rfl mR cE) (H.sub sU) ?_; simp only [pS])
        refine rg_take (i := 2) rfl kR kR kR (Yld.move rfl rfl) (H.sub sU) ?_; simp only [pS, pE]
        refine rg_take (i := 3) rfl kR kR kR (Yld.move rfl rfl) (H.sub sU) ?_; simp only [pS, pE]
        refine rg_take (i := 4) rfl kR kR kR (Yld.o rfl) (H.sub sU) ?_; simp only [pS]
        refine rg_take (i := 5) rfl kR kR kR (Yld.o rfl) (H.sub sU) ?_; simp only [pS]
        first | (refine rg_take (i := 6) rfl kR kR kR (Yld.ldo rfl rfl agg125 rfl (by assumption) (by assumption)) (H.sub sU) ?_; simp only [pS]) | (refine rg_take (i := 6) rfl kR kR kR (Yld.ldc rfl rfl agg125 rfl mR cE) (H.sub sU) ?_; simp only [pS])
        refine rg_take (i := 7) rfl kR kR kR (Yld.o rfl) (H.sub sU) ?_; simp only [pS]
        refine rg_take (i := 8) rfl kR kR kR (Yld.move rfl rfl) (H.sub sU) ?_; simp only [pS, pE]
        refine rg_take (i := 9) rfl kR kR kR (Yld.skip rfl) (H.sub sU) ?_; simp only [pS]
        refine rg_take (i := 10) rfl kR kR kR (Yld.skip rfl) (H.sub sU) ?_; simp only [pS]
        refine rg_take (i := 11) rfl kR kR kR (Yld.skip rfl) (H.sub sU) ?_; simp only [pS]
        refine rg_take (i := 12) rfl kR kR kR (Yld.skip rfl) (H.sub sU) ?_; simp only [pS]
        refine rg_take (i := 13) rfl kR kR kR (Yld.skip rfl) (H.sub sU) ?_; simp only [pS]
        refine rg_take (i := 14) rfl kR kR kR (Yld.skip rfl) (H.sub sU) ?_; simp only [pS]
        refine rg_take (i := 15) rfl kR kR kR (Yld.skip rfl) (H.sub sU) ?_; simp only [pS]
        refine rg_take (i := 16) rfl kR kR kR (Yld.skip rfl) (H.sub sU) ?_; simp only [pS]
        refine rg_take (i := 17) rfl kR kR kR (Yld.skip rfl) (H.sub sU) ?_; simp only [pS]
        refine rg_take (i := 18) rfl kR kR kR (Yld.skip rfl) (H.sub sU) ?_; simp only [pS]
        refine rg_take (i := 19) rfl kR kR kR (Yld.pick rfl rfl rfl) (H.sub sU) ?_; simp only [pS, pE]
        refine rg_take (i := 20) rfl kR kR kR (Yld.pick rfl rfl rfl) (H.sub sU) ?_; simp only [pS, pE]
        refine rg_done (by kernel_rfl) ?_
        go_wp2_with (first | (with_reducible refine wpl rfl (dQ 4 rfl ?_); with_reducible refine (Stp.box 4 rfl rfl rfl H ?_); clear H; intro g4 w1 H; simp only [pS]; simp only [pE, nC, pS] at H) | (with_reducible refine wpl rfl (dQ 5 rfl ?_); with_reducible refine (Stp.box 5 rfl rfl rfl H ?_); clear H; intro g5 w1 H; simp only [pS]; simp only [pE, nC, pS] at H) | (with_reducible refine wpl rfl (ldQ (ty := 36) rfl ?_); first | (with_reducible refine (Stp.ldor rfl agg36 size36 rfl H (by assumption) sZ (by assumption) ?_); simp only [pS]) | (with_reducible refine (Stp.ldr rfl agg36 size36 rfl H mR sZ ?_); simp only [pS]) | (with_reducible refine (Stp.ldl rfl agg36 size36 rfl H mR (by simp) ?_); simp only [pS]; simp only [List.drop_succ_cons, List.drop_zero, List.take_succ_cons, List.take_zero])) | (with_reducible refine wpl rfl (ldQ (ty := 74) rfl ?_); first | (with_reducible refine (Stp.ldor rfl agg74 size74 rfl H (by assumption) sZ (by assumption) ?_); simp only [pS]) | (with_reducible refine (Stp.ldr rfl agg74 size74 rfl H mR sZ ?_); simp only [pS]) | (with_reducible refine (Stp.ldl rfl agg74 size74 rfl H mR (by simp) ?_); simp only [pS]; simp only [List.drop_succ_cons, List.drop_zero, List.take_succ_cons, List.take_zero])) | (with_reducible refine wpl rfl (stQ (ty := 3) rfl ?_); first | (with_reducible refine (Stp.stc rfl size3 rfl rfl rfl rfl H uP (by first | omega | (simp; done) | (simp; omega)) ?_); clear H; intro w1 H; simp only [pS]; simp only [pE, nC, pS] at H)))
        refine rg_begin 11 rfl (S := fun W => St _ _ W (row 74 g5 #[.int .i64 5, .int .u16 m1, .int .u32 m2, .int .u64 m3, .int .u64 (sl : Int), .int .u64 m5, .int .i64 m6, .int .u32 (bl.r : Int), .int .u16 (bl.w.1 : Int), .int .u32 (bl.w.2 : Int), .int .u32 (ma.r : Int), .int .u16 (ma.w.1 : Int), .int .u32 (ma.w.2 : Int), .bool true, .int .i64 mc.kind, .int .u16 (mc.fr.1 : Int), .int .u32 (mc.fr.2 : Int), .int .u64 (mc.num : Int), .int .u64 (mc.vw : Int), .slice me.ba mc.data.length me.bc, .int .u64 (mc.v.id : Int), .slice me.ma mc.v.mem.length me.mc, .slice me.la mc.v.lvs.length me.lc, .slice me.da mc.v.ldr.length me.dc, .int .u64 (mv.id : Int), .slice mx.ma mv.mem.length mx.mc, .slice mx.la mv.lvs.length mx.lc, .slice mx.da mv.ldr.length mx.dc, .slice my m7 mz] :: [])) (by kernel_rfl) (H.drew.sub sU) ?_
        replace H := H.drew
        have HS := H
        refine rg_take (i := 0) rfl kR kR kR (Yld.move rfl rfl) (H.sub sU) ?_; simp only [pS, pE]
        refine rg_take (i := 1) rfl kR kR kR (Yld.o rfl) (H.sub sU) ?_; simp only [pS]
        first | (refine rg_take (i := 2) rfl kR kR kR (Yld.ldor rfl rfl agg67 size67 rfl (by assumption) sZ (by assumption)) (H.sub sU) ?_; simp only [pS]) | (refine rg_take (i := 2) rfl kR kR kR (Yld.ldr rfl rfl agg67 size67 rfl mR sZ) (H.sub sU) ?_; simp only [pS]) | (refine rg_take (i := 2) rfl kR kR kR (Yld.ldl rfl rfl agg67 size67 rfl mR (by simp)) (H.sub sU) ?_; simp only [pS]; simp only [List.drop_succ_cons, List.drop_zero, List.take_succ_cons, List.take_zero])
        refine rg_take (i := 3) rfl kR kR kR (Yld.o rfl) (H.sub sU) ?_; simp only [pS]
        first | (refine rg_take (i := 4) rfl kR kR kR (Yld.ldor rfl rfl agg43 size43 rfl (by assumption) sZ (by assumption)) (H.sub sU) ?_; simp only [pS]) | (refine rg_take (i := 4) rfl kR kR kR (Yld.ldr rfl rfl agg43 size43 rfl mR sZ) (H.sub sU) ?_; simp only [pS]) | (refine rg_take (i := 4) rfl kR kR kR (Yld.ldl rfl rfl agg43 size43 rfl mR (by simp)) (H.sub sU) ?_; simp only [pS]; simp only [List.drop_succ_cons, List.drop_zero, List.take_succ_cons, List.take_zero])
        refine rg_one (i := 5) (by kernel_rfl) rfl rfl (fun K hK => ?_)
        refine wp_callf rfl ent83 (ccopy_ok mc me.ba me.ma me.la me.da me.bc me.mc me.lc me.dc hm _ (hx.at H (by repeat (first | exact List.Sublist.refl _ | apply List.Sublist.cons)))) rfl (fun v w1 hr => ?_)
        obtain ⟨G2, ab, am, al, ad, cb, cm, cl, cd, rfl, hG2, hv2, hb1⟩ := hr
        replace H := H.new hb1 (cmr_sound hG2 hv2) (fun g hg => (hG2 g hg).1)
        clear hb1 hG2 hv2
        clear HS
        have HS := H
        refine hK.out _ _ (H.sub sU) ?_
        clear hK K
        simp only [pS]
        refine rg_take (i := 6) rfl kR kR kR (Yld.o rfl) (H.sub sU) ?_; simp only [pS]
        refine rg_one (i := 7) (by kernel_rfl) rfl rfl (fun K hK => ?_)
        refine Stp.wp (Stp.box (v := .agg #[.int .u32 (ma.r : Int), .int .u16 (ma.w.1 : Int), .int .u32 (ma.w.2 : Int), .int .i64 mc.kind, .int .u16 (mc.fr.1 : Int), .int .u32 (mc.fr.2 : Int), .int .u64 (mc.num : Int), .int .u64 (mc.vw : Int), .slice ab mc.data.length cb, .int .u64 (mc.v.id : Int), .slice am mc.v.mem.length cm, .slice al mc.v.lvs.length cl, .slice ad mc.v.ldr.length cd]) 40 rfl rfl rfl H ?_)
        clear H
        intro g40 w1 H
        simp only [cells_agg] at H
        clear HS
        have HS := H
        refine hK.out _ _ (H.sub sU) ?_
        clear hK K
        simp only [pS]
        refine rg_take (i := 8) rfl kR kR kR (Yld.o rfl) (H.sub sU) ?_; simp only [pS]
        refine rg_take (i := 9) rfl kR kR kR (Yld.o rfl) (H.sub sU) ?_; simp only [pS]
        refine rg_one (i := 10) (by kernel_rfl) rfl rfl (fun K hK => ?_)
        refine Stp.wp (Stp.stc rfl size125 rfl rfl rfl rfl H uP (by simp) ?_)
        clear H
        intro w1 H
        simp only [pE, nC, pS] at H
        clear HS
        have HS := H
        refine hK.out _ _ (H.sub sU) ?_
        clear hK K
        simp only [pS]
        refine rg_done (by kernel_rfl) ?_
        go_wp2_with (first | (go_at_call 86; (with_reducible refine (most_is gp sf sn 1 la n lc sl bl (some ⟨g40, 0, none⟩) c1 c2 ld hn0 hn hcl1 hcl2 _ HMJ.out _ (H.pull (r := row 129 gp #[.int .u16 (sf.1 : Int), .int .u32 (sf.2 : Int), .int .u32 (sn.r : Int), .int .u16 (sn.w.1 : Int), .int .u32 (sn.w.2 : Int), .int .i64 1, .slice la n lc, .int .u64 (sl : Int), .int .u32 (bl.r : Int), .int .u16 (bl.w.1 : Int), .int .u32 (bl.w.2 : Int), .pointer (some ⟨g40, 0, none⟩), .int .u64 (c1 : Int), .int .u64 (c2 : Int)]) pU)).mono ?_); rintro e w1 ⟨v, rfl, hr⟩; obtain ⟨rfl, H2⟩ := hr; clear H; have H := H2; clear H2) | (with_reducible refine wpl rfl (dQ 4 rfl ?_); with_reducible refine (Stp.box 4 rfl rfl rfl H ?_); clear H; intro g4 w1 H; simp only [pS]; simp only [pE, nC, pS] at H) | (with_reducible refine wpl rfl (dQ 5 rfl ?_); with_reducible refine (Stp.box 5 rfl rfl rfl H ?_); clear H; intro g5 w1 H; simp only [pS]; simp only [pE, nC, pS] at H) | (with_reducible refine wpl rfl (ldQ (ty := 36) rfl ?_); first | (with_reducible refine (Stp.ldor rfl agg36 size36 rfl H (by assumption) sZ (by assumption) ?_); simp only [pS]) | (with_reducible refine (Stp.ldr rfl agg36 size36 rfl H mR sZ ?_); simp only [pS]) | (with_reducible refine (Stp.ldl rfl agg36 size36 rfl H mR (by simp) ?_); simp only [pS]; simp only [List.drop_succ_cons, List.drop_zero, List.take_succ_cons, List.take_zero])) | (with_reducible refine wpl rfl (ldQ (ty := 74) rfl ?_); first | (with_reducible refine (Stp.ldor rfl agg74 size74 rfl H (by assumption) sZ (by assumption) ?_); simp only [pS]) | (with_reducible refine (Stp.ldr rfl agg74 size74 rfl H mR sZ ?_); simp only [pS]) | (with_reducible refine (Stp.ldl rfl agg74 size74 rfl H mR (by simp) ?_); simp only [pS]; simp only [List.drop_succ_cons, List.drop_zero, List.take_succ_cons, List.take_zero])) | (with_reducible refine wpl rfl (stQ (ty := 3) rfl ?_); first | (with_reducible refine (Stp.stc rfl size3 rfl rfl rfl rfl H uP (by first | omega | (simp; done) | (simp; omega)) ?_); clear H; intro w1 H; simp only [pS]; simp only [pE, nC, pS] at H)))
        go_ret
        refine ⟨_, rfl, rfl, some ⟨g40, 0, none⟩, _, ⟨g40, (⟨ab, am, al, ad, cb, cm, cl, cd⟩ : Hd), G2, rfl, rfl⟩, ?_⟩
        exact (((((H.pull (r := cmr G2 _ _ _ _ mc) pU).pull (r := row 140 g40 #[.int .u32 (ma.r : Int), .int .u16 (ma.w.1 : Int), .int .u32 (ma.w.2 : Int), .int .i64 mc.kind, .int .u16 (mc.fr.1 : Int), .int .u32 (mc.fr.2 : Int), .int .u64 (mc.num : Int), .int .u64 (mc.vw : Int), .slice ab mc.data.length cb, .int .u64 (mc.v.id : Int), .slice am mc.v.mem.length cm, .slice al mc.v.lvs.length cl, .slice ad mc.v.ldr.length cd]) pU).sep.pull (r := slc 36 2 (.slice la n lc) n (pv ld)) pU).pull (r := row 129 gp _) pU).sub sU)
  | some p =>
    obtain ⟨u, c⟩ := p
    obtain ⟨hu1, hu2⟩ := hu u c rfl
    obtain ⟨gv, hd, G, rfl, rfl⟩ := hv
    replace H := (H.pull (r := sep _ _) pU).part
    clear hu
    cases mh
    · rw [show updB (some (u, c)) false ma = false from rfl]
      cases r
      all_goals
        go_enter Try.func41, Try.ntmps41
        go_wp2_with (first | (go_at_call 85; (with_reducible refine (ans_yes gp sf sn 1 la n lc sl bl (some ⟨gv, 0, none⟩) a1 a2 ld 1 5 q 5 m1 m2 m3 m5 m6 sl bl ma false mc me mv mx my m7 mz HLN.out hn6 b1 b2 rfl rfl rfl rfl z HZ.out hz0 HH.out c1 c2 HC.out _ ((H.pull (r := slc 36 2 (.slice la n lc) n (pv ld)) pU).pull (r := row 129 gp #[.int .u16 (sf.1 : Int), .int .u32 (sf.2 : Int), .int .u32 (sn.r : Int), .int .u16 (sn.w.1 : Int), .int .u32 (sn.w.2 : Int), .int .i64 1, .slice la n lc, .int .u64 (sl : Int), .int .u32 (bl.r : Int), .int .u16 (bl.w.1 : Int), .int .u32 (bl.w.2 : Int), .pointer (some ⟨gv, 0, none⟩), .int .u64 (a1 : Int), .int .u64 (a2 : Int)]) pU)).mono ?_); rintro e w1 ⟨v, rfl, hr⟩; obtain ⟨rfl, H2⟩ := hr; clear H; have H := H2; clear H2) | (with_reducible refine wpl rfl (dQ 4 rfl ?_); with_reducible refine (Stp.box 4 rfl rfl rfl H ?_); clear H; intro g4 w1 H; simp only [pS]; simp only [pE, nC, pS] at H) | (with_reducible refine wpl rfl (dQ 5 rfl ?_); with_reducible refine (Stp.box 5 rfl rfl rfl H ?_); clear H; intro g5 w1 H; simp only [pS]; simp only [pE, nC, pS] at H) | (with_reducible refine wpl rfl (ldQ (ty := 36) rfl ?_); first | (with_reducible refine (Stp.ldor rfl agg36 size36 rfl H (by assumption) sZ (by assumption) ?_); simp only [pS]) | (with_reducible refine (Stp.ldr rfl agg36 size36 rfl H mR sZ ?_); simp only [pS]) | (with_reducible refine (Stp.ldl rfl agg36 size36 rfl H mR (by simp) ?_); simp only [pS]; simp only [List.drop_succ_cons, List.drop_zero, List.take_succ_cons, List.take_zero])) | (with_reducible refine wpl rfl (ldQ (ty := 74) rfl ?_); first | (with_reducible refine (Stp.ldor rfl agg74 size74 rfl H (by assumption) sZ (by assumption) ?_); simp only [pS]) | (with_reducible refine (Stp.ldr rfl agg74 size74 rfl H mR sZ ?_); simp only [pS]) | (with_reducible refine (Stp.ldl rfl agg74 size74 rfl H mR (by simp) ?_); simp only [pS]; simp only [List.drop_succ_cons, List.drop_zero, List.take_succ_cons, List.take_zero])) | (with_reducible refine wpl rfl (stQ (ty := 3) rfl ?_); first | (with_reducible refine (Stp.stc rfl size3 rfl rfl rfl rfl H uP (by first | omega | (simp; done) | (simp; omega)) ?_); clear H; intro w1 H; simp only [pS]; simp only [pE, nC, pS] at H)))
        refine rg_begin 21 rfl (S := fun W => St _ _ W (row 129 gp #[.int .u16 (sf.1 : Int), .int .u32 (sf.2 : Int), .int .u32 (sn.r : Int), .int .u16 (sn.w.1 : Int), .int .u32 (sn.w.2 : Int), .int .i64 1, .slice la n lc, .int .u64 (sl : Int), .int .u32 (bl.r : Int), .int .u16 (bl.w.1 : Int), .int .u32 (bl.w.2 : Int), .pointer (some ⟨gv, 0, none⟩), .int .u64 (c1 : Int), .int .u64 (c2 : Int)] :: row 74 g5 #[.int .i64 5, .int .u16 m1, .int .u32 m2, .int .u64 m3, .int .u64 (sl : Int), .int .u64 m5, .int .i64 m6, .int .u32 (bl.r : Int), .int .u16 (bl.w.1 : Int), .int .u32 (bl.w.2 : Int), .int .u32 (ma.r : Int), .int .u16 (ma.w.1 : Int), .int .u32 (ma.w.2 : Int), .bool false, .int .i64 mc.kind, .int .u16 (mc.fr.1 : Int), .int .u32 (mc.fr.2 : Int), .int .u64 (mc.num : Int), .int .u64 (mc.vw : Int), .slice me.ba mc.data.length me.bc, .int .u64 (mc.v.id : Int), .slice me.ma mc.v.mem.length me.mc, .slice me.la mc.v.lvs.length me.lc, .slice me.da mc.v.ldr.length me.dc, .int .u64 (mv.id : Int), .slice mx.ma mv.mem.length mx.mc, .slice mx.la mv.lvs.length mx.lc, .slice mx.da mv.ldr.length mx.dc, .slice my m7 mz] :: [])) (by kernel_rfl) (H.drew.sub sU) ?_
        replace H := H.drew
        have HS := H
        refine rg_take (i := 0) rfl kR kR kR (Yld.o rfl) (H.sub sU) ?_; simp only [pS]
        first | (refine rg_take (i := 1) rfl kR kR kR (Yld.ldo rfl rfl agg4 rfl (by assumption) (by assumption)) (H.sub sU) ?_; simp only [pS]) | (refine rg_take (i := 1) rfl kR kR kR (Yld.ldc rfl rfl agg4 rfl mR cE) (H.sub sU) ?_; simp only [pS])
        refine rg_take (i := 2) rfl kR kR kR (Yld.move rfl rfl) (H.sub sU) ?_; simp only [pS, pE]
        refine rg_take (i := 3) rfl kR kR kR (Yld.skip rfl) (H.sub sU) ?_; simp only [pS]
        refine rg_take (i := 4) rfl kR kR kR (Yld.skip rfl) (H.sub sU) ?_; simp only [pS]
        refine rg_take (i := 5) rfl kR kR kR (Yld.skip rfl) (H.sub sU) ?_; simp only [pS]
        refine rg_take (i := 6) rfl kR kR kR (Yld.skip rfl) (H.sub sU) ?_; simp only [pS]
        refine rg_take (i := 7) rfl kR kR kR (Yld.skip rfl) (H.sub sU) ?_; simp only [pS]
        refine rg_take (i := 8) rfl kR kR kR (Yld.skip rfl) (H.sub sU) ?_; simp only [pS]
        refine rg_take (i := 9) rfl kR kR kR (Yld.skip rfl) (H.sub sU) ?_; simp only [pS]
        refine rg_take (i := 10) rfl kR kR kR (Yld.skip rfl) (H.sub sU) ?_; simp only [pS]
        refine rg_take (i := 11) rfl kR kR kR (Yld.skip rfl) (H.sub sU) ?_; simp only [pS]
        refine rg_take (i := 12) rfl kR kR kR (Yld.skip rfl) (H.sub sU) ?_; simp only [pS]
        refine rg_take (i := 13) rfl kR kR kR (Yld.skip rfl) (H.sub sU) ?_; simp only [pS]
        refine rg_take (i := 14) rfl kR kR kR (Yld.skip rfl) (H.sub sU) ?_; simp only [pS]
        refine rg_take (i := 15) rfl kR kR kR (Yld.skip rfl) (H.sub sU) ?_; simp only [pS]
        refine rg_take (i := 16) rfl kR kR kR (Yld.skip rfl) (H.sub sU) ?_; simp only [pS]
        refine rg_take (i := 17) rfl kR kR kR (Yld.skip rfl) (H.sub sU) ?_; simp only [pS]
        refine rg_take (i := 18) rfl kR kR kR (Yld.skip rfl) (H.sub sU) ?_; simp only [pS]
        refine rg_take (i := 19) rfl kR kR kR (Yld.skip rfl) (H.sub sU) ?_; simp only [pS]
        refine rg_take (i := 20) rfl kR kR kR (Yld.pick rfl rfl rfl) (H.sub sU) ?_; simp only [pS, pE]
        refine rg_done (by kernel_rfl) ?_
        go_wp2_with (first | (go_at_call 86; (with_reducible refine (most_is gp sf sn 1 la n lc sl bl (some ⟨gv, 0, none⟩) c1 c2 ld hn0 hn hcl1 hcl2 _ HMJ.out _ (H.pull (r := row 129 gp #[.int .u16 (sf.1 : Int), .int .u32 (sf.2 : Int), .int .u32 (sn.r : Int), .int .u16 (sn.w.1 : Int), .int .u32 (sn.w.2 : Int), .int .i64 1, .slice la n lc, .int .u64 (sl : Int), .int .u32 (bl.r : Int), .int .u16 (bl.w.1 : Int), .int .u32 (bl.w.2 : Int), .pointer (some ⟨gv, 0, none⟩), .int .u64 (c1 : Int), .int .u64 (c2 : Int)]) pU)).mono ?_); rintro e w1 ⟨v, rfl, hr⟩; obtain ⟨rfl, H2⟩ := hr; clear H; have H := H2; clear H2) | (with_reducible refine wpl rfl (dQ 4 rfl ?_); with_reducible refine (Stp.box 4 rfl rfl rfl H ?_); clear H; intro g4 w1 H; simp only [pS]; simp only [pE, nC, pS] at H) | (with_reducible refine wpl rfl (dQ 5 rfl ?_); with_reducible refine (Stp.box 5 rfl rfl rfl H ?_); clear H; intro g5 w1 H; simp only [pS]; simp only [pE, nC, pS] at H) | (with_reducible refine wpl rfl (ldQ (ty := 36) rfl ?_); first | (with_reducible refine (Stp.ldor rfl agg36 size36 rfl H (by assumption) sZ (by assumption) ?_); simp only [pS]) | (with_reducible refine (Stp.ldr rfl agg36 size36 rfl H mR sZ ?_); simp only [pS]) | (with_reducible refine (Stp.ldl rfl agg36 size36 rfl H mR (by simp) ?_); simp only [pS]; simp only [List.drop_succ_cons, List.drop_zero, List.take_succ_cons, List.take_zero])) | (with_reducible refine wpl rfl (ldQ (ty := 74) rfl ?_); first | (with_reducible refine (Stp.ldor rfl agg74 size74 rfl H (by assumption) sZ (by assumption) ?_); simp only [pS]) | (with_reducible refine (Stp.ldr rfl agg74 size74 rfl H mR sZ ?_); simp only [pS]) | (with_reducible refine (Stp.ldl rfl agg74 size74 rfl H mR (by simp) ?_); simp only [pS]; simp only [List.drop_succ_cons, List.drop_zero, List.take_succ_cons, List.take_zero])) | (with_reducible refine wpl rfl (stQ (ty := 3) rfl ?_); first | (with_reducible refine (Stp.stc rfl size3 rfl rfl rfl rfl H uP (by first | omega | (simp; done) | (simp; omega)) ?_); clear H; intro w1 H; simp only [pS]; simp only [pE, nC, pS] at H)))
        go_ret
        refine ⟨_, rfl, rfl, (some ⟨gv, 0, none⟩), _, ⟨gv, hd, G, rfl, rfl⟩, ?_⟩
        exact (((((H.pull (r := cmr G _ _ _ _ c) pU).pull (r := row 140 gv #[.int .u32 (u.r : Int), .int .u16 (u.w.1 : Int), .int .u32 (u.w.2 : Int), .int .i64 c.kind, .int .u16 (c.fr.1 : Int), .int .u32 (c.fr.2 : Int), .int .u64 (c.num : Int), .int .u64 (c.vw : Int), .slice hd.ba c.data.length hd.bc, .int .u64 (c.v.id : Int), .slice hd.ma c.v.mem.length hd.mc, .slice hd.la c.v.lvs.length hd.lc, .slice hd.da c.v.ldr.length hd.dc]) pU).sep.pull (r := slc 36 2 (.slice la n lc) n (pv ld)) pU).pull (r := row 129 gp _) pU).sub sU)
    · cases hbf : blt u ma
      · have HBF := Lib.hid hbf
        rw [show updB (some (u, c)) true ma = false from by unfold updB; simp [hbf]]
        clear hbf
        cases r
        all_goals
          go_enter Try.func41, Try.ntmps41
          go_wp2_with (first | (go_at_call 85; (with_reducible refine (ans_yes gp sf sn 1 la n lc sl bl (some ⟨gv, 0, none⟩) a1 a2 ld 1 5 q 5 m1 m2 m3 m5 m6 sl bl ma true mc me mv mx my m7 mz HLN.out hn6 b1 b2 rfl rfl rfl rfl z HZ.out hz0 HH.out c1 c2 HC.out _ ((H.pull (r := slc 36 2 (.slice la n lc) n (pv ld)) pU).pull (r := row 129 gp #[.int .u16 (sf.1 : Int), .int .u32 (sf.2 : Int), .int .u32 (sn.r : Int), .int .u16 (sn.w.1 : Int), .int .u32 (sn.w.2 : Int), .int .i64 1, .slice la n lc, .int .u64 (sl : Int), .int .u32 (bl.r : Int), .int .u16 (bl.w.1 : Int), .int .u32 (bl.w.2 : Int), .pointer (some ⟨gv, 0, none⟩), .int .u64 (a1 : Int), .int .u64 (a2 : Int)]) pU)).mono ?_); rintro e w1 ⟨v, rfl, hr⟩; obtain ⟨rfl, H2⟩ := hr; clear H; have H := H2; clear H2) | (with_reducible refine wpl rfl (dQ 4 rfl ?_); with_reducible refine (Stp.box 4 rfl rfl rfl H ?_); clear H; intro g4 w1 H; simp only [pS]; simp only [pE, nC, pS] at H) | (with_reducible refine wpl rfl (dQ 5 rfl ?_); with_reducible refine (Stp.box 5 rfl rfl rfl H ?_); clear H; intro g5 w1 H; simp only [pS]; simp only [pE, nC, pS] at H) | (with_reducible refine wpl rfl (ldQ (ty := 36) rfl ?_); first | (with_reducible refine (Stp.ldor rfl agg36 size36 rfl H (by assumption) sZ (by assumption) ?_); simp only [pS]) | (with_reducible refine (Stp.ldr rfl agg36 size36 rfl H mR sZ ?_); simp only [pS]) | (with_reducible refine (Stp.ldl rfl agg36 size36 rfl H mR (by simp) ?_); simp only [pS]; simp only [List.drop_succ_cons, List.drop_zero, List.take_succ_cons, List.take_zero])) | (with_reducible refine wpl rfl (ldQ (ty := 74) rfl ?_); first | (with_reducible refine (Stp.ldor rfl agg74 size74 rfl H (by assumption) sZ (by assumption) ?_); simp only [pS]) | (with_reducible refine (Stp.ldr rfl agg74 size74 rfl H mR sZ ?_); simp only [pS]) | (with_reducible refine (Stp.ldl rfl agg74 size74 rfl H mR (by simp) ?_); simp only [pS]; simp only [List.drop_succ_cons, List.drop_zero, List.take_succ_cons, List.take_zero])) | (with_reducible refine wpl rfl (stQ (ty := 3) rfl ?_); first | (with_reducible refine (Stp.stc rfl size3 rfl rfl rfl rfl H uP (by first | omega | (simp; done) | (simp; omega)) ?_); clear H; intro w1 H; simp only [pS]; simp only [pE, nC, pS] at H)))
          refine rg_begin 21 rfl (S := fun W => St _ _ W (row 129 gp #[.int .u16 (sf.1 : Int), .int .u32 (sf.2 : Int), .int .u32 (sn.r : Int), .int .u16 (sn.w.1 : Int), .int .u32 (sn.w.2 : Int), .int .i64 1, .slice la n lc, .int .u64 (sl : Int), .int .u32 (bl.r : Int), .int .u16 (bl.w.1 : Int), .int .u32 (bl.w.2 : Int), .pointer (some ⟨gv, 0, none⟩), .int .u64 (c1 : Int), .int .u64 (c2 : Int)] :: row 74 g5 #[.int .i64 5, .int .u16 m1, .int .u32 m2, .int .u64 m3, .int .u64 (sl : Int), .int .u64 m5, .int .i64 m6, .int .u32 (bl.r : Int), .int .u16 (bl.w.1 : Int), .int .u32 (bl.w.2 : Int), .int .u32 (ma.r : Int), .int .u16 (ma.w.1 : Int), .int .u32 (ma.w.2 : Int), .bool true, .int .i64 mc.kind, .int .u16 (mc.fr.1 : Int), .int .u32 (mc.fr.2 : Int), .int .u64 (mc.num : Int), .int .u64 (mc.vw : Int), .slice me.ba mc.data.length me.bc, .int .u64 (mc.v.id : Int), .slice me.ma mc.v.mem.length me.mc, .slice me.la mc.v.lvs.length me.lc, .slice me.da mc.v.ldr.length me.dc, .int .u64 (mv.id : Int), .slice mx.ma mv.mem.length mx.mc, .slice mx.la mv.lvs.length mx.lc, .slice mx.da mv.ldr.length mx.dc, .slice my m7 mz] :: row 140 gv #[.int .u32 (u.r : Int), .int .u16 (u.w.1 : Int), .int .u32 (u.w.2 : Int), .int .i64 c.kind, .int .u16 (c.fr.1 : Int), .int .u32 (c.fr.2 : Int), .int .u64 (c.num : Int), .int .u64 (c.vw : Int), .slice hd.ba c.data.length hd.bc, .int .u64 (c.v.id : Int), .slice hd.ma c.v.mem.length hd.mc, .slice hd.la c.v.lvs.length hd.lc, .slice hd.da c.v.ldr.length hd.dc] :: [])) (by kernel_rfl) (H.drew.sub sU) ?_
          replace H := H.drew
          have HS := H
          refine rg_take (i := 0) rfl kR kR kR (Yld.o rfl) (H.sub sU) ?_; simp only [pS]
          first | (refine rg_take (i := 1) rfl kR kR kR (Yld.ldo rfl rfl agg4 rfl (by assumption) (by assumption)) (H.sub sU) ?_; simp only [pS]) | (refine rg_take (i := 1) rfl kR kR kR (Yld.ldc rfl rfl agg4 rfl mR cE) (H.sub sU) ?_; simp only [pS])
          refine rg_take (i := 2) rfl kR kR kR (Yld.move rfl rfl) (H.sub sU) ?_; simp only [pS, pE]
          refine rg_take (i := 3) rfl kR kR kR (Yld.move rfl rfl) (H.sub sU) ?_; simp only [pS, pE]
          refine rg_take (i := 4) rfl kR kR kR (Yld.o rfl) (H.sub sU) ?_; simp only [pS]
          refine rg_take (i := 5) rfl kR kR kR (Yld.o rfl) (H.sub sU) ?_; simp only [pS]
          first | (refine rg_take (i := 6) rfl kR kR kR (Yld.ldo rfl rfl agg125 rfl (by assumption) (by assumption)) (H.sub sU) ?_; simp only [pS]) | (refine rg_take (i := 6) rfl kR kR kR (Yld.ldc rfl rfl agg125 rfl mR cE) (H.sub sU) ?_; simp only [pS])
          refine rg_take (i := 7) rfl kR kR kR (Yld.o rfl) (H.sub sU) ?_; simp only [pS]
          refine rg_take (i := 8) rfl kR kR kR (Yld.move rfl rfl) (H.sub sU) ?_; simp only [pS, pE]
          refine rg_take (i := 9) rfl kR kR kR (Yld.move rfl rfl) (H.sub sU) ?_; simp only [pS, pE]
          refine rg_take (i := 10) rfl kR kR kR (Yld.o rfl) (H.sub sU) ?_; simp only [pS]
          refine rg_take (i := 11) rfl kR kR kR (Yld.o rfl) (H.sub sU) ?_; simp only [pS]
          first | (refine rg_take (i := 12) rfl kR kR kR (Yld.ldo rfl rfl agg125 rfl (by assumption) (by assumption)) (H.sub sU) ?_; simp only [pS]) | (refine rg_take (i := 12) rfl kR kR kR (Yld.ldc rfl rfl agg125 rfl mR cE) (H.sub sU) ?_; simp only [pS])
          refine rg_take (i := 13) rfl kR kR kR (Yld.o rfl) (H.sub sU) ?_; simp only [pS]
          refine rg_take (i := 14) rfl kR kR kR (Yld.o rfl) (H.sub sU) ?_; simp only [pS]
          first | (refine rg_take (i := 15) rfl kR kR kR (Yld.ldor rfl rfl agg67 size67 rfl (by assumption) sZ (by assumption)) (H.sub sU) ?_; simp only [pS]) | (refine rg_take (i := 15) rfl kR kR kR (Yld.ldr rfl rfl agg67 size67 rfl mR sZ) (H.sub sU) ?_; simp only [pS]) | (refine rg_take (i := 15) rfl kR kR kR (Yld.ldl rfl rfl agg67 size67 rfl mR (by simp)) (H.sub sU) ?_; simp only [pS]; simp only [List.drop_succ_cons, List.drop_zero, List.take_succ_cons, List.take_zero])
          refine rg_take (i := 16) rfl kR kR kR (Yld.o rfl) (H.sub sU) ?_; simp only [pS]
          first | (refine rg_take (i := 17) rfl kR kR kR (Yld.ldor rfl rfl agg67 size67 rfl (by assumption) sZ (by assumption)) (H.sub sU) ?_; simp only [pS]) | (refine rg_take (i := 17) rfl kR kR kR (Yld.ldr rfl rfl agg67 size67 rfl mR sZ) (H.sub sU) ?_; simp only [pS]) | (refine rg_take (i := 17) rfl kR kR kR (Yld.ldl rfl rfl agg67 size67 rfl mR (by simp)) (H.sub sU) ?_; simp only [pS]; simp only [List.drop_succ_cons, List.drop_zero, List.take_succ_cons, List.take_zero])
          refine rg_one (i := 18) (by kernel_rfl) rfl rfl (fun K hK => ?_)
          refine wp_callf rfl ent84 (before_ok u ma hu1 hu2 ha1 ha2 false HBF.out _) rfl (fun v w1 hr => ?_)
          obtain ⟨rfl, hb1⟩ := hr
          replace H := H.grow hb1
          clear hb1
          clear HS
          have HS := H
          refine hK.out _ _ (H.sub sU) ?_
          clear hK K
          simp only [pS]
          refine rg_take (i := 19) rfl kR kR kR (Yld.pick rfl rfl rfl) (H.sub sU) ?_; simp only [pS, pE]
          refine rg_take (i := 20) rfl kR kR kR (Yld.pick rfl rfl rfl) (H.sub sU) ?_; simp only [pS, pE]
          refine rg_done (by kernel_rfl) ?_
          go_wp2_with (first | (go_at_call 86; (with_reducible refine (most_is gp sf sn 1 la n lc sl bl (some ⟨gv, 0, none⟩) c1 c2 ld hn0 hn hcl1 hcl2 _ HMJ.out _ (H.pull (r := row 129 gp #[.int .u16 (sf.1 : Int), .int .u32 (sf.2 : Int), .int .u32 (sn.r : Int), .int .u16 (sn.w.1 : Int), .int .u32 (sn.w.2 : Int), .int .i64 1, .slice la n lc, .int .u64 (sl : Int), .int .u32 (bl.r : Int), .int .u16 (bl.w.1 : Int), .int .u32 (bl.w.2 : Int), .pointer (some ⟨gv, 0, none⟩), .int .u64 (c1 : Int), .int .u64 (c2 : Int)]) pU)).mono ?_); rintro e w1 ⟨v, rfl, hr⟩; obtain ⟨rfl, H2⟩ := hr; clear H; have H := H2; clear H2) | (with_reducible refine wpl rfl (dQ 4 rfl ?_); with_reducible refine (Stp.box 4 rfl rfl rfl H ?_); clear H; intro g4 w1 H; simp only [pS]; simp only [pE, nC, pS] at H) | (with_reducible refine wpl rfl (dQ 5 rfl ?_); with_reducible refine (Stp.box 5 rfl rfl rfl H ?_); clear H; intro g5 w1 H; simp only [pS]; simp only [pE, nC, pS] at H) | (with_reducible refine wpl rfl (ldQ (ty := 36) rfl ?_); first | (with_reducible refine (Stp.ldor rfl agg36 size36 rfl H (by assumption) sZ (by assumption) ?_); simp only [pS]) | (with_reducible refine (Stp.ldr rfl agg36 size36 rfl H mR sZ ?_); simp only [pS]) | (with_reducible refine (Stp.ldl rfl agg36 size36 rfl H mR (by simp) ?_); simp only [pS]; simp only [List.drop_succ_cons, List.drop_zero, List.take_succ_cons, List.take_zero])) | (with_reducible refine wpl rfl (ldQ (ty := 74) rfl ?_); first | (with_reducible refine (Stp.ldor rfl agg74 size74 rfl H (by assumption) sZ (by assumption) ?_); simp only [pS]) | (with_reducible refine (Stp.ldr rfl agg74 size74 rfl H mR sZ ?_); simp only [pS]) | (with_reducible refine (Stp.ldl rfl agg74 size74 rfl H mR (by simp) ?_); simp only [pS]; simp only [List.drop_succ_cons, List.drop_zero, List.take_succ_cons, List.take_zero])) | (with_reducible refine wpl rfl (stQ (ty := 3) rfl ?_); first | (with_reducible refine (Stp.stc rfl size3 rfl rfl rfl rfl H uP (by first | omega | (simp; done) | (simp; omega)) ?_); clear H; intro w1 H; simp only [pS]; simp only [pE, nC, pS] at H)))
          go_ret
          refine ⟨_, rfl, rfl, (some ⟨gv, 0, none⟩), _, ⟨gv, hd, G, rfl, rfl⟩, ?_⟩
          exact (((((H.pull (r := cmr G _ _ _ _ c) pU).pull (r := row 140 gv #[.int .u32 (u.r : Int), .int .u16 (u.w.1 : Int), .int .u32 (u.w.2 : Int), .int .i64 c.kind, .int .u16 (c.fr.1 : Int), .int .u32 (c.fr.2 : Int), .int .u64 (c.num : Int), .int .u64 (c.vw : Int), .slice hd.ba c.data.length hd.bc, .int .u64 (c.v.id : Int), .slice hd.ma c.v.mem.length hd.mc, .slice hd.la c.v.lvs.length hd.lc, .slice hd.da c.v.ldr.length hd.dc]) pU).sep.pull (r := slc 36 2 (.slice la n lc) n (pv ld)) pU).pull (r := row 129 gp _) pU).sub sU)
      · have HBF := Lib.hid hbf
        rw [show updB (some (u, c)) true ma = true from by unfold updB; simp [hbf]]
        clear hbf
        cases r
        all_goals
          go_enter Try.func41, Try.ntmps41
          go_wp2_with (first | (go_at_call 85; (with_reducible refine (ans_yes gp sf sn 1 la n lc sl bl (some ⟨gv, 0, none⟩) a1 a2 ld 1 5 q 5 m1 m2 m3 m5 m6 sl bl ma true mc me mv mx my m7 mz HLN.out hn6 b1 b2 rfl rfl rfl rfl z HZ.out hz0 HH.out c1 c2 HC.out _ ((H.pull (r := slc 36 2 (.slice la n lc) n (pv ld)) pU).pull (r := row 129 gp #[.int .u16 (sf.1 : Int), .int .u32 (sf.2 : Int), .int .u32 (sn.r : Int), .int .u16 (sn.w.1 : Int), .int .u32 (sn.w.2 : Int), .int .i64 1, .slice la n lc, .int .u64 (sl : Int), .int .u32 (bl.r : Int), .int .u16 (bl.w.1 : Int), .int .u32 (bl.w.2 : Int), .pointer (some ⟨gv, 0, none⟩), .int .u64 (a1 : Int), .int .u64 (a2 : Int)]) pU)).mono ?_); rintro e w1 ⟨v, rfl, hr⟩; obtain ⟨rfl, H2⟩ := hr; clear H; have H := H2; clear H2) | (with_reducible refine wpl rfl (dQ 4 rfl ?_); with_reducible refine (Stp.box 4 rfl rfl rfl H ?_); clear H; intro g4 w1 H; simp only [pS]; simp only [pE, nC, pS] at H) | (with_reducible refine wpl rfl (dQ 5 rfl ?_); with_reducible refine (Stp.box 5 rfl rfl rfl H ?_); clear H; intro g5 w1 H; simp only [pS]; simp only [pE, nC, pS] at H) | (with_reducible refine wpl rfl (ldQ (ty := 36) rfl ?_); first | (with_reducible refine (Stp.ldor rfl agg36 size36 rfl H (by assumption) sZ (by assumption) ?_); simp only [pS]) | (with_reducible refine (Stp.ldr rfl agg36 size36 rfl H mR sZ ?_); simp only [pS]) | (with_reducible refine (Stp.ldl rfl agg36 size36 rfl H mR (by simp) ?_); simp only [pS]; simp only [List.drop_succ_cons, List.drop_zero, List.take_succ_cons, List.take_zero])) | (with_reducible refine wpl rfl (ldQ (ty := 74) rfl ?_); first | (with_reducible refine (Stp.ldor rfl agg74 size74 rfl H (by assumption) sZ (by assumption) ?_); simp only [pS]) | (with_reducible refine (Stp.ldr rfl agg74 size74 rfl H mR sZ ?_); simp only [pS]) | (with_reducible refine (Stp.ldl rfl agg74 size74 rfl H mR (by simp) ?_); simp only [pS]; simp only [List.drop_succ_cons, List.drop_zero, List.take_succ_cons, List.take_zero])) | (with_reducible refine wpl rfl (stQ (ty := 3) rfl ?_); first | (with_reducible refine (Stp.stc rfl size3 rfl rfl rfl rfl H uP (by first | omega | (simp; done) | (simp; omega)) ?_); clear H; intro w1 H; simp only [pS]; simp only [pE, nC, pS] at H)))
          refine rg_begin 21 rfl (S := fun W => St _ _ W (row 129 gp #[.int .u16 (sf.1 : Int), .int .u32 (sf.2 : Int), .int .u32 (sn.r : Int), .int .u16 (sn.w.1 : Int), .int .u32 (sn.w.2 : Int), .int .i64 1, .slice la n lc, .int .u64 (sl : Int), .int .u32 (bl.r : Int), .int .u16 (bl.w.1 : Int), .int .u32 (bl.w.2 : Int), .pointer (some ⟨gv, 0, none⟩), .int .u64 (c1 : Int), .int .u64 (c2 : Int)] :: row 74 g5 #[.int .i64 5, .int .u16 m1, .int .u32 m2, .int .u64 m3, .int .u64 (sl : Int), .int .u64 m5, .int .i64 m6, .int .u32 (bl.r : Int), .int .u16 (bl.w.1 : Int), .int .u32 (bl.w.2 : Int), .int .u32 (ma.r : Int), .int .u16 (ma.w.1 : Int), .int .u32 (ma.w.2 : Int), .bool true, .int .i64 mc.kind, .int .u16 (mc.fr.1 : Int), .int .u32 (mc.fr.2 : Int), .int .u64 (mc.num : Int), .int .u64 (mc.vw : Int), .slice me.ba mc.data.length me.bc, .int .u64 (mc.v.id : Int), .slice me.ma mc.v.mem.length me.mc, .slice me.la mc.v.lvs.length me.lc, .slice me.da mc.v.ldr.length me.dc, .int .u64 (mv.id : Int), .slice mx.ma mv.mem.length mx.mc, .slice mx.la mv.lvs.length mx.lc, .slice mx.da mv.ldr.length mx.dc, .slice my m7 mz] :: row 140 gv #[.int .u32 (u.r : Int), .int .u16 (u.w.1 : Int), .int .u32 (u.w.2 : Int), .int .i64 c.kind, .int .u16 (c.fr.1 : Int), .int .u32 (c.fr.2 : Int), .int .u64 (c.num : Int), .int .u64 (c.vw : Int), .slice hd.ba c.data.length hd.bc, .int .u64 (c.v.id : Int), .slice hd.ma c.v.mem.length hd.mc, .slice hd.la c.v.lvs.length hd.lc, .slice hd.da c.v.ldr.length hd.dc] :: [])) (by kernel_rfl) (H.drew.sub sU) ?_
          replace H := H.drew
          have HS := H
          refine rg_take (i := 0) rfl kR kR kR (Yld.o rfl) (H.sub sU) ?_; simp only [pS]
          first | (refine rg_take (i := 1) rfl kR kR kR (Yld.ldo rfl rfl agg4 rfl (by assumption) (by assumption)) (H.sub sU) ?_; simp only [pS]) | (refine rg_take (i := 1) rfl kR kR kR (Yld.ldc rfl rfl agg4 rfl mR cE) (H.sub sU) ?_; simp only [pS])
          refine rg_take (i := 2) rfl kR kR kR (Yld.move rfl rfl) (H.sub sU) ?_; simp only [pS, pE]
          refine rg_take (i := 3) rfl kR kR kR (Yld.move rfl rfl) (H.sub sU) ?_; simp only [pS, pE]
          refine rg_take (i := 4) rfl kR kR kR (Yld.o rfl) (H.sub sU) ?_; simp only [pS]
          refine rg_take (i := 5) rfl kR kR kR (Yld.o rfl) (H.sub sU) ?_; simp only [pS]
          first | (refine rg_take (i := 6) rfl kR kR kR (Yld.ldo rfl rfl agg125 rfl (by assumption) (by assumption)) (H.sub sU) ?_; simp only [pS]) | (refine rg_take (i := 6) rfl kR kR kR (Yld.ldc rfl rfl agg125 rfl mR cE) (H.sub sU) ?_; simp only [pS])
          refine rg_take (i := 7) rfl kR kR kR (Yld.o rfl) (H.sub sU) ?_; simp only [pS]
          refine rg_take (i := 8) rfl kR kR kR (Yld.move rfl rfl) (H.sub sU) ?_; simp only [pS, pE]
          refine rg_take (i := 9) rfl kR kR kR (Yld.move rfl rfl) (H.sub sU) ?_; simp only [pS, pE]
          refine rg_take (i := 10) rfl kR kR kR (Yld.o rfl) (H.sub sU) ?_; simp only [pS]
          refine rg_take (i := 11) rfl kR kR kR (Yld.o rfl) (H.sub sU) ?_; simp only [pS]
          first | (refine rg_take (i := 12) rfl kR kR kR (Yld.ldo rfl rfl agg125 rfl (by assumption) (by assumption)) (H.sub sU) ?_; simp only [pS]) | (refine rg_take (i := 12) rfl kR kR kR (Yld.ldc rfl rfl agg125 rfl mR cE) (H.sub sU) ?_; simp only [pS])
          refine rg_take (i := 13) rfl kR kR kR (Yld.o rfl) (H.sub sU) ?_; simp only [pS]
          refine rg_take (i := 14) rfl kR kR kR (Yld.o rfl) (H.sub sU) ?_; simp only [pS]
          first | (refine rg_take (i := 15) rfl kR kR kR (Yld.ldor rfl rfl agg67 size67 rfl (by assumption) sZ (by assumption)) (H.sub sU) ?_; simp only [pS]) | (refine rg_take (i := 15) rfl kR kR kR (Yld.ldr rfl rfl agg67 size67 rfl mR sZ) (H.sub sU) ?_; simp only [pS]) | (refine rg_take (i := 15) rfl kR kR kR (Yld.ldl rfl rfl agg67 size67 rfl mR (by simp)) (H.sub sU) ?_; simp only [pS]; simp only [List.drop_succ_cons, List.drop_zero, List.take_succ_cons, List.take_zero])
          refine rg_take (i := 16) rfl kR kR kR (Yld.o rfl) (H.sub sU) ?_; simp only [pS]
          first | (refine rg_take (i := 17) rfl kR kR kR (Yld.ldor rfl rfl agg67 size67 rfl (by assumption) sZ (by assumption)) (H.sub sU) ?_; simp only [pS]) | (refine rg_take (i := 17) rfl kR kR kR (Yld.ldr rfl rfl agg67 size67 rfl mR sZ) (H.sub sU) ?_; simp only [pS]) | (refine rg_take (i := 17) rfl kR kR kR (Yld.ldl rfl rfl agg67 size67 rfl mR (by simp)) (H.sub sU) ?_; simp only [pS]; simp only [List.drop_succ_cons, List.drop_zero, List.take_succ_cons, List.take_zero])
          refine rg_one (i := 18) (by kernel_rfl) rfl rfl (fun K hK => ?_)
          refine wp_callf rfl ent84 (before_ok u ma hu1 hu2 ha1 ha2 true HBF.out _) rfl (fun v w1 hr => ?_)
          obtain ⟨rfl, hb1⟩ := hr
          replace H := H.grow hb1
          clear hb1
          clear HS
          have HS := H
          refine hK.out _ _ (H.sub sU) ?_
          clear hK K
          simp only [pS]
          refine rg_take (i := 19) rfl kR kR kR (Yld.pick rfl rfl rfl) (H.sub sU) ?_; simp only [pS, pE]
          refine rg_take (i := 20) rfl kR kR kR (Yld.pick rfl rfl rfl) (H.sub sU) ?_; simp only [pS, pE]
          refine rg_done (by kernel_rfl) ?_
          go_wp2_with (first | (with_reducible refine wpl rfl (dQ 4 rfl ?_); with_reducible refine (Stp.box 4 rfl rfl rfl H ?_); clear H; intro g4 w1 H; simp only [pS]; simp only [pE, nC, pS] at H) | (with_reducible refine wpl rfl (dQ 5 rfl ?_); with_reducible refine (Stp.box 5 rfl rfl rfl H ?_); clear H; intro g5 w1 H; simp only [pS]; simp only [pE, nC, pS] at H) | (with_reducible refine wpl rfl (ldQ (ty := 36) rfl ?_); first | (with_reducible refine (Stp.ldor rfl agg36 size36 rfl H (by assumption) sZ (by assumption) ?_); simp only [pS]) | (with_reducible refine (Stp.ldr rfl agg36 size36 rfl H mR sZ ?_); simp only [pS]) | (with_reducible refine (Stp.ldl rfl agg36 size36 rfl H mR (by simp) ?_); simp only [pS]; simp only [List.drop_succ_cons, List.drop_zero, List.take_succ_cons, List.take_zero])) | (with_reducible refine wpl rfl (ldQ (ty := 74) rfl ?_); first | (with_reducible refine (Stp.ldor rfl agg74 size74 rfl H (by assumption) sZ (by assumption) ?_); simp only [pS]) | (with_reducible refine (Stp.ldr rfl agg74 size74 rfl H mR sZ ?_); simp only [pS]) | (with_reducible refine (Stp.ldl rfl agg74 size74 rfl H mR (by simp) ?_); simp only [pS]; simp only [List.drop_succ_cons, List.drop_zero, List.take_succ_cons, List.take_zero])) | (with_reducible refine wpl rfl (stQ (ty := 3) rfl ?_); first | (with_reducible refine (Stp.stc rfl size3 rfl rfl rfl rfl H uP (by first | omega | (simp; done) | (simp; omega)) ?_); clear H; intro w1 H; simp only [pS]; simp only [pE, nC, pS] at H)))
          refine rg_begin 11 rfl (S := fun W => St _ _ W (row 74 g5 #[.int .i64 5, .int .u16 m1, .int .u32 m2, .int .u64 m3, .int .u64 (sl : Int), .int .u64 m5, .int .i64 m6, .int .u32 (bl.r : Int), .int .u16 (bl.w.1 : Int), .int .u32 (bl.w.2 : Int), .int .u32 (ma.r : Int), .int .u16 (ma.w.1 : Int), .int .u32 (ma.w.2 : Int), .bool true, .int .i64 mc.kind, .int .u16 (mc.fr.1 : Int), .int .u32 (mc.fr.2 : Int), .int .u64 (mc.num : Int), .int .u64 (mc.vw : Int), .slice me.ba mc.data.length me.bc, .int .u64 (mc.v.id : Int), .slice me.ma mc.v.mem.length me.mc, .slice me.la mc.v.lvs.length me.lc, .slice me.da mc.v.ldr.length me.dc, .int .u64 (mv.id : Int), .slice mx.ma mv.mem.length mx.mc, .slice mx.la mv.lvs.length mx.lc, .slice mx.da mv.ldr.length mx.dc, .slice my m7 mz] :: [])) (by kernel_rfl) (H.drew.sub sU) ?_
          replace H := H.drew
          have HS := H
          refine rg_take (i := 0) rfl kR kR kR (Yld.move rfl rfl) (H.sub sU) ?_; simp only [pS, pE]
          refine rg_take (i := 1) rfl kR kR kR (Yld.o rfl) (H.sub sU) ?_; simp only [pS]
          first | (refine rg_take (i := 2) rfl kR kR kR (Yld.ldor rfl rfl agg67 size67 rfl (by assumption) sZ (by assumption)) (H.sub sU) ?_; simp only [pS]) | (refine rg_take (i := 2) rfl kR kR kR (Yld.ldr rfl rfl agg67 size67 rfl mR sZ) (H.sub sU) ?_; simp only [pS]) | (refine rg_take (i := 2) rfl kR kR kR (Yld.ldl rfl rfl agg67 size67 rfl mR (by simp)) (H.sub sU) ?_; simp only [pS]; simp only [List.drop_succ_cons, List.drop_zero, List.take_succ_cons, List.take_zero])
          refine rg_take (i := 3) rfl kR kR kR (Yld.o rfl) (H.sub sU) ?_; simp only [pS]
          first | (refine rg_take (i := 4) rfl kR kR kR (Yld.ldor rfl rfl agg43 size43 rfl (by assumption) sZ (by assumption)) (H.sub sU) ?_; simp only [pS]) | (refine rg_take (i := 4) rfl kR kR kR (Yld.ldr rfl rfl agg43 size43 rfl mR sZ) (H.sub sU) ?_; simp only [pS]) | (refine rg_take (i := 4) rfl kR kR kR (Yld.ldl rfl rfl agg43 size43 rfl mR (by simp)) (H.sub sU) ?_; simp only [pS]; simp only [List.drop_succ_cons, List.drop_zero, List.take_succ_cons, List.take_zero])
          refine rg_one (i := 5) (by kernel_rfl) rfl rfl (fun K hK => ?_)
          refine wp_callf rfl ent83 (ccopy_ok mc me.ba me.ma me.la me.da me.bc me.mc me.lc me.dc hm _ (hx.at H (by repeat (first | exact List.Sublist.refl _ | apply List.Sublist.cons)))) rfl (fun v w1 hr => ?_)
          obtain ⟨G2, ab, am, al, ad, cb, cm, cl, cd, rfl, hG2, hv2, hb1⟩ := hr
          replace H := H.new hb1 (cmr_sound hG2 hv2) (fun g hg => (hG2 g hg).1)
          clear hb1 hG2 hv2
          clear HS
          have HS := H
          refine hK.out _ _ (H.sub sU) ?_
          clear hK K
          simp only [pS]
          refine rg_take (i := 6) rfl kR kR kR (Yld.o rfl) (H.sub sU) ?_; simp only [pS]
          refine rg_one (i := 7) (by kernel_rfl) rfl rfl (fun K hK => ?_)
          refine Stp.wp (Stp.box (v := .agg #[.int .u32 (ma.r : Int), .int .u16 (ma.w.1 : Int), .int .u32 (ma.w.2 : Int), .int .i64 mc.kind, .int .u16 (mc.fr.1 : Int), .int .u32 (mc.fr.2 : Int), .int .u64 (mc.num : Int), .int .u64 (mc.vw : Int), .slice ab mc.data.length cb, .int .u64 (mc.v.id : Int), .slice am mc.v.mem.length cm, .slice al mc.v.lvs.length cl, .slice ad mc.v.ldr.length cd]) 40 rfl rfl rfl H ?_)
          clear H
          intro g40 w1 H
          simp only [cells_agg] at H
          clear HS
          have HS := H
          refine hK.out _ _ (H.sub sU) ?_
          clear hK K
          simp only [pS]
          refine rg_take (i := 8) rfl kR kR kR (Yld.o rfl) (H.sub sU) ?_; simp only [pS]
          refine rg_take (i := 9) rfl kR kR kR (Yld.o rfl) (H.sub sU) ?_; simp only [pS]
          refine rg_one (i := 10) (by kernel_rfl) rfl rfl (fun K hK => ?_)
          refine Stp.wp (Stp.stc rfl size125 rfl rfl rfl rfl H uP (by simp) ?_)
          clear H
          intro w1 H
          simp only [pE, nC, pS] at H
          clear HS
          have HS := H
          refine hK.out _ _ (H.sub sU) ?_
          clear hK K
          simp only [pS]
          refine rg_done (by kernel_rfl) ?_
          go_wp2_with (first | (go_at_call 86; (with_reducible refine (most_is gp sf sn 1 la n lc sl bl (some ⟨g40, 0, none⟩) c1 c2 ld hn0 hn hcl1 hcl2 _ HMJ.out _ (H.pull (r := row 129 gp #[.int .u16 (sf.1 : Int), .int .u32 (sf.2 : Int), .int .u32 (sn.r : Int), .int .u16 (sn.w.1 : Int), .int .u32 (sn.w.2 : Int), .int .i64 1, .slice la n lc, .int .u64 (sl : Int), .int .u32 (bl.r : Int), .int .u16 (bl.w.1 : Int), .int .u32 (bl.w.2 : Int), .pointer (some ⟨g40, 0, none⟩), .int .u64 (c1 : Int), .int .u64 (c2 : Int)]) pU)).mono ?_); rintro e w1 ⟨v, rfl, hr⟩; obtain ⟨rfl, H2⟩ := hr; clear H; have H := H2; clear H2) | (with_reducible refine wpl rfl (dQ 4 rfl ?_); with_reducible refine (Stp.box 4 rfl rfl rfl H ?_); clear H; intro g4 w1 H; simp only [pS]; simp only [pE, nC, pS] at H) | (with_reducible refine wpl rfl (dQ 5 rfl ?_); with_reducible refine (Stp.box 5 rfl rfl rfl H ?_); clear H; intro g5 w1 H; simp only [pS]; simp only [pE, nC, pS] at H) | (with_reducible refine wpl rfl (ldQ (ty := 36) rfl ?_); first | (with_reducible refine (Stp.ldor rfl agg36 size36 rfl H (by assumption) sZ (by assumption) ?_); simp only [pS]) | (with_reducible refine (Stp.ldr rfl agg36 size36 rfl H mR sZ ?_); simp only [pS]) | (with_reducible refine (Stp.ldl rfl agg36 size36 rfl H mR (by simp) ?_); simp only [pS]; simp only [List.drop_succ_cons, List.drop_zero, List.take_succ_cons, List.take_zero])) | (with_reducible refine wpl rfl (ldQ (ty := 74) rfl ?_); first | (with_reducible refine (Stp.ldor rfl agg74 size74 rfl H (by assumption) sZ (by assumption) ?_); simp only [pS]) | (with_reducible refine (Stp.ldr rfl agg74 size74 rfl H mR sZ ?_); simp only [pS]) | (with_reducible refine (Stp.ldl rfl agg74 size74 rfl H mR (by simp) ?_); simp only [pS]; simp only [List.drop_succ_cons, List.drop_zero, List.take_succ_cons, List.take_zero])) | (with_reducible refine wpl rfl (stQ (ty := 3) rfl ?_); first | (with_reducible refine (Stp.stc rfl size3 rfl rfl rfl rfl H uP (by first | omega | (simp; done) | (simp; omega)) ?_); clear H; intro w1 H; simp only [pS]; simp only [pE, nC, pS] at H)))
          go_ret
          refine ⟨_, rfl, rfl, some ⟨g40, 0, none⟩, _, ⟨g40, (⟨ab, am, al, ad, cb, cm, cl, cd⟩ : Hd), G2, rfl, rfl⟩, ?_⟩
          exact (((((H.pull (r := cmr G2 _ _ _ _ mc) pU).pull (r := row 140 g40 #[.int .u32 (ma.r : Int), .int .u16 (ma.w.1 : Int), .int .u32 (ma.w.2 : Int), .int .i64 mc.kind, .int .u16 (mc.fr.1 : Int), .int .u32 (mc.fr.2 : Int), .int .u64 (mc.num : Int), .int .u64 (mc.vw : Int), .slice ab mc.data.length cb, .int .u64 (mc.v.id : Int), .slice am mc.v.mem.length cm, .slice al mc.v.lvs.length cl, .slice ad mc.v.ldr.length cd]) pU).sep.pull (r := slc 36 2 (.slice la n lc) n (pv ld)) pU).pull (r := row 129 gp _) pU).sub sU)
end Go.Proofs.Ytjghcmejmdllbaa
