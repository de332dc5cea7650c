/- Layer 21's Proposer (elect): what is refused; Accepted; Propose of what must be; the bounds stand in each. -/
import Derived.Deep.Cut
import Derived.Test.YtjghcmejmdllbaaEz15
namespace Go.Proofs.Ytjghcmejmdllbaa
open Go.ChangeShapes Go.WideShapes Go.ChangeAt Go.RowKit Go.Maps Go.Deep
set_option linter.unusedVariables false
set_option linter.unusedSimpArgs false
set_option linter.unusedSectionVars false
set_option maxRecDepth 100000
set_option maxHeartbeats 4000000
attribute [local irreducible] hasM setM atR majM cErr vErr vOk
theorem ans_no {B : Nat} {w0 : World} {L : List Res} (gp : Nat) (sf : Pr) (sn : Bl) (ph : Int) (la : Option Addr) (n lc sl : Nat) (bl : Bl) (vp : Option Addr) (a1 a2 : Nat) (ld : List Pr) (p0 k0 : Int) (q : Pr) (kd m1 m2 m3 m5 m6 : Int) (ms : Nat) (mb ma : Bl) (mh : Bool) (mc : Cm) (me : Hd) (mv : Vw) (mx : Hd) (my : Option Addr) (m7 mz : Nat) (hln : ld.length = n) (hn : n ≤ 1000000) (b1 : a1 < 18446744073709551616) (b2 : a2 < 18446744073709551616) (h : ¬ (ph = p0 ∧ kd = k0 ∧ ms = sl ∧ mb = bl ∧ 0 ≤ atR ld q ∧ hasM (a1, a2) (atR ld q) = false)) (w : World) (H : St B w0 w (row 129 gp #[.int .u16 (sf.1 : Int), .int .u32 (sf.2 : Int), .int .u32 (sn.r : Int), .int .u16 (sn.w.1 : Int), .int .u32 (sn.w.2 : Int), .int .i64 ph, .slice la n lc, .int .u64 (sl : Int), .int .u32 (bl.r : Int), .int .u16 (bl.w.1 : Int), .int .u32 (bl.w.2 : Int), .pointer vp, .int .u64 (a1 : Int), .int .u64 (a2 : Int)] :: slc 36 2 (.slice la n lc) n (pv ld) :: L)) :
    Calls Try.prog 85 #[.pointer (some ⟨gp, 0, none⟩), .int .i64 p0, .int .i64 k0, .agg #[.int .u16 (q.1 : Int), .int .u32 (q.2 : Int)], .agg #[.int .i64 kd, .int .u16 m1, .int .u32 m2, .int .u64 m3, .int .u64 (ms : Int), .int .u64 m5, .int .i64 m6, .int .u32 (mb.r : Int), .int .u16 (mb.w.1 : Int), .int .u32 (mb.w.2 : Int), .int .u32 (ma.r : Int), .int .u16 (ma.w.1 : Int), .int .u32 (ma.w.2 : Int), .bool mh, .int .i64 mc.kind, .int .u16 (mc.fr.1 : Int), .int .u32 (mc.fr.2 : Int), .int .u64 (mc.num : Int), .int .u64 (mc.vw : Int), .slice me.ba mc.data.length me.bc, .int .u64 (mc.v.id : Int), .slice me.ma mc.v.mem.length me.mc, .slice me.la mc.v.lvs.length me.lc, .slice me.da mc.v.ldr.length me.dc, .int .u64 (mv.id : Int), .slice mx.ma mv.mem.length mx.mc, .slice mx.la mv.lvs.length mx.lc, .slice mx.da mv.ldr.length mx.dc, .slice my m7 mz]] w (Ret fun v w' => v = .bool false ∧ St B w0 w' (row 129 gp #[.int .u16 (sf.1 : Int), .int .u32 (sf.2 : Int), .int .u32 (sn.r : Int), .int .u16 (sn.w.1 : Int), .int .u32 (sn.w.2 : Int), .int .i64 ph, .slice la n lc, .int .u64 (sl : Int), .int .u32 (bl.r : Int), .int .u16 (bl.w.1 : Int), .int .u32 (bl.w.2 : Int), .pointer vp, .int .u64 (a1 : Int), .int .u64 (a2 : Int)] :: slc 36 2 (.slice la n lc) n (pv ld) :: L)) := by
  by_cases h1 : ph = p0 ∧ kd = k0 ∧ ms = sl ∧ mb = bl
  · refine ans_no2 gp sf sn ph la n lc sl bl vp a1 a2 ld p0 k0 q kd m1 m2 m3 m5 m6 ms mb ma mh mc me mv mx my m7 mz hln hn b1 b2 h1.1 h1.2.1 h1.2.2.1 h1.2.2.2 ?_ w H
    by_cases h2 : atR ld q < 0
    · exact .inl h2
    · refine .inr ?_
      cases h3 : hasM (a1, a2) (atR ld q)
      · exact absurd ⟨h1.1, h1.2.1, h1.2.2.1, h1.2.2.2, by omega, h3⟩ h
      · rfl
  · exact ans_no1 gp sf sn ph la n lc sl bl vp a1 a2 ld p0 k0 q kd m1 m2 m3 m5 m6 ms mb ma mh mc me mv mx my m7 mz h1 w H
theorem prom_no {B : Nat} {w0 : World} {L : List Res} (gp : Nat) (sf : Pr) (sn : Bl) (ph : Int) (la : Option Addr) (n lc sl : Nat) (bl : Bl) (vp : Option Addr) (a1 a2 : Nat) (ld : List Pr) (q : Pr) (kd m1 m2 m3 m5 m6 : Int) (ms : Nat) (mb ma : Bl) (mh : Bool) (mc : Cm) (me : Hd) (mv : Vw) (mx : Hd) (my : Option Addr) (m7 mz : Nat) (hln : ld.length = n) (hn : n ≤ 1000000) (b1 : a1 < 18446744073709551616) (b2 : a2 < 18446744073709551616) (h : ¬ (ph = 1 ∧ kd = 5 ∧ ms = sl ∧ mb = bl ∧ 0 ≤ atR ld q ∧ hasM (a1, a2) (atR ld q) = false)) (w : World) (H : St B w0 w (row 129 gp #[.int .u16 (sf.1 : Int), .int .u32 (sf.2 : Int), .int .u32 (sn.r : Int), .int .u16 (sn.w.1 : Int), .int .u32 (sn.w.2 : Int), .int .i64 ph, .slice la n lc, .int .u64 (sl : Int), .int .u32 (bl.r : Int), .int .u16 (bl.w.1 : Int), .int .u32 (bl.w.2 : Int), .pointer vp, .int .u64 (a1 : Int), .int .u64 (a2 : Int)] :: slc 36 2 (.slice la n lc) n (pv ld) :: L)) :
    Calls Try.prog 41 #[.pointer (some ⟨gp, 0, none⟩), .agg #[.int .u16 (q.1 : Int), .int .u32 (q.2 : Int)], .agg #[.int .i64 kd, .int .u16 m1, .int .u32 m2, .int .u64 m3, .int .u64 (ms : Int), .int .u64 m5, .int .i64 m6, .int .u32 (mb.r : Int), .int .u16 (mb.w.1 : Int), .int .u32 (mb.w.2 : Int), .int .u32 (ma.r : Int), .int .u16 (ma.w.1 : Int), .int .u32 (ma.w.2 : Int), .bool mh, .int .i64 mc.kind, .int .u16 (mc.fr.1 : Int), .int .u32 (mc.fr.2 : Int), .int .u64 (mc.num : Int), .int .u64 (mc.vw : Int), .slice me.ba mc.data.length me.bc, .int .u64 (mc.v.id : Int), .slice me.ma mc.v.mem.length me.mc, .slice me.la mc.v.lvs.length me.lc, .slice me.da mc.v.ldr.length me.dc, .int .u64 (mv.id : Int), .slice mx.ma mv.mem.length mx.mc, .slice mx.la mv.lvs.length mx.lc, .slice mx.da mv.ldr.length mx.dc, .slice my m7 mz]] w (Ret fun v w' => v = .bool false ∧ St B w0 w' (row 129 gp #[.int .u16 (sf.1 : Int), .int .u32 (sf.2 : Int), .int .u32 (sn.r : Int), .int .u16 (sn.w.1 : Int), .int .u32 (sn.w.2 : Int), .int .i64 ph, .slice la n lc, .int .u64 (sl : Int), .int .u32 (bl.r : Int), .int .u16 (bl.w.1 : Int), .int .u32 (bl.w.2 : Int), .pointer vp, .int .u64 (a1 : Int), .int .u64 (a2 : Int)] :: slc 36 2 (.slice la n lc) n (pv ld) :: L)) := by
  have HNO := Lib.hid h
  have HLN := Lib.hid hln
  clear h hln
  go_enter Try.func41, Try.ntmps41
  go_wp2_with (first | (go_at_call 85; (with_reducible refine (ans_no gp sf sn ph la n lc sl bl vp a1 a2 ld 1 5 q kd m1 m2 m3 m5 m6 ms mb ma mh mc me mv mx my m7 mz HLN.out hn b1 b2 HNO.out _ ((H.pull (r := slc 36 2 (.slice la n lc) n (pv ld)) pU).pull (r := row 129 gp #[.int .u16 (sf.1 : Int), .int .u32 (sf.2 : Int), .int .u32 (sn.r : Int), .int .u16 (sn.w.1 : Int), .int .u32 (sn.w.2 : Int), .int .i64 ph, .slice la n lc, .int .u64 (sl : Int), .int .u32 (bl.r : Int), .int .u16 (bl.w.1 : Int), .int .u32 (bl.w.2 : Int), .pointer vp, .int .u64 (a1 : Int), .int .u64 (a2 : Int)]) pU)).mono ?_); rintro e w1 ⟨v, rfl, hr⟩; obtain ⟨rfl, H2⟩ := hr; clear H; have H := H2; clear H2) | (with_reducible refine wpl rfl (Stp.box 4 rfl rfl rfl H ?_); clear H; intro g4 w1 H; simp only [pS]; simp only [pE, nC, pS] at H) | (with_reducible refine wpl rfl (Stp.box 5 rfl rfl rfl H ?_); clear H; intro g5 w1 H; simp only [pS]; simp only [pE, nC, pS] at H) | (with_reducible refine wpl rfl (Stp.ldr rfl agg36 size36 rfl H mR sZ ?_); simp only [pS]) | (with_reducible refine wpl rfl (Stp.ldr rfl agg74 size74 rfl H mR sZ ?_); simp only [pS]))
  go_ret
  exact ⟨_, rfl, rfl, H.sub sU⟩
theorem accd_no {B : Nat} {w0 : World} {L : List Res} (gp : Nat) (sf : Pr) (sn : Bl) (ph : Int) (la : Option Addr) (n lc sl : Nat) (bl : Bl) (vp : Option Addr) (a1 a2 : Nat) (ld : List Pr) (q : Pr) (kd m1 m2 m3 m5 m6 : Int) (ms : Nat) (mb ma : Bl) (mh : Bool) (mc : Cm) (me : Hd) (mv : Vw) (mx : Hd) (my : Option Addr) (m7 mz : Nat) (hln : ld.length = n) (hn : n ≤ 1000000) (b1 : a1 < 18446744073709551616) (b2 : a2 < 18446744073709551616) (h : ¬ (ph = 3 ∧ kd = 7 ∧ ms = sl ∧ mb = bl ∧ 0 ≤ atR ld q ∧ hasM (a1, a2) (atR ld q) = false)) (w : World) (H : St B w0 w (row 129 gp #[.int .u16 (sf.1 : Int), .int .u32 (sf.2 : Int), .int .u32 (sn.r : Int), .int .u16 (sn.w.1 : Int), .int .u32 (sn.w.2 : Int), .int .i64 ph, .slice la n lc, .int .u64 (sl : Int), .int .u32 (bl.r : Int), .int .u16 (bl.w.1 : Int), .int .u32 (bl.w.2 : Int), .pointer vp, .int .u64 (a1 : Int), .int .u64 (a2 : Int)] :: slc 36 2 (.slice la n lc) n (pv ld) :: L)) :
    Calls Try.prog 42 #[.pointer (some ⟨gp, 0, none⟩), .agg #[.int .u16 (q.1 : Int), .int .u32 (q.2 : Int)], .agg #[.int .i64 kd, .int .u16 m1, .int .u32 m2, .int .u64 m3, .int .u64 (ms : Int), .int .u64 m5, .int .i64 m6, .int .u32 (mb.r : Int), .int .u16 (mb.w.1 : Int), .int .u32 (mb.w.2 : Int), .int .u32 (ma.r : Int), .int .u16 (ma.w.1 : Int), .int .u32 (ma.w.2 : Int), .bool mh, .int .i64 mc.kind, .int .u16 (mc.fr.1 : Int), .int .u32 (mc.fr.2 : Int), .int .u64 (mc.num : Int), .int .u64 (mc.vw : Int), .slice me.ba mc.data.length me.bc, .int .u64 (mc.v.id : Int), .slice me.ma mc.v.mem.length me.mc, .slice me.la mc.v.lvs.length me.lc, .slice me.da mc.v.ldr.length me.dc, .int .u64 (mv.id : Int), .slice mx.ma mv.mem.length mx.mc, .slice mx.la mv.lvs.length mx.lc, .slice mx.da mv.ldr.length mx.dc, .slice my m7 mz]] w (Ret fun v w' => v = .bool false ∧ St B w0 w' (row 129 gp #[.int .u16 (sf.1 : Int), .int .u32 (sf.2 : Int), .int .u32 (sn.r : Int), .int .u16 (sn.w.1 : Int), .int .u32 (sn.w.2 : Int), .int .i64 ph, .slice la n lc, .int .u64 (sl : Int), .int .u32 (bl.r : Int), .int .u16 (bl.w.1 : Int), .int .u32 (bl.w.2 : Int), .pointer vp, .int .u64 (a1 : Int), .int .u64 (a2 : Int)] :: slc 36 2 (.slice la n lc) n (pv ld) :: L)) := by
  have HNO := Lib.hid h
  have HLN := Lib.hid hln
  clear h hln
  go_enter Try.func42, Try.ntmps42
  go_wp2_with (first | (go_at_call 85; (with_reducible refine (ans_no gp sf sn ph la n lc sl bl vp a1 a2 ld 3 7 q kd m1 m2 m3 m5 m6 ms mb ma mh mc me mv mx my m7 mz HLN.out hn b1 b2 HNO.out _ ((H.pull (r := slc 36 2 (.slice la n lc) n (pv ld)) pU).pull (r := row 129 gp #[.int .u16 (sf.1 : Int), .int .u32 (sf.2 : Int), .int .u32 (sn.r : Int), .int .u16 (sn.w.1 : Int), .int .u32 (sn.w.2 : Int), .int .i64 ph, .slice la n lc, .int .u64 (sl : Int), .int .u32 (bl.r : Int), .int .u16 (bl.w.1 : Int), .int .u32 (bl.w.2 : Int), .pointer vp, .int .u64 (a1 : Int), .int .u64 (a2 : Int)]) pU)).mono ?_); rintro e w1 ⟨v, rfl, hr⟩; obtain ⟨rfl, H2⟩ := hr; clear H; have H := H2; clear H2) | (with_reducible refine wpl rfl (Stp.box 4 rfl rfl rfl H ?_); clear H; intro g4 w1 H; simp only [pS]; simp only [pE, nC, pS] at H) | (with_reducible refine wpl rfl (Stp.box 5 rfl rfl rfl H ?_); clear H; intro g5 w1 H; simp only [pS]; simp only [pE, nC, pS] at H) | (with_reducible refine wpl rfl (Stp.ldr rfl agg36 size36 rfl H mR sZ ?_); simp only [pS]) | (with_reducible refine wpl rfl (Stp.ldr rfl agg74 size74 rfl H mR sZ ?_); simp only [pS]))
  go_ret
  exact ⟨_, rfl, rfl, H.sub sU⟩
theorem accd2_ok {B : Nat} {w0 : World} {L : List Res} (gp : Nat) (sf : Pr) (sn : Bl) (la : Option Addr) (n lc sl : Nat) (bl : Bl) (a1 a2 : Nat) (ld : List Pr) (vp : Option Addr) (q : Pr) (mh : Bool) (m1 m2 m3 m5 m6 : Int) (ma : Bl) (mc : Cm) (me : Hd) (mv : Vw) (mx : Hd) (my : Option Addr) (m7 mz : Nat) (hln : ld.length = n) (hn0 : 0 < n) (hn : n < 1000) (b1 : a1 < 18446744073709551616) (b2 : a2 < 18446744073709551616) (z : Int) (hz : atR ld q = z) (hz0 : 0 ≤ z) (hh : hasM (a1, a2) z = false) (c1 c2 : Nat) (hc : setM (a1, a2) z = (c1, c2)) (hcl1 : c1 < 18446744073709551616) (hcl2 : c2 < 18446744073709551616) (r : Bool) (hr : majM c1 c2 (n : Int) = r) (s2 : Nat) (hs2 : (sl + 1) % 18446744073709551616 = s2) (w : World) (H : St B w0 w (row 129 gp #[.int .u16 (sf.1 : Int), .int .u32 (sf.2 : Int), .int .u32 (sn.r : Int), .int .u16 (sn.w.1 : Int), .int .u32 (sn.w.2 : Int), .int .i64 3, .slice la n lc, .int .u64 (sl : Int), .int .u32 (bl.r : Int), .int .u16 (bl.w.1 : Int), .int .u32 (bl.w.2 : Int), .pointer vp, .int .u64 (a1 : Int), .int .u64 (a2 : Int)] :: slc 36 2 (.slice la n lc) n (pv ld) :: L)) :
    Calls Try.prog 42 #[.pointer (some ⟨gp, 0, none⟩), .agg #[.int .u16 (q.1 : Int), .int .u32 (q.2 : Int)], .agg #[.int .i64 7, .int .u16 m1, .int .u32 m2, .int .u64 m3, .int .u64 (sl : Int), .int .u64 m5, .int .i64 m6, .int .u32 (bl.r : Int), .int .u16 (bl.w.1 : Int), .int .u32 (bl.w.2 : Int), .int .u32 (ma.r : Int), .int .u16 (ma.w.1 : Int), .int .u32 (ma.w.2 : Int), .bool mh, .int .i64 mc.kind, .int .u16 (mc.fr.1 : Int), .int .u32 (mc.fr.2 : Int), .int .u64 (mc.num : Int), .int .u64 (mc.vw : Int), .slice me.ba mc.data.length me.bc, .int .u64 (mc.v.id : Int), .slice me.ma mc.v.mem.length me.mc, .slice me.la mc.v.lvs.length me.lc, .slice me.da mc.v.ldr.length me.dc, .int .u64 (mv.id : Int), .slice mx.ma mv.mem.length mx.mc, .slice mx.la mv.lvs.length mx.lc, .slice mx.da mv.ldr.length mx.dc, .slice my m7 mz]] w (Ret fun v w' => v = .bool r ∧ St B w0 w' (row 129 gp #[.int .u16 (sf.1 : Int), .int .u32 (sf.2 : Int), .int .u32 (sn.r : Int), .int .u16 (sn.w.1 : Int), .int .u32 (sn.w.2 : Int), .int .i64 (if r = true then 2 else 3), .slice la n lc, .int .u64 ((if r = true then s2 else sl) : Int), .int .u32 (bl.r : Int), .int .u16 (bl.w.1 : Int), .int .u32 (bl.w.2 : Int), .pointer (if r = true then none else vp), .int .u64 (c1 : Int), .int .u64 (c2 : Int)] :: slc 36 2 (.slice la n lc) n (pv ld) :: L)) := by
  have HLN := Lib.hid hln
  have HZ := Lib.hid hz
  have HH := Lib.hid hh
  have HC := Lib.hid hc
  have hn6 : n ≤ 1000000 := by omega
  clear hln hz hh hc
  have HMJ := Lib.hid hr
  have W1 : IntKind.u64.wrap ((sl : Int) + 1) = (s2 : Int) := by rw [IntKind.wrap_u64]; omega
  clear hr hs2
  cases r
  all_goals
    go_enter Try.func42, Try.ntmps42
    go_wp2_with (first | (go_at_call 85; (with_reducible refine (ans_yes gp sf sn 3 la n lc sl bl vp a1 a2 ld 3 7 q 7 m1 m2 m3 m5 m6 sl bl ma mh mc me mv mx my m7 mz HLN.out hn6 b1 b2 rfl rfl rfl rfl z HZ.out hz0 HH.out c1 c2 HC.out _ ((H.pull (r := slc 36 2 (.slice la n lc) n (pv ld)) pU).pull (r := row 129 gp #[.int .u16 (sf.1 : Int), .int .u32 (sf.2 : Int), .int .u32 (sn.r : Int), .int .u16 (sn.w.1 : Int), .int .u32 (sn.w.2 : Int), .int .i64 3, .slice la n lc, .int .u64 (sl : Int), .int .u32 (bl.r : Int), .int .u16 (bl.w.1 : Int), .int .u32 (bl.w.2 : Int), .pointer vp, .int .u64 (a1 : Int), .int .u64 (a2 : Int)]) pU)).mono ?_); rintro e w1 ⟨v, rfl, hr⟩; obtain ⟨rfl, H2⟩ := hr; clear H; have H := H2; clear H2) | (go_at_call 86; (with_reducible refine (most_is gp sf sn 3 la n lc sl bl vp c1 c2 ld hn0 hn hcl1 hcl2 _ HMJ.out _ H).mono ?_); rintro e w1 ⟨v, rfl, hr⟩; obtain ⟨rfl, H2⟩ := hr; clear H; have H := H2; clear H2) | (with_reducible refine wpl rfl (Stp.box 4 rfl rfl rfl H ?_); clear H; intro g4 w1 H; simp only [pS]; simp only [pE, nC, pS] at H) | (with_reducible refine wpl rfl (Stp.box 5 rfl rfl rfl H ?_); clear H; intro g5 w1 H; simp only [pS]; simp only [pE, nC, pS] at H) | (with_reducible refine wpl rfl (Stp.ldr rfl agg36 size36 rfl H mR sZ ?_); simp only [pS]) | (with_reducible refine wpl rfl (Stp.ldr rfl agg74 size74 rfl H mR sZ ?_); simp only [pS]) | (with_reducible refine wpl rfl (Stp.stc rfl size3 rfl rfl rfl rfl H uP (by first | omega | (simp; done) | (simp; omega)) ?_); clear H; intro w1 H; simp only [pS]; simp only [pE, nC, pS] at H) | (with_reducible refine wpl rfl (Stp.stc rfl size125 rfl rfl rfl rfl H uP (by first | omega | (simp; done) | (simp; omega)) ?_); clear H; intro w1 H; simp only [pS]; simp only [pE, nC, pS] at H) | (with_reducible refine wpl rfl (Stp.ldc rfl agg22 rfl H mR cE ?_); simp only [pS]) | (with_reducible refine wpl rfl (Stp.stc rfl size22 rfl rfl rfl rfl H uP (by first | omega | (simp; done) | (simp; omega)) ?_); clear H; intro w1 H; simp only [pS]; simp only [pE, nC, pS] at H))
    go_ret
    exact ⟨_, rfl, rfl, H.sub sU⟩
theorem prop_no1 {B : Nat} {w0 : World} {L : List Res} (gp : Nat) (sf : Pr) (sn : Bl) (ph : Int) (la : Option Addr) (n lc sl : Nat) (bl : Bl) (vp : Option Addr) (a1 a2 : Nat) (c : Cm) (e : Hd) (h : ph ≠ 2) (w : World) (H : St B w0 w (row 129 gp #[.int .u16 (sf.1 : Int), .int .u32 (sf.2 : Int), .int .u32 (sn.r : Int), .int .u16 (sn.w.1 : Int), .int .u32 (sn.w.2 : Int), .int .i64 ph, .slice la n lc, .int .u64 (sl : Int), .int .u32 (bl.r : Int), .int .u16 (bl.w.1 : Int), .int .u32 (bl.w.2 : Int), .pointer vp, .int .u64 (a1 : Int), .int .u64 (a2 : Int)] :: L)) :
    Calls Try.prog 37 #[.pointer (some ⟨gp, 0, none⟩), .agg (cmH c e)] w (Ret fun v w' => v = .tuple #[.agg (cmH cm0 hd0), .int .i64 8] ∧ St B w0 w' (row 129 gp #[.int .u16 (sf.1 : Int), .int .u32 (sf.2 : Int), .int .u32 (sn.r : Int), .int .u16 (sn.w.1 : Int), .int .u32 (sn.w.2 : Int), .int .i64 ph, .slice la n lc, .int .u64 (sl : Int), .int .u32 (bl.r : Int), .int .u16 (bl.w.1 : Int), .int .u32 (bl.w.2 : Int), .pointer vp, .int .u64 (a1 : Int), .int .u64 (a2 : Int)] :: L)) := by
  have hp : (ph != 2) = true := by simpa using h
  clear h
  simp only [cmH, cmC]
  go_enter Try.func37, Try.ntmps37
  go_wp2_with (first | (with_reducible refine wpl rfl (Stp.build (v := (.agg (cmH cm0 hd0))) 16 rfl rfl (fun W => by kernel_rfl) ?_); simp only [pS]) | (with_reducible refine wpl rfl (Stp.box 3 rfl rfl rfl H ?_); clear H; intro g3 w1 H; simp only [pS]; simp only [pE, nC, pS] at H) | (with_reducible refine wpl rfl (Stp.alloc 4 rfl rfl zero43 H ?_); clear H; intro g4 w1 H; simp only [pS]; simp only [nC] at H) | (with_reducible refine wpl rfl (Stp.ldc rfl agg3 rfl H mR cE ?_); simp only [pS]) | (with_reducible refine wpl rfl (Stp.str rfl size43 rfl rfl (by first | rfl | (simp [Value.oneCell']; done) | assumption) H uP sZ sZ ?_); clear H; intro w1 H; simp only [pS]))
  refine post_row2 rfl agg43 size43 rfl H mE rfl rfl ⟨_, rfl, rfl, H.sub sU⟩
theorem prop_no2 {B : Nat} {w0 : World} {L : List Res} {G1 : Nat → Prop} (gp : Nat) (sf : Pr) (sn : Bl) (la : Option Addr) (n lc sl : Nat) (bl : Bl) (vp : Option Addr) (a1 a2 : Nat) (c : Cm) (e : Hd) (hm : smC c) (hw : wfC c) (hce : cErr c ≠ 0) (hx : Rd B w0 L fun W => CmG G1 W (.slice e.ba c.data.length e.bc) (.slice e.ma c.v.mem.length e.mc) (.slice e.la c.v.lvs.length e.lc) (.slice e.da c.v.ldr.length e.dc) c) (w : World) (H : St B w0 w (row 129 gp #[.int .u16 (sf.1 : Int), .int .u32 (sf.2 : Int), .int .u32 (sn.r : Int), .int .u16 (sn.w.1 : Int), .int .u32 (sn.w.2 : Int), .int .i64 2, .slice la n lc, .int .u64 (sl : Int), .int .u32 (bl.r : Int), .int .u16 (bl.w.1 : Int), .int .u32 (bl.w.2 : Int), .pointer vp, .int .u64 (a1 : Int), .int .u64 (a2 : Int)] :: L)) :
    Calls Try.prog 37 #[.pointer (some ⟨gp, 0, none⟩), .agg (cmH c e)] w (Ret fun v w' => v = .tuple #[.agg (cmH cm0 hd0), .int .i64 1] ∧ St B w0 w' (row 129 gp #[.int .u16 (sf.1 : Int), .int .u32 (sf.2 : Int), .int .u32 (sn.r : Int), .int .u16 (sn.w.1 : Int), .int .u32 (sn.w.2 : Int), .int .i64 2, .slice la n lc, .int .u64 (sl : Int), .int .u32 (bl.r : Int), .int .u16 (bl.w.1 : Int), .int .u32 (bl.w.2 : Int), .pointer vp, .int .u64 (a1 : Int), .int .u64 (a2 : Int)] :: L)) := by
  obtain ⟨e0, hy⟩ : ∃ y, cErr c = y := ⟨_, rfl⟩
  rw [hy] at hce
  have HCE := Lib.hid hy
  have h0i : (e0 != 0) = true := by simpa using hce
  clear hce hy
  simp only [cmH, cmC]
  go_enter Try.func37, Try.ntmps37
  go_wp2_with (first | (go_at_call 62; (with_reducible refine (ccheck_ok c e.ba e.ma e.la e.da e.bc e.mc e.lc e.dc hm.v hw _ (hx.at H (by repeat (first | exact List.Sublist.refl _ | apply List.Sublist.cons)))).mono ?_); rintro e w1 ⟨v, rfl, hr⟩; obtain ⟨rfl, hb1⟩ := hr; replace H := H.grow hb1; clear hb1; rw [HCE.out]) | (with_reducible refine wpl rfl (Stp.build (v := (.agg (cmH cm0 hd0))) 21 rfl rfl (fun W => by kernel_rfl) ?_); simp only [pS]) | (with_reducible refine wpl rfl (Stp.box 3 rfl rfl rfl H ?_); clear H; intro g3 w1 H; simp only [pS]; simp only [pE, nC, pS] at H) | (with_reducible refine wpl rfl (Stp.alloc 4 rfl rfl zero43 H ?_); clear H; intro g4 w1 H; simp only [pS]; simp only [nC] at H) | (with_reducible refine wpl rfl (Stp.ldc rfl agg3 rfl H mR cE ?_); simp only [pS]) | (with_reducible refine wpl rfl (Stp.str rfl size43 rfl rfl (by first | rfl | (simp [Value.oneCell']; done) | assumption) H uP sZ sZ ?_); clear H; intro w1 H; simp only [pS]) | (with_reducible refine wpl rfl (Stp.ldr rfl agg43 size43 rfl H mR sZ ?_); simp only [pS]))
  refine post_row2 rfl agg43 size43 rfl H mE rfl rfl ⟨_, rfl, rfl, H.sub sU⟩
theorem prop1_ok {B : Nat} {w0 : World} {L : List Res} {G1 G : Nat → Prop} (gp : Nat) (sf : Pr) (sn : Bl) (la : Option Addr) (n lc sl : Nat) (bl : Bl) (a1 a2 : Nat) (gv : Nat) (u : Bl) (cv : Cm) (hd : Hd) (hmv : smC cv) (c : Cm) (e : Hd) (hm : smC c) (hw : wfC c) (hce : cErr c = 0) (hx : Rd B w0 L fun W => CmG G1 W (.slice e.ba c.data.length e.bc) (.slice e.ma c.v.mem.length e.mc) (.slice e.la c.v.lvs.length e.lc) (.slice e.da c.v.ldr.length e.dc) c) (w : World) (H : St B w0 w (row 129 gp #[.int .u16 (sf.1 : Int), .int .u32 (sf.2 : Int), .int .u32 (sn.r : Int), .int .u16 (sn.w.1 : Int), .int .u32 (sn.w.2 : Int), .int .i64 2, .slice la n lc, .int .u64 (sl : Int), .int .u32 (bl.r : Int), .int .u16 (bl.w.1 : Int), .int .u32 (bl.w.2 : Int), .pointer (some ⟨gv, 0, none⟩), .int .u64 (a1 : Int), .int .u64 (a2 : Int)] :: row 140 gv #[.int .u32 (u.r : Int), .int .u16 (u.w.1 : Int), .int .u32 (u.w.2 : Int), .int .i64 cv.kind, .int .u16 (cv.fr.1 : Int), .int .u32 (cv.fr.2 : Int), .int .u64 (cv.num : Int), .int .u64 (cv.vw : Int), .slice hd.ba cv.data.length hd.bc, .int .u64 (cv.v.id : Int), .slice hd.ma cv.v.mem.length hd.mc, .slice hd.la cv.v.lvs.length hd.lc, .slice hd.da cv.v.ldr.length hd.dc] :: cmr G (.slice hd.ba cv.data.length hd.bc) (.slice hd.ma cv.v.mem.length hd.mc) (.slice hd.la cv.v.lvs.length hd.lc) (.slice hd.da cv.v.ldr.length hd.dc) cv :: L)) :
    Calls Try.prog 37 #[.pointer (some ⟨gp, 0, none⟩), .agg (cmH c e)] w (Ret fun v w' => ∃ (h3 : Hd) (G3 : Nat → Prop), v = .tuple #[.agg (cmH cv h3), .int .i64 0] ∧ St B w0 w' (row 129 gp #[.int .u16 (sf.1 : Int), .int .u32 (sf.2 : Int), .int .u32 (sn.r : Int), .int .u16 (sn.w.1 : Int), .int .u32 (sn.w.2 : Int), .int .i64 3, .slice la n lc, .int .u64 (sl : Int), .int .u32 (bl.r : Int), .int .u16 (bl.w.1 : Int), .int .u32 (bl.w.2 : Int), .pointer (some ⟨gv, 0, none⟩), .int .u64 0, .int .u64 0] :: row 140 gv #[.int .u32 (u.r : Int), .int .u16 (u.w.1 : Int), .int .u32 (u.w.2 : Int), .int .i64 cv.kind, .int .u16 (cv.fr.1 : Int), .int .u32 (cv.fr.2 : Int), .int .u64 (cv.num : Int), .int .u64 (cv.vw : Int), .slice hd.ba cv.data.length hd.bc, .int .u64 (cv.v.id : Int), .slice hd.ma cv.v.mem.length hd.mc, .slice hd.la cv.v.lvs.length hd.lc, .slice hd.da cv.v.ldr.length hd.dc] :: cmr G (.slice hd.ba cv.data.length hd.bc) (.slice hd.ma cv.v.mem.length hd.mc) (.slice hd.la cv.v.lvs.length hd.lc) (.slice hd.da cv.v.ldr.length hd.dc) cv :: cmr G3 (.slice h3.ba cv.data.length h3.bc) (.slice h3.ma cv.v.mem.length h3.mc) (.slice h3.la cv.v.lvs.length h3.lc) (.slice h3.da cv.v.ldr.length h3.dc) cv :: L)) := by
  have HCE := Lib.hid hce
  clear hce
  simp only [cmH, cmC]
  go_enter Try.func37, Try.ntmps37
  go_wp2_with (first | (go_at_call 62; (with_reducible refine (ccheck_ok c e.ba e.ma e.la e.da e.bc e.mc e.lc e.dc hm.v hw _ (hx.at H (by repeat (first | exact List.Sublist.refl _ | apply List.Sublist.cons)))).mono ?_); rintro e w1 ⟨v, rfl, hr⟩; obtain ⟨rfl, hb1⟩ := hr; replace H := H.grow hb1; clear hb1; rw [HCE.out]) | (go_at_call 83; (with_reducible refine (ccopy_ok cv hd.ba hd.ma hd.la hd.da hd.bc hd.mc hd.lc hd.dc hmv _ (H.getCmR (G := G) mE)).mono ?_); rintro e w1 ⟨v, rfl, hr⟩; obtain ⟨G3, ab3, am3, al3, ad3, cb3, cm3, cl3, cd3, rfl, hG2, hv2, hb1⟩ := hr; replace H := H.new hb1 (cmr_sound hG2 hv2) (fun g hg => (hG2 g hg).1); clear hb1 hG2 hv2) | (with_reducible refine wpl rfl (Stp.build (v := (.agg #[.int .u64 0, .int .u64 0])) 40 rfl rfl (fun W => by kernel_rfl) ?_); simp only [pS]) | (with_reducible refine wpl rfl (Stp.box 3 rfl rfl rfl H ?_); clear H; intro g3 w1 H; simp only [pS]; simp only [pE, nC, pS] at H) | (with_reducible refine wpl rfl (Stp.alloc 4 rfl rfl zero43 H ?_); clear H; intro g4 w1 H; simp only [pS]; simp only [nC] at H) | (with_reducible refine wpl rfl (Stp.ldc rfl agg3 rfl H mR cE ?_); simp only [pS]) | (with_reducible refine wpl rfl (Stp.str rfl size43 rfl rfl (by first | rfl | (simp [Value.oneCell']; done) | assumption) H uP sZ sZ ?_); clear H; intro w1 H; simp only [pS]) | (with_reducible refine wpl rfl (Stp.ldr rfl agg43 size43 rfl H mR sZ ?_); simp only [pS]) | (with_reducible refine wpl rfl (Stp.ldl rfl agg43 size43 rfl H mR (by simp) ?_); simp only [pS]; simp only [List.drop_succ_cons, List.drop_zero, List.take_succ_cons, List.take_zero]) | (with_reducible refine wpl rfl (Stp.ldc rfl agg125 rfl H mR cE ?_); simp only [pS]) | (with_reducible refine wpl rfl (Stp.stc rfl size3 rfl rfl rfl rfl H uP (by first | omega | (simp; done) | (simp; omega)) ?_); clear H; intro w1 H; simp only [pS]; simp only [pE, nC, pS] at H) | (with_reducible refine wpl rfl (Stp.stl rfl size127 rfl rfl rfl rfl H uP (by simp) ?_); clear H; intro w1 H; simp only [pS]; simp only [List.drop_succ_cons, List.drop_zero, List.take_succ_cons, List.take_zero, List.nil_append, List.cons_append, Nat.reduceAdd] at H))
  refine post_row2 rfl agg43 size43 rfl H mE rfl rfl ⟨_, rfl, ⟨ab3, am3, al3, ad3, cb3, cm3, cl3, cd3⟩, G3, rfl, ?_⟩
  exact ((((H.pull (r := cmr G3 _ _ _ _ cv) pU).pull (r := cmr G _ _ _ _ cv) pU).pull (r := row 140 gv #[.int .u32 (u.r : Int), .int .u16 (u.w.1 : Int), .int .u32 (u.w.2 : Int), .int .i64 cv.kind, .int .u16 (cv.fr.1 : Int), .int .u32 (cv.fr.2 : Int), .int .u64 (cv.num : Int), .int .u64 (cv.vw : Int), .slice hd.ba cv.data.length hd.bc, .int .u64 (cv.v.id : Int), .slice hd.ma cv.v.mem.length hd.mc, .slice hd.la cv.v.lvs.length hd.lc, .slice hd.da cv.v.ldr.length hd.dc]) pU).pull (r := row 129 gp #[.int .u16 (sf.1 : Int), .int .u32 (sf.2 : Int), .int .u32 (sn.r : Int), .int .u16 (sn.w.1 : Int), .int .u32 (sn.w.2 : Int), .int .i64 3, .slice la n lc, .int .u64 (sl : Int), .int .u32 (bl.r : Int), .int .u16 (bl.w.1 : Int), .int .u32 (bl.w.2 : Int), .pointer (some ⟨gv, 0, none⟩), .int .u64 0, .int .u64 0]) pU).sub sU
theorem estart_no1 {B : Nat} {w0 : World} {L : List Res} {G1 : Nat → Prop} (gp : Nat) (sf : Pr) (sn : Bl) (ph : Int) (la : Option Addr) (n lc sl : Nat) (bl : Bl) (vp : Option Addr) (a1 a2 : Nat) (x : Vw) (xa xl xr : Option Addr) (xc xd xe : Nat) (s0 : Nat) (hm : smV x) (hw : wfV x) (h : ¬ (vErr x = 0 ∧ sf ∈ x.ldr))
    (hx : Rd B w0 L fun W => VwG G1 W (.slice xa x.mem.length xc) (.slice xl x.lvs.length xd) (.slice xr x.ldr.length xe) x) (w : World) (H : St B w0 w (row 129 gp #[.int .u16 (sf.1 : Int), .int .u32 (sf.2 : Int), .int .u32 (sn.r : Int), .int .u16 (sn.w.1 : Int), .int .u32 (sn.w.2 : Int), .int .i64 ph, .slice la n lc, .int .u64 (sl : Int), .int .u32 (bl.r : Int), .int .u16 (bl.w.1 : Int), .int .u32 (bl.w.2 : Int), .pointer vp, .int .u64 (a1 : Int), .int .u64 (a2 : Int)] :: L)) :
    Calls Try.prog 36 #[.pointer (some ⟨gp, 0, none⟩), .agg #[.int .u64 (x.id : Int), .slice xa x.mem.length xc, .slice xl x.lvs.length xd, .slice xr x.ldr.length xe], .int .u64 (s0 : Int)] w (Ret fun v w' => v = .tuple #[.agg #[.int .u32 0, .int .u16 0, .int .u32 0], .int .i64 1] ∧ St B w0 w' (row 129 gp #[.int .u16 (sf.1 : Int), .int .u32 (sf.2 : Int), .int .u32 (sn.r : Int), .int .u16 (sn.w.1 : Int), .int .u32 (sn.w.2 : Int), .int .i64 ph, .slice la n lc, .int .u64 (sl : Int), .int .u32 (bl.r : Int), .int .u16 (bl.w.1 : Int), .int .u32 (bl.w.2 : Int), .pointer vp, .int .u64 (a1 : Int), .int .u64 (a2 : Int)] :: L)) := by
  have hve : vErr x = 0 ∨ vErr x = 1 := by unfold vErr; split <;> simp
  rcases hve with hve | hve
  · have HVE := Lib.hid hve
    have HLD : Hid (decide (sf ∈ x.ldr) = false) := Lib.hid (decide_eq_false (fun g => h ⟨hve, g⟩))
    clear hve h
    go_enter Try.func36, Try.ntmps36
    go_wp2_with (first | (with_reducible refine wpl rfl (Stp.box 4 rfl rfl rfl H ?_); clear H; intro g4 w1 H; simp only [pS]; simp only [pE, nC, pS] at H) | (with_reducible refine wpl rfl (Stp.alloc 6 rfl rfl zero67 H ?_); clear H; intro g6 w1 H; simp only [pS]; simp only [nC] at H))
    refine rg_begin 13 rfl (S := fun W => St _ _ W (row 26 g4 #[.int .u64 (x.id : Int), .slice xa x.mem.length xc, .slice xl x.lvs.length xd, .slice xr x.ldr.length xe] :: row 129 gp #[.int .u16 (sf.1 : Int), .int .u32 (sf.2 : Int), .int .u32 (sn.r : Int), .int .u16 (sn.w.1 : Int), .int .u32 (sn.w.2 : Int), .int .i64 ph, .slice la n lc, .int .u64 (sl : Int), .int .u32 (bl.r : Int), .int .u16 (bl.w.1 : Int), .int .u32 (bl.w.2 : Int), .pointer vp, .int .u64 (a1 : Int), .int .u64 (a2 : Int)] :: [])) (by kernel_rfl) (H.drew.sub sU) ?_
    replace H := H.drew
    have HS := H
    first | (refine rg_take (i := 0) rfl kR kR kR (Yld.ldr rfl rfl agg26 size26 rfl mR sZ) (H.sub sU) ?_; simp only [pS]) | (refine rg_take (i := 0) rfl kR kR kR (Yld.ldl rfl rfl agg26 size26 rfl mR (by simp)) (H.sub sU) ?_; simp only [pS]; simp only [List.drop_succ_cons, List.drop_zero, List.take_succ_cons, List.take_zero]) | (refine rg_take (i := 0) rfl kR kR kR (Yld.ldor rfl rfl agg26 size26 rfl (by assumption) sZ (by assumption)) (H.sub sU) ?_; simp only [pS])
    refine rg_one (i := 1) (by kernel_rfl) rfl rfl (fun K hK => ?_)
    refine wp_callf rfl ent79 (vcheck_ok x xa xl xr xc xd xe hm hw _ (hx.at H (by repeat (first | exact List.Sublist.refl _ | apply List.Sublist.cons)))) rfl (fun v w1 hr => ?_)
    obtain ⟨rfl, hb1⟩ := hr
    replace H := H.grow hb1
    clear hb1
    rw [HVE.out]
    clear HS
    have HS := H
    refine hK.out _ _ (H.sub sU) ?_
    clear hK K
    simp only [pS]
    refine rg_take (i := 2) rfl kR kR kR (Yld.o rfl) (H.sub sU) ?_; simp only [pS]
    refine rg_take (i := 3) rfl kR kR kR (Yld.move rfl rfl) (H.sub sU) ?_; simp only [pS, pE]
    first | (refine rg_take (i := 4) rfl kR kR kR (Yld.ldr rfl rfl agg26 size26 rfl mR sZ) (H.sub sU) ?_; simp only [pS]) | (refine rg_take (i := 4) rfl kR kR kR (Yld.ldl rfl rfl agg26 size26 rfl mR (by simp)) (H.sub sU) ?_; simp only [pS]; simp only [List.drop_succ_cons, List.drop_zero, List.take_succ_cons, List.take_zero]) | (refine rg_take (i := 4) rfl kR kR kR (Yld.ldor rfl rfl agg26 size26 rfl (by assumption) sZ (by assumption)) (H.sub sU) ?_; simp only [pS])
    refine rg_take (i := 5) rfl kR kR kR (Yld.move rfl rfl) (H.sub sU) ?_; simp only [pS, pE]
    refine rg_take (i := 6) rfl kR kR kR (Yld.o rfl) (H.sub sU) ?_; simp only [pS]
    refine rg_take (i := 7) rfl kR kR kR (Yld.o rfl) (H.sub sU) ?_; simp only [pS]
    first | (refine rg_take (i := 8) rfl kR kR kR (Yld.ldr rfl rfl agg36 size36 rfl mR sZ) (H.sub sU) ?_; simp only [pS]) | (refine rg_take (i := 8) rfl kR kR kR (Yld.ldl rfl rfl agg36 size36 rfl mR (by simp)) (H.sub sU) ?_; simp only [pS]; simp only [List.drop_succ_cons, List.drop_zero, List.take_succ_cons, List.take_zero]) | (refine rg_take (i := 8) rfl kR kR kR (Yld.ldor rfl rfl agg36 size36 rfl (by assumption) sZ (by assumption)) (H.sub sU) ?_; simp only [pS])
    refine rg_one (i := 9) (by kernel_rfl) rfl rfl (fun K hK => ?_)
    refine wp_callf rfl ent80 (vleads_is x xa xl xr xc xd xe sf false HLD.out _ ((hx.at H (by repeat (first | exact List.Sublist.refl _ | apply List.Sublist.cons))).2.2.sl)) rfl (fun v w1 hr => ?_)
    obtain ⟨rfl, hb1⟩ := hr
    replace H := H.grow hb1
    clear hb1
    clear HS
    have HS := H
    refine hK.out _ _ (H.sub sU) ?_
    clear hK K
    simp only [pS]
    refine rg_take (i := 10) rfl kR kR kR (Yld.o rfl) (H.sub sU) ?_; simp only [pS]
    refine rg_take (i := 11) rfl kR kR kR (Yld.pick rfl rfl rfl) (H.sub sU) ?_; simp only [pS, pE]
    refine rg_take (i := 12) rfl kR kR kR (Yld.assign rfl rfl) (H.sub sU) ?_; simp only [pS, pE]
    refine rg_done (by kernel_rfl) ?_
    go_wp2_with (first | (with_reducible refine wpl rfl (Stp.build (v := (.agg #[.int .u32 0, .int .u16 0, .int .u32 0])) 27 rfl rfl (fun W => by kernel_rfl) ?_); simp only [pS]) | (with_reducible refine wpl rfl (Stp.str rfl size67 rfl rfl (by first | rfl | (simp [Value.oneCell']; done) | assumption) H uP sZ sZ ?_); clear H; intro w1 H; simp only [pS]))
    refine post_row2 rfl agg67 size67 rfl H mE rfl rfl ⟨_, rfl, rfl, H.sub sU⟩
  · have HVE := Lib.hid hve
    clear hve h
    go_enter Try.func36, Try.ntmps36
    go_wp2_with (first | (with_reducible refine wpl rfl (Stp.box 4 rfl rfl rfl H ?_); clear H; intro g4 w1 H; simp only [pS]; simp only [pE, nC, pS] at H) | (with_reducible refine wpl rfl (Stp.alloc 6 rfl rfl zero67 H ?_); clear H; intro g6 w1 H; simp only [pS]; simp only [nC] at H))
    refine rg_begin 13 rfl (S := fun W => St _ _ W (row 26 g4 #[.int .u64 (x.id : Int), .slice xa x.mem.length xc, .slice xl x.lvs.length xd, .slice xr x.ldr.length xe] :: row 129 gp #[.int .u16 (sf.1 : Int), .int .u32 (sf.2 : Int), .int .u32 (sn.r : Int), .int .u16 (sn.w.1 : Int), .int .u32 (sn.w.2 : Int), .int .i64 ph, .slice la n lc, .int .u64 (sl : Int), .int .u32 (bl.r : Int), .int .u16 (bl.w.1 : Int), .int .u32 (bl.w.2 : Int), .pointer vp, .int .u64 (a1 : Int), .int .u64 (a2 : Int)] :: [])) (by kernel_rfl) (H.drew.sub sU) ?_
    replace H := H.drew
    have HS := H
    first | (refine rg_take (i := 0) rfl kR kR kR (Yld.ldr rfl rfl agg26 size26 rfl mR sZ) (H.sub sU) ?_; simp only [pS]) | (refine rg_take (i := 0) rfl kR kR kR (Yld.ldl rfl rfl agg26 size26 rfl mR (by simp)) (H.sub sU) ?_; simp only [pS]; simp only [List.drop_succ_cons, List.drop_zero, List.take_succ_cons, List.take_zero]) | (refine rg_take (i := 0) rfl kR kR kR (Yld.ldor rfl rfl agg26 size26 rfl (by assumption) sZ (by assumption)) (H.sub sU) ?_; simp only [pS])
    refine rg_one (i := 1) (by kernel_rfl) rfl rfl (fun K hK => ?_)
    refine wp_callf rfl ent79 (vcheck_ok x xa xl xr xc xd xe hm hw _ (hx.at H (by repeat (first | exact List.Sublist.refl _ | apply List.Sublist.cons)))) rfl (fun v w1 hr => ?_)
    obtain ⟨rfl, hb1⟩ := hr
    replace H := H.grow hb1
    clear hb1
    rw [HVE.out]
    clear HS
    have HS := H
    refine hK.out _ _ (H.sub sU) ?_
    clear hK K
    simp only [pS]
    refine rg_take (i := 2) rfl kR kR kR (Yld.o rfl) (H.sub sU) ?_; simp only [pS]
    refine rg_take (i := 3) rfl kR kR kR (Yld.move rfl rfl) (H.sub sU) ?_; simp only [pS, pE]
    refine rg_take (i := 4) rfl kR kR kR (Yld.skip rfl) (H.sub sU) ?_; simp only [pS]
    refine rg_take (i := 5) rfl kR kR kR (Yld.skip rfl) (H.sub sU) ?_; simp only [pS]
    refine rg_take (i := 6) rfl kR kR kR (Yld.skip rfl) (H.sub sU) ?_; simp only [pS]
    refine rg_take (i := 7) rfl kR kR kR (Yld.skip rfl) (H.sub sU) ?_; simp only [pS]
    refine rg_take (i := 8) rfl kR kR kR (Yld.skip rfl) (H.sub sU) ?_; simp only [pS]
    refine rg_take (i := 9) rfl kR kR kR (Yld.skip rfl) (H.sub sU) ?_; simp only [pS]
    refine rg_take (i := 10) rfl kR kR kR (Yld.skip rfl) (H.sub sU) ?_; simp only [pS]
    refine rg_take (i := 11) rfl kR kR kR (Yld.pick rfl rfl rfl) (H.sub sU) ?_; simp only [pS, pE]
    refine rg_take (i := 12) rfl kR kR kR (Yld.assign rfl rfl) (H.sub sU) ?_; simp only [pS, pE]
    refine rg_done (by kernel_rfl) ?_
    go_wp2_with (first | (with_reducible refine wpl rfl (Stp.build (v := (.agg #[.int .u32 0, .int .u16 0, .int .u32 0])) 27 rfl rfl (fun W => by kernel_rfl) ?_); simp only [pS]) | (with_reducible refine wpl rfl (Stp.str rfl size67 rfl rfl (by first | rfl | (simp [Value.oneCell']; done) | assumption) H uP sZ sZ ?_); clear H; intro w1 H; simp only [pS]))
    refine post_row2 rfl agg67 size67 rfl H mE rfl rfl ⟨_, rfl, rfl, H.sub sU⟩
theorem estart_no2 {B : Nat} {w0 : World} {L : List Res} {G1 : Nat → Prop} (gp : Nat) (sf : Pr) (sn : Bl) (ph : Int) (la : Option Addr) (n lc sl : Nat) (bl : Bl) (vp : Option Addr) (a1 a2 : Nat) (x : Vw) (xa xl xr : Option Addr) (xc xd xe : Nat) (s0 : Nat) (hm : smV x) (hw : wfV x) (hve : vErr x = 0) (hld : sf ∈ x.ldr) (hsn : sn.r = 4294967295)
    (hx : Rd B w0 L fun W => VwG G1 W (.slice xa x.mem.length xc) (.slice xl x.lvs.length xd) (.slice xr x.ldr.length xe) x) (w : World) (H : St B w0 w (row 129 gp #[.int .u16 (sf.1 : Int), .int .u32 (sf.2 : Int), .int .u32 (sn.r : Int), .int .u16 (sn.w.1 : Int), .int .u32 (sn.w.2 : Int), .int .i64 ph, .slice la n lc, .int .u64 (sl : Int), .int .u32 (bl.r : Int), .int .u16 (bl.w.1 : Int), .int .u32 (bl.w.2 : Int), .pointer vp, .int .u64 (a1 : Int), .int .u64 (a2 : Int)] :: L)) :
    Calls Try.prog 36 #[.pointer (some ⟨gp, 0, none⟩), .agg #[.int .u64 (x.id : Int), .slice xa x.mem.length xc, .slice xl x.lvs.length xd, .slice xr x.ldr.length xe], .int .u64 (s0 : Int)] w (Ret fun v w' => v = .tuple #[.agg #[.int .u32 0, .int .u16 0, .int .u32 0], .int .i64 16] ∧ St B w0 w' (row 129 gp #[.int .u16 (sf.1 : Int), .int .u32 (sf.2 : Int), .int .u32 (sn.r : Int), .int .u16 (sn.w.1 : Int), .int .u32 (sn.w.2 : Int), .int .i64 ph, .slice la n lc, .int .u64 (sl : Int), .int .u32 (bl.r : Int), .int .u16 (bl.w.1 : Int), .int .u32 (bl.w.2 : Int), .pointer vp, .int .u64 (a1 : Int), .int .u64 (a2 : Int)] :: L)) := by
  have HVE := Lib.hid hve
  have HLD : Hid (decide (sf ∈ x.ldr) = true) := Lib.hid (decide_eq_true hld)
  have HSN := Lib.hid hsn
  clear hve hld hsn
  go_enter Try.func36, Try.ntmps36
  go_wp2_with (first | (with_reducible refine wpl rfl (Stp.box 4 rfl rfl rfl H ?_); clear H; intro g4 w1 H; simp only [pS]; simp only [pE, nC, pS] at H) | (with_reducible refine wpl rfl (Stp.alloc 6 rfl rfl zero67 H ?_); clear H; intro g6 w1 H; simp only [pS]; simp only [nC] at H))
  refine rg_begin 13 rfl (S := fun W => St _ _ W (row 26 g4 #[.int .u64 (x.id : Int), .slice xa x.mem.length xc, .slice xl x.lvs.length xd, .slice xr x.ldr.length xe] :: row 129 gp #[.int .u16 (sf.1 : Int), .int .u32 (sf.2 : Int), .int .u32 (sn.r : Int), .int .u16 (sn.w.1 : Int), .int .u32 (sn.w.2 : Int), .int .i64 ph, .slice la n lc, .int .u64 (sl : Int), .int .u32 (bl.r : Int), .int .u16 (bl.w.1 : Int), .int .u32 (bl.w.2 : Int), .pointer vp, .int .u64 (a1 : Int), .int .u64 (a2 : Int)] :: [])) (by kernel_rfl) (H.drew.sub sU) ?_
  replace H := H.drew
  have HS := H
  first | (refine rg_take (i := 0) rfl kR kR kR (Yld.ldr rfl rfl agg26 size26 rfl mR sZ) (H.sub sU) ?_; simp only [pS]) | (refine rg_take (i := 0) rfl kR kR kR (Yld.ldl rfl rfl agg26 size26 rfl mR (by simp)) (H.sub sU) ?_; simp only [pS]; simp only [List.drop_succ_cons, List.drop_zero, List.take_succ_cons, List.take_zero]) | (refine rg_take (i := 0) rfl kR kR kR (Yld.ldor rfl rfl agg26 size26 rfl (by assumption) sZ (by assumption)) (H.sub sU) ?_; simp only [pS])
  refine rg_one (i := 1) (by kernel_rfl) rfl rfl (fun K hK => ?_)
  refine wp_callf rfl ent79 (vcheck_ok x xa xl xr xc xd xe hm hw _ (hx.at H (by repeat (first | exact List.Sublist.refl _ | apply List.Sublist.cons)))) rfl (fun v w1 hr => ?_)
  obtain ⟨rfl, hb1⟩ := hr
  replace H := H.grow hb1
  clear hb1
  rw [HVE.out]
  clear HS
  have HS := H
  refine hK.out _ _ (H.sub sU) ?_
  clear hK K
  simp only [pS]
  refine rg_take (i := 2) rfl kR kR kR (Yld.o rfl) (H.sub sU) ?_; simp only [pS]
  refine rg_take (i := 3) rfl kR kR kR (Yld.move rfl rfl) (H.sub sU) ?_; simp only [pS, pE]
  first | (refine rg_take (i := 4) rfl kR kR kR (Yld.ldr rfl rfl agg26 size26 rfl mR sZ) (H.sub sU) ?_; simp only [pS]) | (refine rg_take (i := 4) rfl kR kR kR (Yld.ldl rfl rfl agg26 size26 rfl mR (by simp)) (H.sub sU) ?_; simp only [pS]; simp only [List.drop_succ_cons, List.drop_zero, List.take_succ_cons, List.take_zero]) | (refine rg_take (i := 4) rfl kR kR kR (Yld.ldor rfl rfl agg26 size26 rfl (by assumption) sZ (by assumption)) (H.sub sU) ?_; simp only [pS])
  refine rg_take (i := 5) rfl kR kR kR (Yld.move rfl rfl) (H.sub sU) ?_; simp only [pS, pE]
  refine rg_take (i := 6) rfl kR kR kR (Yld.o rfl) (H.sub sU) ?_; simp only [pS]
  refine rg_take (i := 7) rfl kR kR kR (Yld.o rfl) (H.sub sU) ?_; simp only [pS]
  first | (refine rg_take (i := 8) rfl kR kR kR (Yld.ldr rfl rfl agg36 size36 rfl mR sZ) (H.sub sU) ?_; simp only [pS]) | (refine rg_take (i := 8) rfl kR kR kR (Yld.ldl rfl rfl agg36 size36 rfl mR (by simp)) (H.sub sU) ?_; simp only [pS]; simp only [List.drop_succ_cons, List.drop_zero, List.take_succ_cons, List.take_zero]) | (refine rg_take (i := 8) rfl kR kR kR (Yld.ldor rfl rfl agg36 size36 rfl (by assumption) sZ (by assumption)) (H.sub sU) ?_; simp only [pS])
  refine rg_one (i := 9) (by kernel_rfl) rfl rfl (fun K hK => ?_)
  refine wp_callf rfl ent80 (vleads_is x xa xl xr xc xd xe sf true HLD.out _ ((hx.at H (by repeat (first | exact List.Sublist.refl _ | apply List.Sublist.cons))).2.2.sl)) rfl (fun v w1 hr => ?_)
  obtain ⟨rfl, hb1⟩ := hr
  replace H := H.grow hb1
  clear hb1
  clear HS
  have HS := H
  refine hK.out _ _ (H.sub sU) ?_
  clear hK K
  simp only [pS]
  refine rg_take (i := 10) rfl kR kR kR (Yld.o rfl) (H.sub sU) ?_; simp only [pS]
  refine rg_take (i := 11) rfl kR kR kR (Yld.pick rfl rfl rfl) (H.sub sU) ?_; simp only [pS, pE]
  refine rg_take (i := 12) rfl kR kR kR (Yld.assign rfl rfl) (H.sub sU) ?_; simp only [pS, pE]
  refine rg_done (by kernel_rfl) ?_
  go_upto_region 5 with fail
  go_cut [8, 9] from 28 (fun s8 s9 w' => ∃ g8, s8 = .pointer (some ⟨g8, 0, none⟩) ∧ s9 = .int .i64 16 ∧ St B w0 w' (row 67 g8 #[.int .u32 0, .int .u16 0, .int .u32 0] :: row 67 g6 #[.int .u32 0, .int .u16 0, .int .u32 0] :: row 26 g4 #[.int .u64 (x.id : Int), .slice xa x.mem.length xc, .slice xl x.lvs.length xd, .slice xr x.ldr.length xe] :: row 129 gp #[.int .u16 (sf.1 : Int), .int .u32 (sf.2 : Int), .int .u32 (sn.r : Int), .int .u16 (sn.w.1 : Int), .int .u32 (sn.w.2 : Int), .int .i64 ph, .slice la n lc, .int .u64 (sl : Int), .int .u32 (bl.r : Int), .int .u16 (bl.w.1 : Int), .int .u32 (bl.w.2 : Int), .pointer vp, .int .u64 (a1 : Int), .int .u64 (a2 : Int)] :: L))
  case first =>
    refine rg_begin 15 rfl (S := fun W => St _ _ W (row 129 gp #[.int .u16 (sf.1 : Int), .int .u32 (sf.2 : Int), .int .u32 (sn.r : Int), .int .u16 (sn.w.1 : Int), .int .u32 (sn.w.2 : Int), .int .i64 ph, .slice la n lc, .int .u64 (sl : Int), .int .u32 (bl.r : Int), .int .u16 (bl.w.1 : Int), .int .u32 (bl.w.2 : Int), .pointer vp, .int .u64 (a1 : Int), .int .u64 (a2 : Int)] :: [])) (by kernel_rfl) (H.drew.sub sU) ?_
    replace H := H.drew
    have HS := H
    refine rg_take (i := 0) rfl kR kR kR (Yld.move rfl rfl) (H.sub sU) ?_; simp only [pS, pE]
    refine rg_take (i := 1) rfl kR kR kR (Yld.o rfl) (H.sub sU) ?_; simp only [pS]
    refine rg_take (i := 2) rfl kR kR kR (Yld.o rfl) (H.sub sU) ?_; simp only [pS]
    first | (refine rg_take (i := 3) rfl kR kR kR (Yld.ldr rfl rfl agg67 size67 rfl mR sZ) (H.sub sU) ?_; simp only [pS]) | (refine rg_take (i := 3) rfl kR kR kR (Yld.ldl rfl rfl agg67 size67 rfl mR (by simp)) (H.sub sU) ?_; simp only [pS]; simp only [List.drop_succ_cons, List.drop_zero, List.take_succ_cons, List.take_zero]) | (refine rg_take (i := 3) rfl kR kR kR (Yld.ldor rfl rfl agg67 size67 rfl (by assumption) sZ (by assumption)) (H.sub sU) ?_; simp only [pS])
    refine rg_take (i := 4) rfl kR kR kR (Yld.move rfl rfl) (H.sub sU) ?_; simp only [pS, pE]
    refine rg_take (i := 5) rfl kR kR kR (Yld.o rfl) (H.sub sU) ?_; simp only [pS]
    refine rg_take (i := 6) rfl kR kR kR (Yld.o rfl) (H.sub sU) ?_; simp only [pS]
    first | (refine rg_take (i := 7) rfl kR kR kR (Yld.ldr rfl rfl agg36 size36 rfl mR sZ) (H.sub sU) ?_; simp only [pS]) | (refine rg_take (i := 7) rfl kR kR kR (Yld.ldl rfl rfl agg36 size36 rfl mR (by simp)) (H.sub sU) ?_; simp only [pS]; simp only [List.drop_succ_cons, List.drop_zero, List.take_succ_cons, List.take_zero]) | (refine rg_take (i := 7) rfl kR kR kR (Yld.ldor rfl rfl agg36 size36 rfl (by assumption) sZ (by assumption)) (H.sub sU) ?_; simp only [pS])
    refine rg_all (rs := [8, 12]) (by kernel_rfl) (by simp) ?_
    refine rg_cons (i := 8) rfl rfl (fun K hK => ?_) ?_
    · -- 8
      refine wp_callf rfl ent81 (next_no sn sf HSN.out _) rfl (fun v w1 hr => ?_)
      obtain ⟨rfl, hb1⟩ := hr
      replace H := H.grow hb1
      clear hb1
      clear HS
      have HS := H
      refine hK.out _ _ (H.sub sU) ?_
      clear hK K
      simp only [pS]
      refine rg_take (i := 9) rfl kR kR kR (Yld.move rfl rfl) (H.sub sU) ?_; simp only [pS, pE]
      refine rg_take (i := 10) rfl kR kR kR (Yld.o rfl) (H.sub sU) ?_; simp only [pS]
      refine rg_take (i := 11) rfl kR kR kR (Yld.o rfl) (H.sub sU) ?_; simp only [pS]
      refine rg_one (i := 12) (by kernel_rfl) rfl rfl (fun K hK => ?_)
      refine Stp.wp (Stp.alloc 8 rfl rfl zero67 H ?_)
      clear H
      intro g8 w1 H
      simp only [cells_agg] at H
      clear HS
      have HS := H
      refine hK.out _ _ (H.sub sU) ?_
      clear hK K
      simp only [pS]
      refine rg_one (i := 13) (by kernel_rfl) rfl rfl (fun K hK => ?_)
      refine Stp.wp (Stp.str (ds := #[.int .u32 0, .int .u16 0, .int .u32 0]) rfl size67 rfl rfl (by simp [Value.oneCell']) H uP rfl rfl ?_)
      clear H
      intro w1 H
      clear HS
      have HS := H
      refine hK.out _ _ (H.sub sU) ?_
      clear hK K
      simp only [pS]
      refine rg_take (i := 14) rfl kR kR kR (Yld.assign rfl rfl) (H.sub sU) ?_; simp only [pS, pE]
      refine rg_done (by kernel_rfl) ?_
      go_wp2_with fail
      go_meet
      exact ⟨g8, rfl, rfl, ((((H.pull (r := row 129 gp #[.int .u16 (sf.1 : Int), .int .u32 (sf.2 : Int), .int .u32 (sn.r : Int), .int .u16 (sn.w.1 : Int), .int .u32 (sn.w.2 : Int), .int .i64 ph, .slice la n lc, .int .u64 (sl : Int), .int .u32 (bl.r : Int), .int .u16 (bl.w.1 : Int), .int .u32 (bl.w.2 : Int), .pointer vp, .int .u64 (a1 : Int), .int .u64 (a2 : Int)]) pU).pull (r := row 26 g4 _) pU).pull (r := row 67 g6 _) pU).pull (r := row 67 g8 _) pU)⟩
    refine rg_cons (i := 12) rfl rfl (fun K hK => ?_) ?_
    · -- 12
      refine Stp.wp (Stp.alloc 8 rfl rfl zero67 H ?_)
      clear H
      intro g8 w1 H
      simp only [cells_agg] at H
      clear HS
      have HS := H
      refine hK.out _ _ (H.sub sU) ?_
      clear hK K
      simp only [pS]
      refine rg_one (i := 8) (by kernel_rfl) rfl rfl (fun K hK => ?_)
      refine wp_callf rfl ent81 (next_no sn sf HSN.out _) rfl (fun v w1 hr => ?_)
      obtain ⟨rfl, hb1⟩ := hr
      replace H := H.grow hb1
      clear hb1
      clear HS
      have HS := H
      refine hK.out _ _ (H.sub sU) ?_
      clear hK K
      simp only [pS]
      refine rg_take (i := 9) rfl kR kR kR (Yld.move rfl rfl) (H.sub sU) ?_; simp only [pS, pE]
      refine rg_take (i := 10) rfl kR kR kR (Yld.o rfl) (H.sub sU) ?_; simp only [pS]
      refine rg_take (i := 11) rfl kR kR kR (Yld.o rfl) (H.sub sU) ?_; simp only [pS]
      refine rg_one (i := 13) (by kernel_rfl) rfl rfl (fun K hK => ?_)
      refine Stp.wp (Stp.str (ds := #[.int .u32 0, .int .u16 0, .int .u32 0]) rfl size67 rfl rfl (by simp [Value.oneCell']) H uP rfl rfl ?_)
      clear H
      intro w1 H
      clear HS
      have HS := H
      refine hK.out _ _ (H.sub sU) ?_
      clear hK K
      simp only [pS]
      refine rg_take (i := 14) rfl kR kR kR (Yld.assign rfl rfl) (H.sub sU) ?_; simp only [pS, pE]
      refine rg_done (by kernel_rfl) ?_
      go_wp2_with fail
      go_meet
      exact ⟨g8, rfl, rfl, ((((H.pull (r := row 129 gp #[.int .u16 (sf.1 : Int), .int .u32 (sf.2 : Int), .int .u32 (sn.r : Int), .int .u16 (sn.w.1 : Int), .int .u32 (sn.w.2 : Int), .int .i64 ph, .slice la n lc, .int .u64 (sl : Int), .int .u32 (bl.r : Int), .int .u16 (bl.w.1 : Int), .int .u32 (bl.w.2 : Int), .pointer vp, .int .u64 (a1 : Int), .int .u64 (a2 : Int)]) pU).pull (r := row 26 g4 _) pU).pull (r := row 67 g6 _) pU).pull (r := row 67 g8 _) pU)⟩
    exact AllReadyH.nil
  case rest =>
  obtain ⟨g8, rfl, rfl, H2⟩ := hcut
  clear H
  have H := H2
  clear H2
  go_wp2_with (first | (with_reducible refine wpl rfl (Stp.build (v := (.agg #[.int .u32 0, .int .u16 0, .int .u32 0])) 42 rfl rfl (fun W => by kernel_rfl) ?_); simp only [pS]) | (with_reducible refine wpl rfl (Stp.str rfl size67 rfl rfl (by first | rfl | (simp [Value.oneCell']; done) | assumption) H uP sZ sZ ?_); clear H; intro w1 H; simp only [pS]))
  refine post_row2 rfl agg67 size67 rfl H mE rfl rfl ⟨_, rfl, rfl, H.sub sU⟩
end Go.Proofs.Ytjghcmejmdllbaa
