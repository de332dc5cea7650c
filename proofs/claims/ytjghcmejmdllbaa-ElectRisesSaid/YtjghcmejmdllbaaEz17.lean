/- Layer 21's Proposer (elect): what a proposer holds, and what each call makes of it. The reference's rising (choragusref08), the plain law of it; no condition. The plain law of the reference's Check over views (choragusref08): what it counts is what the program's Check asks; no condition. -/
import Derived.Test.YtjghcmejmdllbaaEz8
import Derived.Test.YtjghcmejmdllbaaEz16
namespace Go.Proofs.Ytjghcmejmdllbaa
open Go.ChangeShapes Go.WideShapes Go.ChangeAt Go.RowKit Go.Maps Go.Deep
set_option linter.unusedVariables false
set_option linter.unusedSimpArgs false
set_option linter.unusedSectionVars false
set_option maxRecDepth 100000
set_option maxHeartbeats 4000000
/-- What a proposer holds. -/
structure Pd where
  sn : Bl
  ph : Int
  ld : List Pr
  sl : Nat
  bl : Bl
  a1 : Nat
  a2 : Nat
  val : Option (Bl × Cm)
structure Pw (d : Pd) : Prop where
  s1 : d.sn.w.1 < 65536
  s2 : d.sn.w.2 < 4294967296
  sr : d.sn.r < 4294967296
  b1 : d.bl.w.1 < 65536
  b2 : d.bl.w.2 < 4294967296
  sl : d.sl < 18446744073709551616
  a1 : d.a1 < 18446744073709551616
  a2 : d.a2 < 18446744073709551616
  ld : d.ld.length < 1000
  vu : ∀ u c, d.val = some (u, c) → u.w.1 < 65536 ∧ u.w.2 < 4294967296 ∧ smC c
/-- A proposer in memory. -/
def PH (B : Nat) (w0 w : World) (gp : Nat) (sf : Pr) (d : Pd) (L : List Res) : Prop := ∃ (la : Option Addr) (lc : Nat) (vp : Option Addr) (RV : Res), valR d.val vp RV ∧ St B w0 w (row 129 gp #[.int .u16 (sf.1 : Int), .int .u32 (sf.2 : Int), .int .u32 (d.sn.r : Int), .int .u16 (d.sn.w.1 : Int), .int .u32 (d.sn.w.2 : Int), .int .i64 d.ph, .slice la d.ld.length lc, .int .u64 (d.sl : Int), .int .u32 (d.bl.r : Int), .int .u16 (d.bl.w.1 : Int), .int .u32 (d.bl.w.2 : Int), .pointer vp, .int .u64 (d.a1 : Int), .int .u64 (d.a2 : Int)] :: slc 36 2 (.slice la d.ld.length lc) d.ld.length (pv d.ld) :: RV :: L)
def promD (d : Pd) (q : Pr) (kd : Int) (ms : Nat) (mb : Bl) (mh : Bool) (ma : Bl) (mc : Cm) : Bool × Pd :=
  if d.ph = 1 ∧ kd = 5 ∧ ms = d.sl ∧ mb = d.bl ∧ 0 ≤ atR d.ld q ∧ hasM (d.a1, d.a2) (atR d.ld q) = false then
    (majM (setM (d.a1, d.a2) (atR d.ld q)).1 (setM (d.a1, d.a2) (atR d.ld q)).2 (d.ld.length : Int), { d with a1 := (setM (d.a1, d.a2) (atR d.ld q)).1, a2 := (setM (d.a1, d.a2) (atR d.ld q)).2, ph := (if majM (setM (d.a1, d.a2) (atR d.ld q)).1 (setM (d.a1, d.a2) (atR d.ld q)).2 (d.ld.length : Int) = true then 2 else 1), val := if updB d.val mh ma = true then some (ma, mc) else d.val })
  else (false, d)
def accD (d : Pd) (q : Pr) (kd : Int) (ms : Nat) (mb : Bl) : Bool × Pd :=
  if d.ph = 3 ∧ kd = 7 ∧ ms = d.sl ∧ mb = d.bl ∧ 0 ≤ atR d.ld q ∧ hasM (d.a1, d.a2) (atR d.ld q) = false then
    (majM (setM (d.a1, d.a2) (atR d.ld q)).1 (setM (d.a1, d.a2) (atR d.ld q)).2 (d.ld.length : Int), { d with a1 := (setM (d.a1, d.a2) (atR d.ld q)).1, a2 := (setM (d.a1, d.a2) (atR d.ld q)).2, ph := (if majM (setM (d.a1, d.a2) (atR d.ld q)).1 (setM (d.a1, d.a2) (atR d.ld q)).2 (d.ld.length : Int) = true then 2 else 3), sl := (if majM (setM (d.a1, d.a2) (atR d.ld q)).1 (setM (d.a1, d.a2) (atR d.ld q)).2 (d.ld.length : Int) = true then (d.sl + 1) % 18446744073709551616 else d.sl), val := if majM (setM (d.a1, d.a2) (atR d.ld q)).1 (setM (d.a1, d.a2) (atR d.ld q)).2 (d.ld.length : Int) = true then none else d.val })
  else (false, d)
def propD (d : Pd) (c : Cm) : Cm × Int × Pd :=
  if d.ph = 2 then
    if cErr c = 0 then
      match d.val with
      | none => (c, 0, { d with ph := 3, a1 := 0, a2 := 0, val := some (d.bl, c) })
      | some (u, cv) => (cv, 0, { d with ph := 3, a1 := 0, a2 := 0 })
    else (cm0, 1, d)
  else (cm0, 8, d)
def startD (d : Pd) (sf : Pr) (x : Vw) (s0 : Nat) : Bl × Int × Pd :=
  if vErr x = 0 ∧ sf ∈ x.ldr then
    if d.sn.r = 4294967295 then (bl0, 16, d)
    else (⟨d.sn.r + 1, sf⟩, 0, { sn := ⟨d.sn.r + 1, sf⟩, ph := 1, ld := x.ldr, sl := s0, bl := ⟨d.sn.r + 1, sf⟩, a1 := 0, a2 := 0, val := none })
  else (bl0, 1, d)
def seeD (d : Pd) (b : Bl) : Pd := { d with sn := if blt d.sn b = true then b else d.sn }
def stopD (d : Pd) : Pd := { d with ph := 0, val := none }
def nackD (d : Pd) (kd : Int) (mb : Bl) : Bool × Pd := if ¬ d.ph = 0 ∧ kd = 8 ∧ blt d.bl mb = true then (true, stopD (seeD d mb)) else (false, d)
def moveD (d : Pd) (s : Nat) : Bool × Pd := if ¬ d.ph = 0 ∧ d.sl < s then (true, stopD d) else (false, d)
theorem atR_ne {l : List Pr} {q : Pr} (h : 0 ≤ atR l q) : 0 < l.length := by
  cases l with
  | nil => exact absurd h (by show ¬ (0 ≤ (-1 : Int)); decide)
  | cons a l => simp
theorem cmr0 {B : Nat} {w0 w : World} {L : List Res} (H : St B w0 w L) : St B w0 w (cmr (fun _ => False) (.slice hd0.ba cm0.data.length hd0.bc) (.slice hd0.ma cm0.v.mem.length hd0.mc) (.slice hd0.la cm0.v.lvs.length hd0.lc) (.slice hd0.da cm0.v.ldr.length hd0.dc) cm0 :: L) :=
  St.emp (p := (cmr (fun _ => False) (.slice hd0.ba cm0.data.length hd0.bc) (.slice hd0.ma cm0.v.mem.length hd0.mc) (.slice hd0.la cm0.v.lvs.length hd0.lc) (.slice hd0.da cm0.v.ldr.length hd0.dc) cm0).2) (fun W => CmG.nil _ W 0) H
theorem St.noV {B : Nat} {w0 w : World} {L : List Res} {r1 r2 RV : Res} (H : St B w0 w (r1 :: r2 :: RV :: L)) : St B w0 w (r1 :: r2 :: Go.Proofs.Ytjghcmejmdllbaa.empR :: L) :=
  ((H.sub (L' := r1 :: r2 :: L) sU).empR.pull (r := r2) pU).pull (r := r1) pU
theorem St.noV2 {B : Nat} {w0 w : World} {L : List Res} {r1 r2 r3 RV : Res} (H : St B w0 w (r1 :: r2 :: r3 :: RV :: L)) : St B w0 w (r1 :: r2 :: Go.Proofs.Ytjghcmejmdllbaa.empR :: L) :=
  (H.sub (L' := r1 :: r2 :: RV :: L) sU).noV
attribute [local irreducible] hasM setM atR majM cErr vErr vOk blt
theorem aprom_ok {B : Nat} {w0 : World} {L : List Res} {G1 : Nat → Prop} (gp : Nat) (sf : Pr) (d : Pd) (la : Option Addr) (lc : Nat) (vp : Option Addr) (RV : Res) (hv : valR d.val vp RV) (hw : Pw d) (q : Pr) (kd m1 m2 m3 m5 m6 : Int) (ms : Nat) (mb ma : Bl) (mh : Bool) (mc : Cm) (me : Hd) (mv : Vw) (mx : Hd) (my : Option Addr) (m7 mz : Nat) (ha1 : ma.w.1 < 65536) (ha2 : ma.w.2 < 4294967296) (hm : smC mc)
    (hx : Rd B w0 L fun W => CmG G1 W (.slice me.ba mc.data.length me.bc) (.slice me.ma mc.v.mem.length me.mc) (.slice me.la mc.v.lvs.length me.lc) (.slice me.da mc.v.ldr.length me.dc) mc) (w : World) (H : St B w0 w (row 129 gp #[.int .u16 (sf.1 : Int), .int .u32 (sf.2 : Int), .int .u32 (d.sn.r : Int), .int .u16 (d.sn.w.1 : Int), .int .u32 (d.sn.w.2 : Int), .int .i64 d.ph, .slice la d.ld.length lc, .int .u64 (d.sl : Int), .int .u32 (d.bl.r : Int), .int .u16 (d.bl.w.1 : Int), .int .u32 (d.bl.w.2 : Int), .pointer vp, .int .u64 (d.a1 : Int), .int .u64 (d.a2 : Int)] :: slc 36 2 (.slice la d.ld.length lc) d.ld.length (pv d.ld) :: RV :: L)) :
    Calls Try.prog 41 #[.pointer (some ⟨gp, 0, none⟩), .agg #[.int .u16 (q.1 : Int), .int .u32 (q.2 : Int)], .agg #[.int .i64 kd, .int .u16 m1, .int .u32 m2, .int .u64 m3, .int .u64 (ms : Int), .int .u64 m5, .int .i64 m6, .int .u32 (mb.r : Int), .int .u16 (mb.w.1 : Int), .int .u32 (mb.w.2 : Int), .int .u32 (ma.r : Int), .int .u16 (ma.w.1 : Int), .int .u32 (ma.w.2 : Int), .bool mh, .int .i64 mc.kind, .int .u16 (mc.fr.1 : Int), .int .u32 (mc.fr.2 : Int), .int .u64 (mc.num : Int), .int .u64 (mc.vw : Int), .slice me.ba mc.data.length me.bc, .int .u64 (mc.v.id : Int), .slice me.ma mc.v.mem.length me.mc, .slice me.la mc.v.lvs.length me.lc, .slice me.da mc.v.ldr.length me.dc, .int .u64 (mv.id : Int), .slice mx.ma mv.mem.length mx.mc, .slice mx.la mv.lvs.length mx.lc, .slice mx.da mv.ldr.length mx.dc, .slice my m7 mz]] w (Ret fun v w' => ∃ (r : Bool) (d' : Pd), Hid (promD d q kd ms mb mh ma mc = (r, d')) ∧ v = .bool r ∧ PH B w0 w' gp sf d' L) := by
  by_cases h : d.ph = 1 ∧ kd = 5 ∧ ms = d.sl ∧ mb = d.bl ∧ 0 ≤ atR d.ld q ∧ hasM (d.a1, d.a2) (atR d.ld q) = false
  · have hD : promD d q kd ms mb mh ma mc = _ := if_pos h
    obtain ⟨h1, h2, h3, h4, h5, h6⟩ := h
    have hst := setM_lt (m := (d.a1, d.a2)) (r := atR d.ld q) ⟨hw.a1, hw.a2⟩
    subst h2 h3 h4
    rw [h1] at H
    refine (prom_ok gp sf d.sn la d.ld.length lc d.sl d.bl d.a1 d.a2 d.ld vp q mh m1 m2 m3 m5 m6 ma mc me mv mx my m7 mz rfl (atR_ne h5) hw.ld hw.a1 hw.a2 _ rfl h5 h6 _ _ rfl hst.1 hst.2 _ rfl d.val RV hv (fun u c hc => ⟨(hw.vu u c hc).1, (hw.vu u c hc).2.1⟩) ha1 ha2 hm hx w H).mono ?_
    rintro e1 w1 ⟨v, rfl, rfl, vp', RV', hv', H2⟩
    exact ⟨_, rfl, _, _, Lib.hid hD, rfl, la, lc, vp', RV', hv', H2⟩
  · have hD : promD d q kd ms mb mh ma mc = _ := if_neg h
    refine (prom_no gp sf d.sn d.ph la d.ld.length lc d.sl d.bl vp d.a1 d.a2 d.ld q kd m1 m2 m3 m5 m6 ms mb ma mh mc me mv mx my m7 mz rfl (Nat.le_trans (Nat.le_of_lt hw.ld) (by decide)) hw.a1 hw.a2 h w H).mono ?_
    rintro e1 w1 ⟨v, rfl, rfl, H2⟩
    exact ⟨_, rfl, _, _, Lib.hid hD, rfl, la, lc, vp, RV, hv, H2⟩
theorem aaccd_ok {B : Nat} {w0 : World} {L : List Res} (gp : Nat) (sf : Pr) (d : Pd) (la : Option Addr) (lc : Nat) (vp : Option Addr) (RV : Res) (hv : valR d.val vp RV) (hw : Pw d) (q : Pr) (kd m1 m2 m3 m5 m6 : Int) (ms : Nat) (mb ma : Bl) (mh : Bool) (mc : Cm) (me : Hd) (mv : Vw) (mx : Hd) (my : Option Addr) (m7 mz : Nat) (w : World) (H : St B w0 w (row 129 gp #[.int .u16 (sf.1 : Int), .int .u32 (sf.2 : Int), .int .u32 (d.sn.r : Int), .int .u16 (d.sn.w.1 : Int), .int .u32 (d.sn.w.2 : Int), .int .i64 d.ph, .slice la d.ld.length lc, .int .u64 (d.sl : Int), .int .u32 (d.bl.r : Int), .int .u16 (d.bl.w.1 : Int), .int .u32 (d.bl.w.2 : Int), .pointer vp, .int .u64 (d.a1 : Int), .int .u64 (d.a2 : Int)] :: slc 36 2 (.slice la d.ld.length lc) d.ld.length (pv d.ld) :: RV :: L)) :
    Calls Try.prog 42 #[.pointer (some ⟨gp, 0, none⟩), .agg #[.int .u16 (q.1 : Int), .int .u32 (q.2 : Int)], .agg #[.int .i64 kd, .int .u16 m1, .int .u32 m2, .int .u64 m3, .int .u64 (ms : Int), .int .u64 m5, .int .i64 m6, .int .u32 (mb.r : Int), .int .u16 (mb.w.1 : Int), .int .u32 (mb.w.2 : Int), .int .u32 (ma.r : Int), .int .u16 (ma.w.1 : Int), .int .u32 (ma.w.2 : Int), .bool mh, .int .i64 mc.kind, .int .u16 (mc.fr.1 : Int), .int .u32 (mc.fr.2 : Int), .int .u64 (mc.num : Int), .int .u64 (mc.vw : Int), .slice me.ba mc.data.length me.bc, .int .u64 (mc.v.id : Int), .slice me.ma mc.v.mem.length me.mc, .slice me.la mc.v.lvs.length me.lc, .slice me.da mc.v.ldr.length me.dc, .int .u64 (mv.id : Int), .slice mx.ma mv.mem.length mx.mc, .slice mx.la mv.lvs.length mx.lc, .slice mx.da mv.ldr.length mx.dc, .slice my m7 mz]] w (Ret fun v w' => ∃ (r : Bool) (d' : Pd), Hid (accD d q kd ms mb = (r, d')) ∧ v = .bool r ∧ PH B w0 w' gp sf d' L) := by
  by_cases h : d.ph = 3 ∧ kd = 7 ∧ ms = d.sl ∧ mb = d.bl ∧ 0 ≤ atR d.ld q ∧ hasM (d.a1, d.a2) (atR d.ld q) = false
  · have hD : accD d q kd ms mb = _ := if_pos h
    obtain ⟨h1, h2, h3, h4, h5, h6⟩ := h
    have hst := setM_lt (m := (d.a1, d.a2)) (r := atR d.ld q) ⟨hw.a1, hw.a2⟩
    subst h2 h3 h4
    rw [h1] at H
    refine (accd2_ok gp sf d.sn la d.ld.length lc d.sl d.bl d.a1 d.a2 d.ld vp q mh m1 m2 m3 m5 m6 ma mc me mv mx my m7 mz rfl (atR_ne h5) hw.ld hw.a1 hw.a2 _ rfl h5 h6 _ _ rfl hst.1 hst.2 _ rfl _ rfl w H).mono ?_
    rintro e1 w1 ⟨v, rfl, rfl, H2⟩
    obtain ⟨m, hmj⟩ : ∃ m, majM (setM (d.a1, d.a2) (atR d.ld q)).1 (setM (d.a1, d.a2) (atR d.ld q)).2 (d.ld.length : Int) = m := ⟨_, rfl⟩
    rw [hmj] at H2 hD ⊢
    cases m
    · exact ⟨_, rfl, _, _, Lib.hid hD, rfl, la, lc, vp, RV, hv, H2⟩
    · exact ⟨_, rfl, _, _, Lib.hid hD, rfl, la, lc, none, empR, ⟨rfl, rfl⟩, H2.noV⟩
  · have hD : accD d q kd ms mb = _ := if_neg h
    refine (accd_no gp sf d.sn d.ph la d.ld.length lc d.sl d.bl vp d.a1 d.a2 d.ld q kd m1 m2 m3 m5 m6 ms mb ma mh mc me mv mx my m7 mz rfl (Nat.le_trans (Nat.le_of_lt hw.ld) (by decide)) hw.a1 hw.a2 h w H).mono ?_
    rintro e1 w1 ⟨v, rfl, rfl, H2⟩
    exact ⟨_, rfl, _, _, Lib.hid hD, rfl, la, lc, vp, RV, hv, H2⟩
theorem asee_ok {B : Nat} {w0 : World} {L : List Res} (gp : Nat) (sf : Pr) (d : Pd) (la : Option Addr) (lc : Nat) (vp : Option Addr) (RV : Res) (hv : valR d.val vp RV) (hw : Pw d) (b : Bl) (ha1 : b.w.1 < 65536) (ha2 : b.w.2 < 4294967296) (w : World) (H : St B w0 w (row 129 gp #[.int .u16 (sf.1 : Int), .int .u32 (sf.2 : Int), .int .u32 (d.sn.r : Int), .int .u16 (d.sn.w.1 : Int), .int .u32 (d.sn.w.2 : Int), .int .i64 d.ph, .slice la d.ld.length lc, .int .u64 (d.sl : Int), .int .u32 (d.bl.r : Int), .int .u16 (d.bl.w.1 : Int), .int .u32 (d.bl.w.2 : Int), .pointer vp, .int .u64 (d.a1 : Int), .int .u64 (d.a2 : Int)] :: slc 36 2 (.slice la d.ld.length lc) d.ld.length (pv d.ld) :: RV :: L)) :
    Calls Try.prog 39 #[.pointer (some ⟨gp, 0, none⟩), .agg #[.int .u32 (b.r : Int), .int .u16 (b.w.1 : Int), .int .u32 (b.w.2 : Int)]] w (Ret fun v w' => ∃ d' : Pd, Hid (seeD d b = d') ∧ v = .tuple #[] ∧ PH B w0 w' gp sf d' L) := by
  refine (esee_ok gp sf d.sn d.ph la d.ld.length lc d.sl d.bl vp d.a1 d.a2 b hw.s1 hw.s2 ha1 ha2 _ rfl w H).mono ?_
  rintro e1 w1 ⟨v, rfl, rfl, H2⟩
  exact ⟨_, rfl, _, Lib.hid rfl, rfl, la, lc, vp, RV, hv, H2⟩
theorem astop_ok {B : Nat} {w0 : World} {L : List Res} (gp : Nat) (sf : Pr) (d : Pd) (la : Option Addr) (lc : Nat) (vp : Option Addr) (RV : Res) (hv : valR d.val vp RV) (hw : Pw d) (w : World) (H : St B w0 w (row 129 gp #[.int .u16 (sf.1 : Int), .int .u32 (sf.2 : Int), .int .u32 (d.sn.r : Int), .int .u16 (d.sn.w.1 : Int), .int .u32 (d.sn.w.2 : Int), .int .i64 d.ph, .slice la d.ld.length lc, .int .u64 (d.sl : Int), .int .u32 (d.bl.r : Int), .int .u16 (d.bl.w.1 : Int), .int .u32 (d.bl.w.2 : Int), .pointer vp, .int .u64 (d.a1 : Int), .int .u64 (d.a2 : Int)] :: slc 36 2 (.slice la d.ld.length lc) d.ld.length (pv d.ld) :: RV :: L)) :
    Calls Try.prog 40 #[.pointer (some ⟨gp, 0, none⟩)] w (Ret fun v w' => ∃ d' : Pd, Hid (stopD d = d') ∧ v = .tuple #[] ∧ PH B w0 w' gp sf d' L) := by
  refine (estop_ok gp sf d.sn d.ph la d.ld.length lc d.sl d.bl vp d.a1 d.a2 w H).mono ?_
  rintro e1 w1 ⟨v, rfl, rfl, H2⟩
  exact ⟨_, rfl, _, Lib.hid rfl, rfl, la, lc, none, empR, ⟨rfl, rfl⟩, H2.noV⟩
theorem anack_ok {B : Nat} {w0 : World} {L : List Res} (gp : Nat) (sf : Pr) (d : Pd) (la : Option Addr) (lc : Nat) (vp : Option Addr) (RV : Res) (hv : valR d.val vp RV) (hw : Pw d) (kd m1 m2 m3 m5 m6 : Int) (ms : Nat) (mb ma : Bl) (mh : Bool) (mc : Cm) (me : Hd) (mv : Vw) (mx : Hd) (my : Option Addr) (m7 mz : Nat) (ha1 : mb.w.1 < 65536) (ha2 : mb.w.2 < 4294967296) (w : World) (H : St B w0 w (row 129 gp #[.int .u16 (sf.1 : Int), .int .u32 (sf.2 : Int), .int .u32 (d.sn.r : Int), .int .u16 (d.sn.w.1 : Int), .int .u32 (d.sn.w.2 : Int), .int .i64 d.ph, .slice la d.ld.length lc, .int .u64 (d.sl : Int), .int .u32 (d.bl.r : Int), .int .u16 (d.bl.w.1 : Int), .int .u32 (d.bl.w.2 : Int), .pointer vp, .int .u64 (d.a1 : Int), .int .u64 (d.a2 : Int)] :: slc 36 2 (.slice la d.ld.length lc) d.ld.length (pv d.ld) :: RV :: L)) :
    Calls Try.prog 43 #[.pointer (some ⟨gp, 0, none⟩), .agg #[.int .i64 kd, .int .u16 m1, .int .u32 m2, .int .u64 m3, .int .u64 (ms : Int), .int .u64 m5, .int .i64 m6, .int .u32 (mb.r : Int), .int .u16 (mb.w.1 : Int), .int .u32 (mb.w.2 : Int), .int .u32 (ma.r : Int), .int .u16 (ma.w.1 : Int), .int .u32 (ma.w.2 : Int), .bool mh, .int .i64 mc.kind, .int .u16 (mc.fr.1 : Int), .int .u32 (mc.fr.2 : Int), .int .u64 (mc.num : Int), .int .u64 (mc.vw : Int), .slice me.ba mc.data.length me.bc, .int .u64 (mc.v.id : Int), .slice me.ma mc.v.mem.length me.mc, .slice me.la mc.v.lvs.length me.lc, .slice me.da mc.v.ldr.length me.dc, .int .u64 (mv.id : Int), .slice mx.ma mv.mem.length mx.mc, .slice mx.la mv.lvs.length mx.lc, .slice mx.da mv.ldr.length mx.dc, .slice my m7 mz]] w (Ret fun v w' => ∃ (r : Bool) (d' : Pd), Hid (nackD d kd mb = (r, d')) ∧ v = .bool r ∧ PH B w0 w' gp sf d' L) := by
  by_cases h : ¬ d.ph = 0 ∧ kd = 8 ∧ blt d.bl mb = true
  · have hD : nackD d kd mb = _ := if_pos h
    refine (enack_yes gp sf d.sn d.ph la d.ld.length lc d.sl d.bl vp d.a1 d.a2 kd m1 m2 m3 m5 m6 ms mb ma mh mc me mv mx my m7 mz hw.s1 hw.s2 hw.b1 hw.b2 ha1 ha2 h.1 h.2.1 h.2.2 _ rfl w H).mono ?_
    rintro e1 w1 ⟨v, rfl, rfl, H2⟩
    exact ⟨_, rfl, _, _, Lib.hid hD, rfl, la, lc, none, empR, ⟨rfl, rfl⟩, H2.noV⟩
  · have hD : nackD d kd mb = _ := if_neg h
    refine (enack_no gp sf d.sn d.ph la d.ld.length lc d.sl d.bl vp d.a1 d.a2 kd m1 m2 m3 m5 m6 ms mb ma mh mc me mv mx my m7 mz hw.b1 hw.b2 ha1 ha2 ?_ w H).mono ?_
    · by_cases h1 : d.ph = 0
      · exact .inl h1
      · by_cases h2 : kd = 8
        · refine .inr (.inr ?_)
          cases h3 : blt d.bl mb
          · rfl
          · exact absurd ⟨h1, h2, h3⟩ h
        · exact .inr (.inl h2)
    rintro e1 w1 ⟨v, rfl, rfl, H2⟩
    exact ⟨_, rfl, _, _, Lib.hid hD, rfl, la, lc, vp, RV, hv, H2⟩
theorem amove_ok {B : Nat} {w0 : World} {L : List Res} (gp : Nat) (sf : Pr) (d : Pd) (la : Option Addr) (lc : Nat) (vp : Option Addr) (RV : Res) (hv : valR d.val vp RV) (hw : Pw d) (s : Nat) (w : World) (H : St B w0 w (row 129 gp #[.int .u16 (sf.1 : Int), .int .u32 (sf.2 : Int), .int .u32 (d.sn.r : Int), .int .u16 (d.sn.w.1 : Int), .int .u32 (d.sn.w.2 : Int), .int .i64 d.ph, .slice la d.ld.length lc, .int .u64 (d.sl : Int), .int .u32 (d.bl.r : Int), .int .u16 (d.bl.w.1 : Int), .int .u32 (d.bl.w.2 : Int), .pointer vp, .int .u64 (d.a1 : Int), .int .u64 (d.a2 : Int)] :: slc 36 2 (.slice la d.ld.length lc) d.ld.length (pv d.ld) :: RV :: L)) :
    Calls Try.prog 44 #[.pointer (some ⟨gp, 0, none⟩), .int .u64 (s : Int)] w (Ret fun v w' => ∃ (r : Bool) (d' : Pd), Hid (moveD d s = (r, d')) ∧ v = .bool r ∧ PH B w0 w' gp sf d' L) := by
  by_cases h : ¬ d.ph = 0 ∧ d.sl < s
  · have hD : moveD d s = _ := if_pos h
    refine (emove_yes gp sf d.sn d.ph la d.ld.length lc d.sl d.bl vp d.a1 d.a2 s h.1 h.2 w H).mono ?_
    rintro e1 w1 ⟨v, rfl, rfl, H2⟩
    exact ⟨_, rfl, _, _, Lib.hid hD, rfl, la, lc, none, empR, ⟨rfl, rfl⟩, H2.noV⟩
  · have hD : moveD d s = _ := if_neg h
    refine (emove_no gp sf d.sn d.ph la d.ld.length lc d.sl d.bl vp d.a1 d.a2 s (by by_cases h1 : d.ph = 0; exact .inl h1; exact .inr (Nat.le_of_not_lt fun g => h ⟨h1, g⟩)) w H).mono ?_
    rintro e1 w1 ⟨v, rfl, rfl, H2⟩
    exact ⟨_, rfl, _, _, Lib.hid hD, rfl, la, lc, vp, RV, hv, H2⟩
theorem aballot_ok {B : Nat} {w0 : World} {L : List Res} (gp : Nat) (sf : Pr) (d : Pd) (la : Option Addr) (lc : Nat) (vp : Option Addr) (RV : Res) (hv : valR d.val vp RV) (hw : Pw d) (w : World) (H : St B w0 w (row 129 gp #[.int .u16 (sf.1 : Int), .int .u32 (sf.2 : Int), .int .u32 (d.sn.r : Int), .int .u16 (d.sn.w.1 : Int), .int .u32 (d.sn.w.2 : Int), .int .i64 d.ph, .slice la d.ld.length lc, .int .u64 (d.sl : Int), .int .u32 (d.bl.r : Int), .int .u16 (d.bl.w.1 : Int), .int .u32 (d.bl.w.2 : Int), .pointer vp, .int .u64 (d.a1 : Int), .int .u64 (d.a2 : Int)] :: slc 36 2 (.slice la d.ld.length lc) d.ld.length (pv d.ld) :: RV :: L)) :
    Calls Try.prog 31 #[.pointer (some ⟨gp, 0, none⟩)] w (Ret fun v w' => v = .agg #[.int .u32 (d.bl.r : Int), .int .u16 (d.bl.w.1 : Int), .int .u32 (d.bl.w.2 : Int)] ∧ St B w0 w' (row 129 gp #[.int .u16 (sf.1 : Int), .int .u32 (sf.2 : Int), .int .u32 (d.sn.r : Int), .int .u16 (d.sn.w.1 : Int), .int .u32 (d.sn.w.2 : Int), .int .i64 d.ph, .slice la d.ld.length lc, .int .u64 (d.sl : Int), .int .u32 (d.bl.r : Int), .int .u16 (d.bl.w.1 : Int), .int .u32 (d.bl.w.2 : Int), .pointer vp, .int .u64 (d.a1 : Int), .int .u64 (d.a2 : Int)] :: slc 36 2 (.slice la d.ld.length lc) d.ld.length (pv d.ld) :: RV :: L)) :=
  eballot_ok gp sf d.sn d.ph la d.ld.length lc d.sl d.bl vp d.a1 d.a2 w H
theorem astart_ok {B : Nat} {w0 : World} {L : List Res} {G1 : Nat → Prop} (gp : Nat) (sf : Pr) (d : Pd) (la : Option Addr) (lc : Nat) (vp : Option Addr) (RV : Res) (hv : valR d.val vp RV) (hw : Pw d) (x : Vw) (xa xl xr : Option Addr) (xc xd xe : Nat) (s0 : Nat) (hm : smV x) (hwx : wfV x)
    (hx : Rd B w0 L fun W => VwG G1 W (.slice xa x.mem.length xc) (.slice xl x.lvs.length xd) (.slice xr x.ldr.length xe) x) (w : World) (H : St B w0 w (row 129 gp #[.int .u16 (sf.1 : Int), .int .u32 (sf.2 : Int), .int .u32 (d.sn.r : Int), .int .u16 (d.sn.w.1 : Int), .int .u32 (d.sn.w.2 : Int), .int .i64 d.ph, .slice la d.ld.length lc, .int .u64 (d.sl : Int), .int .u32 (d.bl.r : Int), .int .u16 (d.bl.w.1 : Int), .int .u32 (d.bl.w.2 : Int), .pointer vp, .int .u64 (d.a1 : Int), .int .u64 (d.a2 : Int)] :: slc 36 2 (.slice la d.ld.length lc) d.ld.length (pv d.ld) :: RV :: L)) :
    Calls Try.prog 36 #[.pointer (some ⟨gp, 0, none⟩), .agg #[.int .u64 (x.id : Int), .slice xa x.mem.length xc, .slice xl x.lvs.length xd, .slice xr x.ldr.length xe], .int .u64 (s0 : Int)] w (Ret fun v w' => ∃ (b : Bl) (i : Int) (d' : Pd), Hid (startD d sf x s0 = (b, i, d')) ∧ v = .tuple #[.agg #[.int .u32 (b.r : Int), .int .u16 (b.w.1 : Int), .int .u32 (b.w.2 : Int)], .int .i64 i] ∧ PH B w0 w' gp sf d' L) := by
  have hx2 : Rd B w0 (slc 36 2 (.slice la d.ld.length lc) d.ld.length (pv d.ld) :: RV :: L) fun W => VwG G1 W (.slice xa x.mem.length xc) (.slice xl x.lvs.length xd) (.slice xr x.ldr.length xe) x := hx.mono fun r hr => List.mem_cons_of_mem _ (List.mem_cons_of_mem _ hr)
  by_cases h : vErr x = 0 ∧ sf ∈ x.ldr
  · by_cases h2 : d.sn.r = 4294967295
    · have hD : startD d sf x s0 = _ := (if_pos h).trans (if_pos h2)
      refine (estart_no2 gp sf d.sn d.ph la d.ld.length lc d.sl d.bl vp d.a1 d.a2 x xa xl xr xc xd xe s0 hm hwx h.1 h.2 h2 hx2 w H).mono ?_
      rintro e1 w1 ⟨v, rfl, rfl, H2⟩
      exact ⟨_, rfl, _, _, _, Lib.hid hD, rfl, la, lc, vp, RV, hv, H2⟩
    · have hD : startD d sf x s0 = _ := (if_pos h).trans (if_neg h2)
      refine (estart_yes gp sf d.sn d.ph la d.ld.length lc d.sl d.bl vp d.a1 d.a2 x xa xl xr xc xd xe s0 hm hwx h.1 h.2 (by have := hw.sr; omega) hx2 w H).mono ?_
      rintro e1 w1 ⟨v, rfl, rfl, a65, c65, H2⟩
      exact ⟨_, rfl, _, _, _, Lib.hid hD, rfl, a65, c65, none, empR, ⟨rfl, rfl⟩, H2.noV2⟩
  · have hD : startD d sf x s0 = _ := if_neg h
    refine (estart_no1 gp sf d.sn d.ph la d.ld.length lc d.sl d.bl vp d.a1 d.a2 x xa xl xr xc xd xe s0 hm hwx h hx2 w H).mono ?_
    rintro e1 w1 ⟨v, rfl, rfl, H2⟩
    exact ⟨_, rfl, _, _, _, Lib.hid hD, rfl, la, lc, vp, RV, hv, H2⟩
/-- The value's resource, put back beside the row and the leaders. -/
theorem St.packV {B : Nat} {w0 w : World} {L : List Res} {r1 rv rg r3 r2 : Res} (H : St B w0 w (r1 :: rv :: rg :: r3 :: r2 :: L)) : St B w0 w (r1 :: r2 :: Go.Proofs.Ytjghcmejmdllbaa.sep rv rg :: r3 :: L) :=
  (((((H.pull (r := rg) pU).pull (r := rv) pU).sep.pull (r := r2) pU).pull (r := r1) pU))
theorem St.unpackV {B : Nat} {w0 w : World} {L : List Res} {r1 rv rg r2 : Res} (H : St B w0 w (r1 :: r2 :: Go.Proofs.Ytjghcmejmdllbaa.sep rv rg :: L)) : St B w0 w (r1 :: rv :: rg :: r2 :: L) :=
  ((H.pull (r := Go.Proofs.Ytjghcmejmdllbaa.sep rv rg) pU).part.pull (r := r1) pU)
theorem St.noE {B : Nat} {w0 w : World} {L : List Res} {r1 rv rg r3 r2 re : Res} (H : St B w0 w (r1 :: rv :: rg :: r3 :: r2 :: re :: L)) : St B w0 w (r1 :: rv :: rg :: r3 :: r2 :: L) := H.sub sU
theorem St.put3 {B : Nat} {w0 w : World} {L : List Res} {r1 r2 r3 RV : Res} (H : St B w0 w (r3 :: r1 :: r2 :: RV :: L)) : St B w0 w (r1 :: r2 :: RV :: r3 :: L) :=
  ((H.pull (r := RV) pU).pull (r := r2) pU).pull (r := r1) pU
theorem aprop_ok {B : Nat} {w0 : World} {L : List Res} {G1 : Nat → Prop} (gp : Nat) (sf : Pr) (d : Pd) (la : Option Addr) (lc : Nat) (vp : Option Addr) (RV : Res) (hv : valR d.val vp RV) (hw : Pw d) (c : Cm) (e : Hd) (hm : smC c) (hwc : wfC c) (hx : Rd B w0 L fun W => CmG G1 W (.slice e.ba c.data.length e.bc) (.slice e.ma c.v.mem.length e.mc) (.slice e.la c.v.lvs.length e.lc) (.slice e.da c.v.ldr.length e.dc) c) (w : World) (H : St B w0 w (row 129 gp #[.int .u16 (sf.1 : Int), .int .u32 (sf.2 : Int), .int .u32 (d.sn.r : Int), .int .u16 (d.sn.w.1 : Int), .int .u32 (d.sn.w.2 : Int), .int .i64 d.ph, .slice la d.ld.length lc, .int .u64 (d.sl : Int), .int .u32 (d.bl.r : Int), .int .u16 (d.bl.w.1 : Int), .int .u32 (d.bl.w.2 : Int), .pointer vp, .int .u64 (d.a1 : Int), .int .u64 (d.a2 : Int)] :: slc 36 2 (.slice la d.ld.length lc) d.ld.length (pv d.ld) :: RV :: L)) :
    Calls Try.prog 37 #[.pointer (some ⟨gp, 0, none⟩), .agg (cmH c e)] w (Ret fun v w' => ∃ (cv : Cm) (h3 : Hd) (G3 : Nat → Prop) (i : Int) (d' : Pd), Hid (propD d c = (cv, i, d')) ∧ v = .tuple #[.agg (cmH cv h3), .int .i64 i] ∧ PH B w0 w' gp sf d' (cmr G3 (.slice h3.ba cv.data.length h3.bc) (.slice h3.ma cv.v.mem.length h3.mc) (.slice h3.la cv.v.lvs.length h3.lc) (.slice h3.da cv.v.ldr.length h3.dc) cv :: L)) := by
  have hx2 : Rd B w0 (slc 36 2 (.slice la d.ld.length lc) d.ld.length (pv d.ld) :: RV :: L) fun W => CmG G1 W (.slice e.ba c.data.length e.bc) (.slice e.ma c.v.mem.length e.mc) (.slice e.la c.v.lvs.length e.lc) (.slice e.da c.v.ldr.length e.dc) c := hx.mono fun r hr => List.mem_cons_of_mem _ (List.mem_cons_of_mem _ hr)
  by_cases h : d.ph = 2
  · by_cases h2 : cErr c = 0
    · have hD : propD d c = _ := (if_pos h).trans (if_pos h2)
      rw [h] at H
      cases hval : d.val with
      | none =>
        rw [hval] at hv hD
        obtain ⟨rfl, rfl⟩ := hv
        refine (prop0_ok gp sf d.sn la d.ld.length lc d.sl d.bl d.a1 d.a2 c e hm hwc h2 hx2 w H).mono ?_
        rintro e1 w1 ⟨v, rfl, gv, hd, h3, G, G3, rfl, H2⟩
        exact ⟨_, rfl, _, h3, G3, _, _, Lib.hid hD, rfl, la, lc, some ⟨gv, 0, none⟩, _, ⟨gv, hd, G, rfl, rfl⟩, H2.noE.packV⟩
      | some p =>
        obtain ⟨u, cv⟩ := p
        have hvu := hw.vu u cv hval
        rw [hval] at hv hD
        obtain ⟨gv, hd, G, rfl, rfl⟩ := hv
        refine (prop1_ok gp sf d.sn la d.ld.length lc d.sl d.bl d.a1 d.a2 gv u cv hd hvu.2.2 c e hm hwc h2 (hx.mono fun r hr => List.mem_cons_of_mem _ hr) w H.unpackV).mono ?_
        rintro e1 w1 ⟨v, rfl, h3, G3, rfl, H2⟩
        exact ⟨_, rfl, _, h3, G3, _, _, Lib.hid hD, rfl, la, lc, some ⟨gv, 0, none⟩, _, ⟨gv, hd, G, rfl, rfl⟩, H2.packV⟩
    · have hD : propD d c = _ := (if_pos h).trans (if_neg h2)
      rw [h] at H
      refine (prop_no2 gp sf d.sn la d.ld.length lc d.sl d.bl vp d.a1 d.a2 c e hm hwc h2 hx2 w H).mono ?_
      rintro e1 w1 ⟨v, rfl, rfl, H2⟩
      rw [← h] at H2
      exact ⟨_, rfl, _, hd0, _, _, _, Lib.hid hD, rfl, la, lc, vp, RV, hv, (cmr0 H2).put3⟩
  · have hD : propD d c = _ := if_neg h
    refine (prop_no1 gp sf d.sn d.ph la d.ld.length lc d.sl d.bl vp d.a1 d.a2 c e h w H).mono ?_
    rintro e1 w1 ⟨v, rfl, rfl, H2⟩
    exact ⟨_, rfl, _, hd0, _, _, _, Lib.hid hD, rfl, la, lc, vp, RV, hv, (cmr0 H2).put3⟩
end Go.Proofs.Ytjghcmejmdllbaa
namespace Go.Proofs.Ytjghcmejmdllbaa
open Go.ChangeShapes Go.WideShapes Go.ChangeAt Go.RowKit Go.Maps
set_option linter.unusedVariables false
set_option linter.unusedSimpArgs false
/-- Where the last of some stands. -/
def lastR (m : List Pr) (d : Int) : List Pr → Int
  | [] => d
  | p :: r => lastR m (atR m p) r
theorem lastR_snoc (m : List Pr) (d : Int) (l : List Pr) (x : Pr) : lastR m d (l ++ [x]) = atR m x := by
  induction l generalizing d with
  | nil => rfl
  | cons p r ih => exact ih _
theorem risA_snoc (m : List Pr) (d : Int) (l : List Pr) (x : Pr) : risA m d (l ++ [x]) = (risA m d l && (decide (0 ≤ atR m x) && decide (lastR m d l < atR m x))) := by
  induction l generalizing d with
  | nil =>
    unfold atR
    cases h : rank m x with
    | none => simp [risA, lastR, h]
    | some k => rw [Bool.eq_iff_iff]; simp [risA, lastR, h]; exact ⟨fun h => decide_eq_true h, fun h => of_decide_eq_true h⟩
  | cons p r ih =>
    simp only [List.cons_append, risA, lastR]
    cases h : rank m p with
    | none => simp
    | some k =>
      have ha : atR m p = k := by unfold atR; rw [h]
      simp only [ih, ha, Bool.and_assoc]
theorem risA_take (m : List Pr) (d : Int) (l : List Pr) (k : Nat) (h : risA m d (l.take k) = false) : risA m d l = false := by
  induction l generalizing d k with
  | nil => simpa using h
  | cons p r ih =>
    cases k with
    | zero => cases h
    | succ k =>
      simp only [List.take_succ_cons, risA] at h ⊢
      cases hr : rank m p with
      | none => rfl
      | some j =>
        rw [hr] at h
        simp only [Bool.and_eq_false_iff] at h ⊢
        exact h.imp id (ih j k)
set_option maxRecDepth 100000 in
set_option maxHeartbeats 2000000 in
theorem rrising_is (va vb : Value) (m l : List Pr) (w : World) (e : Bool) (he : risB m l = e) (ha : Sl w 2 m.length va (elQ m)) (hb : Sl w 2 l.length vb (elQ l)) :
    Calls Try.prog 130 #[va, vb] w (Ret fun v w' => v = .bool e ∧ Below w.heap.size w w') := by
  have H := St.init w
  subst he
  have ha' := ha
  have hb' := hb
  obtain ⟨aa, ca, rfl, hma, _⟩ := ha'
  obtain ⟨ab, cb, rfl, hmb, _⟩ := hb'
  unfold maxLen at hma hmb
  obtain ⟨n, hn⟩ : ∃ n, l.length = n := ⟨_, rfl⟩
  have HN := Lib.hid hn
  rw [hn] at hb hmb ⊢
  clear hn
  go_enter Try.func130, Try.ntmps130
  go_wp2_with fail
  go_loopw [5] (fun i wr => ∃ k : Nat, k ≤ n ∧ i = .int .i64 k ∧ Hid (risA m (-1) (l.take k) = true) ∧ St w.heap.size w wr []) (fun i _ => n - (intOf i).toNat)
  case atStart => exact ⟨0, Nat.zero_le _, rfl, Lib.hid (by simp [risA]), H⟩
  case round =>
    clear H
    obtain ⟨k, hk, rfl, HT, H⟩ := hrel
    by_cases hlt : k < n
    · have hl1 : k < l.length := by rw [HN.out]; exact hlt
      obtain ⟨b1, o1, rfl, hb1⟩ := hb.addr (by omega)
      have hc1 := hb.cell hlt
      unfold elQ at hc1
      rw [getD_at hl1] at hc1
      have hs1 := List.take_succ_eq_append_getElem hl1
      have hf := risA_take m (-1) l (k + 1)
      have hsn := risA_snoc m (-1) (l.take k) l[k]
      rw [← hs1, HT.out, Bool.true_and] at hsn
      have hlz : ∀ j (hj : j < l.length), k = j + 1 → lastR m (-1) (l.take k) = atR m l[j] := by
        intro j hj e
        rw [e, List.take_succ_eq_append_getElem hj, lastR_snoc]
      obtain ⟨⟨x, y⟩, hx⟩ : ∃ x, l[k] = x := ⟨_, rfl⟩
      rw [hx] at hc1 hsn
      obtain ⟨r1, hr1⟩ : ∃ r, atR m (x, y) = r := ⟨_, rfl⟩
      have HR1 := Lib.hid hr1
      rw [hr1] at hsn
      have HF := Lib.hid hf
      have HSN := Lib.hid hsn
      have HLZ := Lib.hid hlz
      have kli : (k : Int) < (n : Int) := by omega
      clear hs1 hf hsn hlz hx hr1
      by_cases h1 : r1 < 0
      · have HV : Hid (risB m l = false) := Lib.hid (HF.out (by rw [HSN.out, decide_eq_false (by omega), Bool.false_and]))
        have h1d : decide (r1 < 0) = true := decide_eq_true h1
        go_wp2_with fail
        refine rg_begin 27 rfl (S := fun W => St _ _ W _) (by kernel_rfl) H.drew ?_
        replace H := H.drew
        have HS := H
        refine rg_take (i := 0) rfl kR kR kR (Yld.move rfl rfl) (H.sub sU) ?_; simp only [pS, pE]
        refine rg_take (i := 1) rfl kR kR kR (Yld.move rfl rfl) (H.sub sU) ?_; simp only [pS, pE]
        refine rg_take (i := 2) rfl kR kR kR (Yld.move rfl rfl) (H.sub sU) ?_; simp only [pS, pE]
        refine rg_take (i := 3) rfl kR kR kR (Yld.o rfl) (H.sub sU) ?_; simp only [pS]
        first | (refine rg_take (i := 4) rfl kR kR kR (Yld.ldr rfl rfl agg36 size36 rfl mR sZ) (H.sub sU) ?_; simp only [pS]) | (refine rg_take (i := 4) rfl kR kR kR (Yld.ldl rfl rfl agg36 size36 rfl mR (by simp)) (H.sub sU) ?_; simp only [pS]; simp only [List.drop_succ_cons, List.drop_zero, List.take_succ_cons, List.take_zero]) | (refine rg_take (i := 4) rfl kR kR kR (Yld.ldor rfl rfl agg36 size36 rfl (by assumption) sZ (by assumption)) (H.sub sU) ?_; simp only [pS])
        refine rg_one (i := 5) (by kernel_rfl) rfl rfl (fun K hK => ?_)
        refine wp_callf rfl ent65 (rat_is _ m (x, y) _ (ha.grow H.below)) rfl (fun v w1 hr => ?_)
        rw [HR1.out] at hr
        obtain ⟨rfl, hb1⟩ := hr
        replace H := H.grow hb1
        clear hb1
        clear HS
        have HS := H
        refine hK.out _ _ (H.sub sU) ?_
        clear hK K
        simp only [pS]
        refine rg_take (i := 6) rfl kR kR kR (Yld.o rfl) (H.sub sU) ?_; simp only [pS]
        refine rg_take (i := 7) rfl kR kR kR (Yld.move rfl rfl) (H.sub sU) ?_; simp only [pS, pE]
        refine rg_take (i := 8) rfl kR kR kR (Yld.skip rfl) (H.sub sU) ?_; simp only [pS]
        refine rg_take (i := 9) rfl kR kR kR (Yld.skip rfl) (H.sub sU) ?_; simp only [pS]
        refine rg_take (i := 10) rfl kR kR kR (Yld.skip rfl) (H.sub sU) ?_; simp only [pS]
        refine rg_take (i := 11) rfl kR kR kR (Yld.skip rfl) (H.sub sU) ?_; simp only [pS]
        refine rg_take (i := 12) rfl kR kR kR (Yld.skip rfl) (H.sub sU) ?_; simp only [pS]
        refine rg_take (i := 13) rfl kR kR kR (Yld.skip rfl) (H.sub sU) ?_; simp only [pS]
        refine rg_take (i := 14) rfl kR kR kR (Yld.skip rfl) (H.sub sU) ?_; simp only [pS]
        refine rg_take (i := 15) rfl kR kR kR (Yld.skip rfl) (H.sub sU) ?_; simp only [pS]
        refine rg_take (i := 16) rfl kR kR kR (Yld.skip rfl) (H.sub sU) ?_; simp only [pS]
        refine rg_take (i := 17) rfl kR kR kR (Yld.skip rfl) (H.sub sU) ?_; simp only [pS]
        refine rg_take (i := 18) rfl kR kR kR (Yld.skip rfl) (H.sub sU) ?_; simp only [pS]
        refine rg_take (i := 19) rfl kR kR kR (Yld.skip rfl) (H.sub sU) ?_; simp only [pS]
        refine rg_take (i := 20) rfl kR kR kR (Yld.skip rfl) (H.sub sU) ?_; simp only [pS]
        refine rg_take (i := 21) rfl kR kR kR (Yld.skip rfl) (H.sub sU) ?_; simp only [pS]
        refine rg_take (i := 22) rfl kR kR kR (Yld.skip rfl) (H.sub sU) ?_; simp only [pS]
        refine rg_take (i := 23) rfl kR kR kR (Yld.skip rfl) (H.sub sU) ?_; simp only [pS]
        refine rg_take (i := 24) rfl kR kR kR (Yld.skip rfl) (H.sub sU) ?_; simp only [pS]
        refine rg_take (i := 25) rfl kR kR kR (Yld.skip rfl) (H.sub sU) ?_; simp only [pS]
        refine rg_take (i := 26) rfl kR kR kR (Yld.pick rfl rfl rfl) (H.sub sU) ?_; simp only [pS, pE]
        refine rg_done (by kernel_rfl) ?_
        go_wp2_with fail
        go_ret
        exact ⟨_, rfl, by rw [HV.out]; rfl, H.below⟩
      · have h1d : decide (r1 < 0) = false := decide_eq_false h1
        rcases Nat.eq_zero_or_pos k with rfl | hk0
        · have HV : Hid (risA m (-1) (l.take (0 + 1)) = true) := Lib.hid (by rw [HSN.out, decide_eq_true (by omega), Bool.true_and]; exact decide_eq_true (by show (-1 : Int) < r1; omega))
          go_wp2_with fail
          refine rg_begin 27 rfl (S := fun W => St _ _ W _) (by kernel_rfl) H.drew ?_
          replace H := H.drew
          have HS := H
          refine rg_take (i := 0) rfl kR kR kR (Yld.move rfl rfl) (H.sub sU) ?_; simp only [pS, pE]
          refine rg_take (i := 1) rfl kR kR kR (Yld.move rfl rfl) (H.sub sU) ?_; simp only [pS, pE]
          refine rg_take (i := 2) rfl kR kR kR (Yld.move rfl rfl) (H.sub sU) ?_; simp only [pS, pE]
          refine rg_take (i := 3) rfl kR kR kR (Yld.o rfl) (H.sub sU) ?_; simp only [pS]
          first | (refine rg_take (i := 4) rfl kR kR kR (Yld.ldr rfl rfl agg36 size36 rfl mR sZ) (H.sub sU) ?_; simp only [pS]) | (refine rg_take (i := 4) rfl kR kR kR (Yld.ldl rfl rfl agg36 size36 rfl mR (by simp)) (H.sub sU) ?_; simp only [pS]; simp only [List.drop_succ_cons, List.drop_zero, List.take_succ_cons, List.take_zero]) | (refine rg_take (i := 4) rfl kR kR kR (Yld.ldor rfl rfl agg36 size36 rfl (by assumption) sZ (by assumption)) (H.sub sU) ?_; simp only [pS])
          refine rg_one (i := 5) (by kernel_rfl) rfl rfl (fun K hK => ?_)
          refine wp_callf rfl ent65 (rat_is _ m (x, y) _ (ha.grow H.below)) rfl (fun v w1 hr => ?_)
          rw [HR1.out] at hr
          obtain ⟨rfl, hb1⟩ := hr
          replace H := H.grow hb1
          clear hb1
          clear HS
          have HS := H
          refine hK.out _ _ (H.sub sU) ?_
          clear hK K
          simp only [pS]
          refine rg_take (i := 6) rfl kR kR kR (Yld.o rfl) (H.sub sU) ?_; simp only [pS]
          refine rg_take (i := 7) rfl kR kR kR (Yld.move rfl rfl) (H.sub sU) ?_; simp only [pS, pE]
          refine rg_take (i := 8) rfl kR kR kR (Yld.move rfl rfl) (H.sub sU) ?_; simp only [pS, pE]
          refine rg_take (i := 9) rfl kR kR kR (Yld.o rfl) (H.sub sU) ?_; simp only [pS]
          refine rg_take (i := 10) rfl kR kR kR (Yld.move rfl rfl) (H.sub sU) ?_; simp only [pS, pE]
          refine rg_take (i := 11) rfl kR kR kR (Yld.skip rfl) (H.sub sU) ?_; simp only [pS]
          refine rg_take (i := 12) rfl kR kR kR (Yld.skip rfl) (H.sub sU) ?_; simp only [pS]
          refine rg_take (i := 13) rfl kR kR kR (Yld.skip rfl) (H.sub sU) ?_; simp only [pS]
          refine rg_take (i := 14) rfl kR kR kR (Yld.skip rfl) (H.sub sU) ?_; simp only [pS]
          refine rg_take (i := 15) rfl kR kR kR (Yld.skip rfl) (H.sub sU) ?_; simp only [pS]
          refine rg_take (i := 16) rfl kR kR kR (Yld.skip rfl) (H.sub sU) ?_; simp only [pS]
          refine rg_take (i := 17) rfl kR kR kR (Yld.skip rfl) (H.sub sU) ?_; simp only [pS]
          refine rg_take (i := 18) rfl kR kR kR (Yld.skip rfl) (H.sub sU) ?_; simp only [pS]
          refine rg_take (i := 19) rfl kR kR kR (Yld.skip rfl) (H.sub sU) ?_; simp only [pS]
          refine rg_take (i := 20) rfl kR kR kR (Yld.skip rfl) (H.sub sU) ?_; simp only [pS]
          refine rg_take (i := 21) rfl kR kR kR (Yld.skip rfl) (H.sub sU) ?_; simp only [pS]
          refine rg_take (i := 22) rfl kR kR kR (Yld.skip rfl) (H.sub sU) ?_; simp only [pS]
          refine rg_take (i := 23) rfl kR kR kR (Yld.skip rfl) (H.sub sU) ?_; simp only [pS]
          refine rg_take (i := 24) rfl kR kR kR (Yld.skip rfl) (H.sub sU) ?_; simp only [pS]
          refine rg_take (i := 25) rfl kR kR kR (Yld.pick rfl rfl rfl) (H.sub sU) ?_; simp only [pS, pE]
          refine rg_take (i := 26) rfl kR kR kR (Yld.pick rfl rfl rfl) (H.sub sU) ?_; simp only [pS, pE]
          refine rg_done (by kernel_rfl) ?_
          go_wp2_with fail
          go_roundw
          case rel => exact ⟨1, by omega, by go_num, HV, H⟩
          case measure => simp [intOf]; omega
        · obtain ⟨j, rfl⟩ : ∃ j, k = j + 1 := ⟨k - 1, by omega⟩
          have hj : j < l.length := by omega
          have hcj := hb.cell (show j < n by omega)
          unfold elQ at hcj
          rw [getD_at hj] at hcj
          have hlj := HLZ.out j hj rfl
          obtain ⟨⟨z, t⟩, hz⟩ : ∃ z, l[j] = z := ⟨_, rfl⟩
          rw [hz] at hcj hlj
          obtain ⟨r0, hr0⟩ : ∃ r, atR m (z, t) = r := ⟨_, rfl⟩
          have HR0 := Lib.hid hr0
          rw [hr0] at hlj
          have HLJ := Lib.hid hlj
          have k0i : decide ((0 : Int) < (j : Int) + 1) = true := decide_eq_true (by omega)
          have jw : IntKind.i64.wrap (j : Int) = (j : Int) := by rw [IntKind.wrap_i64]; omega
          have jni : (j : Int) < (n : Int) := by omega
          have j0i : (0 : Int) ≤ (j : Int) + 1 := by omega
          have kji : ((j + 1 : Nat) : Int) - 1 = (j : Int) := by omega
          clear hr0 hlj hz
          by_cases h2 : r0 < r1
          · have h2i : ¬ r1 ≤ r0 := by omega
            have HV : Hid (risA m (-1) (l.take (j + 1 + 1)) = true) := Lib.hid (by rw [HSN.out, HLJ.out, decide_eq_true (by omega), Bool.true_and]; exact decide_eq_true h2)
            have h2d : decide (r1 ≤ r0) = false := decide_eq_false h2i
            go_wp2_with fail
            refine rg_begin 27 rfl (S := fun W => St _ _ W _) (by kernel_rfl) H.drew ?_
            replace H := H.drew
            have HS := H
            refine rg_take (i := 0) rfl kR kR kR (Yld.move rfl rfl) (H.sub sU) ?_; simp only [pS, pE]
            refine rg_take (i := 1) rfl kR kR kR (Yld.move rfl rfl) (H.sub sU) ?_; simp only [pS, pE]
            refine rg_take (i := 2) rfl kR kR kR (Yld.move rfl rfl) (H.sub sU) ?_; simp only [pS, pE]
            refine rg_take (i := 3) rfl kR kR kR (Yld.o rfl) (H.sub sU) ?_; simp only [pS]
            first | (refine rg_take (i := 4) rfl kR kR kR (Yld.ldr rfl rfl agg36 size36 rfl mR sZ) (H.sub sU) ?_; simp only [pS]) | (refine rg_take (i := 4) rfl kR kR kR (Yld.ldl rfl rfl agg36 size36 rfl mR (by simp)) (H.sub sU) ?_; simp only [pS]; simp only [List.drop_succ_cons, List.drop_zero, List.take_succ_cons, List.take_zero]) | (refine rg_take (i := 4) rfl kR kR kR (Yld.ldor rfl rfl agg36 size36 rfl (by assumption) sZ (by assumption)) (H.sub sU) ?_; simp only [pS])
            refine rg_one (i := 5) (by kernel_rfl) rfl rfl (fun K hK => ?_)
            refine wp_callf rfl ent65 (rat_is _ m (x, y) _ (ha.grow H.below)) rfl (fun v w1 hr => ?_)
            rw [HR1.out] at hr
            obtain ⟨rfl, hb1⟩ := hr
            replace H := H.grow hb1
            clear hb1
            clear HS
            have HS := H
            refine hK.out _ _ (H.sub sU) ?_
            clear hK K
            simp only [pS]
            refine rg_take (i := 6) rfl kR kR kR (Yld.o rfl) (H.sub sU) ?_; simp only [pS]
            refine rg_take (i := 7) rfl kR kR kR (Yld.move rfl rfl) (H.sub sU) ?_; simp only [pS, pE]
            refine rg_take (i := 8) rfl kR kR kR (Yld.move rfl rfl) (H.sub sU) ?_; simp only [pS, pE]
            refine rg_take (i := 9) rfl kR kR kR (Yld.o rfl) (H.sub sU) ?_; simp only [pS]
            refine rg_take (i := 10) rfl kR kR kR (Yld.move rfl rfl) (H.sub sU) ?_; simp only [pS, pE]
            refine rg_take (i := 11) rfl kR kR kR (Yld.move rfl rfl) (H.sub sU) ?_; simp only [pS, pE]
            refine rg_take (i := 12) rfl kR kR kR (Yld.move rfl rfl) (H.sub sU) ?_; simp only [pS, pE]
            refine rg_take (i := 13) rfl kR kR kR (Yld.move rfl rfl) (H.sub sU) ?_; simp only [pS, pE]
            refine rg_take (i := 14) rfl kR kR kR (Yld.o rfl) (H.sub sU) ?_; simp only [pS]
            refine rg_take (i := 15) rfl kR kR kR (Yld.o rfl) (H.sub sU) ?_; simp only [pS]
            first | (refine rg_take (i := 16) rfl kR kR kR (Yld.ldr rfl rfl agg36 size36 rfl mR sZ) (H.sub sU) ?_; simp only [pS]) | (refine rg_take (i := 16) rfl kR kR kR (Yld.ldl rfl rfl agg36 size36 rfl mR (by simp)) (H.sub sU) ?_; simp only [pS]; simp only [List.drop_succ_cons, List.drop_zero, List.take_succ_cons, List.take_zero]) | (refine rg_take (i := 16) rfl kR kR kR (Yld.ldor rfl rfl agg36 size36 rfl (by assumption) sZ (by assumption)) (H.sub sU) ?_; simp only [pS])
            refine rg_take (i := 18) rfl kR kR kR (Yld.move rfl rfl) (H.sub sU) ?_; simp only [pS, pE]
            refine rg_take (i := 19) rfl kR kR kR (Yld.move rfl rfl) (H.sub sU) ?_; simp only [pS, pE]
            refine rg_take (i := 20) rfl kR kR kR (Yld.move rfl rfl) (H.sub sU) ?_; simp only [pS, pE]
            refine rg_take (i := 21) rfl kR kR kR (Yld.o rfl) (H.sub sU) ?_; simp only [pS]
            first | (refine rg_take (i := 22) rfl kR kR kR (Yld.ldr rfl rfl agg36 size36 rfl mR sZ) (H.sub sU) ?_; simp only [pS]) | (refine rg_take (i := 22) rfl kR kR kR (Yld.ldl rfl rfl agg36 size36 rfl mR (by simp)) (H.sub sU) ?_; simp only [pS]; simp only [List.drop_succ_cons, List.drop_zero, List.take_succ_cons, List.take_zero]) | (refine rg_take (i := 22) rfl kR kR kR (Yld.ldor rfl rfl agg36 size36 rfl (by assumption) sZ (by assumption)) (H.sub sU) ?_; simp only [pS])
            refine rg_one (i := 17) (by kernel_rfl) rfl rfl (fun K hK => ?_)
            refine wp_callf rfl ent65 (rat_is _ m (z, t) _ (ha.grow H.below)) rfl (fun v w1 hr => ?_)
            rw [HR0.out] at hr
            obtain ⟨rfl, hb1⟩ := hr
            replace H := H.grow hb1
            clear hb1
            clear HS
            have HS := H
            refine hK.out _ _ (H.sub sU) ?_
            clear hK K
            simp only [pS]
            refine rg_one (i := 23) (by kernel_rfl) rfl rfl (fun K hK => ?_)
            refine wp_callf rfl ent65 (rat_is _ m (x, y) _ (ha.grow H.below)) rfl (fun v w1 hr => ?_)
            rw [HR1.out] at hr
            obtain ⟨rfl, hb1⟩ := hr
            replace H := H.grow hb1
            clear hb1
            clear HS
            have HS := H
            refine hK.out _ _ (H.sub sU) ?_
            clear hK K
            simp only [pS]
            refine rg_take (i := 24) rfl kR kR kR (Yld.o rfl) (H.sub sU) ?_; simp only [pS]
            refine rg_take (i := 25) rfl kR kR kR (Yld.pick rfl rfl rfl) (H.sub sU) ?_; simp only [pS, pE]
            refine rg_take (i := 26) rfl kR kR kR (Yld.pick rfl rfl rfl) (H.sub sU) ?_; simp only [pS, pE]
            refine rg_done (by kernel_rfl) ?_
            go_wp2_with fail
            go_roundw
            case rel => exact ⟨j + 1 + 1, by omega, by go_num, HV, H⟩
            case measure => simp [intOf]; omega
          · have h2i : r1 ≤ r0 := by omega
            have HV : Hid (risB m l = false) := Lib.hid (HF.out (by rw [HSN.out, HLJ.out, decide_eq_false h2, Bool.and_false]))
            have h2d : decide (r1 ≤ r0) = true := decide_eq_true h2i
            go_wp2_with fail
            refine rg_begin 27 rfl (S := fun W => St _ _ W _) (by kernel_rfl) H.drew ?_
            replace H := H.drew
            have HS := H
            refine rg_take (i := 0) rfl kR kR kR (Yld.move rfl rfl) (H.sub sU) ?_; simp only [pS, pE]
            refine rg_take (i := 1) rfl kR kR kR (Yld.move rfl rfl) (H.sub sU) ?_; simp only [pS, pE]
            refine rg_take (i := 2) rfl kR kR kR (Yld.move rfl rfl) (H.sub sU) ?_; simp only [pS, pE]
            refine rg_take (i := 3) rfl kR kR kR (Yld.o rfl) (H.sub sU) ?_; simp only [pS]
            first | (refine rg_take (i := 4) rfl kR kR kR (Yld.ldr rfl rfl agg36 size36 rfl mR sZ) (H.sub sU) ?_; simp only [pS]) | (refine rg_take (i := 4) rfl kR kR kR (Yld.ldl rfl rfl agg36 size36 rfl mR (by simp)) (H.sub sU) ?_; simp only [pS]; simp only [List.drop_succ_cons, List.drop_zero, List.take_succ_cons, List.take_zero]) | (refine rg_take (i := 4) rfl kR kR kR (Yld.ldor rfl rfl agg36 size36 rfl (by assumption) sZ (by assumption)) (H.sub sU) ?_; simp only [pS])
            refine rg_one (i := 5) (by kernel_rfl) rfl rfl (fun K hK => ?_)
            refine wp_callf rfl ent65 (rat_is _ m (x, y) _ (ha.grow H.below)) rfl (fun v w1 hr => ?_)
            rw [HR1.out] at hr
            obtain ⟨rfl, hb1⟩ := hr
            replace H := H.grow hb1
            clear hb1
            clear HS
            have HS := H
            refine hK.out _ _ (H.sub sU) ?_
            clear hK K
            simp only [pS]
            refine rg_take (i := 6) rfl kR kR kR (Yld.o rfl) (H.sub sU) ?_; simp only [pS]
            refine rg_take (i := 7) rfl kR kR kR (Yld.move rfl rfl) (H.sub sU) ?_; simp only [pS, pE]
            refine rg_take (i := 8) rfl kR kR kR (Yld.move rfl rfl) (H.sub sU) ?_; simp only [pS, pE]
            refine rg_take (i := 9) rfl kR kR kR (Yld.o rfl) (H.sub sU) ?_; simp only [pS]
            refine rg_take (i := 10) rfl kR kR kR (Yld.move rfl rfl) (H.sub sU) ?_; simp only [pS, pE]
            refine rg_take (i := 11) rfl kR kR kR (Yld.move rfl rfl) (H.sub sU) ?_; simp only [pS, pE]
            refine rg_take (i := 12) rfl kR kR kR (Yld.move rfl rfl) (H.sub sU) ?_; simp only [pS, pE]
            refine rg_take (i := 13) rfl kR kR kR (Yld.move rfl rfl) (H.sub sU) ?_; simp only [pS, pE]
            refine rg_take (i := 14) rfl kR kR kR (Yld.o rfl) (H.sub sU) ?_; simp only [pS]
            refine rg_take (i := 15) rfl kR kR kR (Yld.o rfl) (H.sub sU) ?_; simp only [pS]
            first | (refine rg_take (i := 16) rfl kR kR kR (Yld.ldr rfl rfl agg36 size36 rfl mR sZ) (H.sub sU) ?_; simp only [pS]) | (refine rg_take (i := 16) rfl kR kR kR (Yld.ldl rfl rfl agg36 size36 rfl mR (by simp)) (H.sub sU) ?_; simp only [pS]; simp only [List.drop_succ_cons, List.drop_zero, List.take_succ_cons, List.take_zero]) | (refine rg_take (i := 16) rfl kR kR kR (Yld.ldor rfl rfl agg36 size36 rfl (by assumption) sZ (by assumption)) (H.sub sU) ?_; simp only [pS])
            refine rg_take (i := 18) rfl kR kR kR (Yld.move rfl rfl) (H.sub sU) ?_; simp only [pS, pE]
            refine rg_take (i := 19) rfl kR kR kR (Yld.move rfl rfl) (H.sub sU) ?_; simp only [pS, pE]
            refine rg_take (i := 20) rfl kR kR kR (Yld.move rfl rfl) (H.sub sU) ?_; simp only [pS, pE]
            refine rg_take (i := 21) rfl kR kR kR (Yld.o rfl) (H.sub sU) ?_; simp only [pS]
            first | (refine rg_take (i := 22) rfl kR kR kR (Yld.ldr rfl rfl agg36 size36 rfl mR sZ) (H.sub sU) ?_; simp only [pS]) | (refine rg_take (i := 22) rfl kR kR kR (Yld.ldl rfl rfl agg36 size36 rfl mR (by simp)) (H.sub sU) ?_; simp only [pS]; simp only [List.drop_succ_cons, List.drop_zero, List.take_succ_cons, List.take_zero]) | (refine rg_take (i := 22) rfl kR kR kR (Yld.ldor rfl rfl agg36 size36 rfl (by assumption) sZ (by assumption)) (H.sub sU) ?_; simp only [pS])
            refine rg_one (i := 17) (by kernel_rfl) rfl rfl (fun K hK => ?_)
            refine wp_callf rfl ent65 (rat_is _ m (z, t) _ (ha.grow H.below)) rfl (fun v w1 hr => ?_)
            rw [HR0.out] at hr
            obtain ⟨rfl, hb1⟩ := hr
            replace H := H.grow hb1
            clear hb1
            clear HS
            have HS := H
            refine hK.out _ _ (H.sub sU) ?_
            clear hK K
            simp only [pS]
            refine rg_one (i := 23) (by kernel_rfl) rfl rfl (fun K hK => ?_)
            refine wp_callf rfl ent65 (rat_is _ m (x, y) _ (ha.grow H.below)) rfl (fun v w1 hr => ?_)
            rw [HR1.out] at hr
            obtain ⟨rfl, hb1⟩ := hr
            replace H := H.grow hb1
            clear hb1
            clear HS
            have HS := H
            refine hK.out _ _ (H.sub sU) ?_
            clear hK K
            simp only [pS]
            refine rg_take (i := 24) rfl kR kR kR (Yld.o rfl) (H.sub sU) ?_; simp only [pS]
            refine rg_take (i := 25) rfl kR kR kR (Yld.pick rfl rfl rfl) (H.sub sU) ?_; simp only [pS, pE]
            refine rg_take (i := 26) rfl kR kR kR (Yld.pick rfl rfl rfl) (H.sub sU) ?_; simp only [pS, pE]
            refine rg_done (by kernel_rfl) ?_
            go_wp2_with fail
            go_ret
            exact ⟨_, rfl, by rw [HV.out]; rfl, H.below⟩
    · obtain rfl : k = n := by omega
      have HV : Hid (risB m l = true) := Lib.hid (by
        have := HT.out
        rw [List.take_of_length_le (by rw [HN.out]; omega)] at this
        exact this)
      go_wp2_with fail
      go_ret
      exact ⟨_, rfl, by rw [HV.out]; rfl, H.below⟩
end Go.Proofs.Ytjghcmejmdllbaa
namespace Go.Proofs.Ytjghcmejmdllbaa
open Go.ChangeShapes Go.WideShapes Go.ChangeAt Go.RowKit Go.Maps
set_option linter.unusedVariables false
set_option linter.unusedSimpArgs false
theorem snoc_ind {α : Type} {P : List α → Prop} (h0 : P []) (h1 : ∀ l x, P l → P (l ++ [x])) (l : List α) : P l := by
  rw [← List.reverse_reverse l]
  induction l.reverse with
  | nil => exact h0
  | cons x t ih => rw [List.reverse_cons]; exact h1 _ _ ih
theorem dd_full {α : Type} [DecidableEq α] (l : List α) : (dd l).length = l.length ↔ l.Nodup := by
  refine snoc_ind (P := fun l : List α => (dd l).length = l.length ↔ l.Nodup) ?_ ?_ l
  · simp [dd, ddA]
  · intro l x ih
    have hl := dd_len l []
    rw [dd_snoc, List.nodup_append]
    by_cases h : x ∈ dd l
    · have hx := (mem_dd l x).1 h
      have : (dd l).length ≤ l.length := by simpa [dd] using hl
      simp only [if_pos h]
      constructor
      · intro e; simp at e; omega
      · rintro ⟨_, _, hd⟩; exact absurd rfl (hd x hx x (by simp))
    · have hx := fun h2 => h ((mem_dd l x).2 h2)
      simp only [if_neg h]
      constructor
      · intro e
        refine ⟨ih.1 (by simpa using e), by simp, fun a ha b hb e2 => ?_⟩
        simp at hb; subst hb e2; exact hx ha
      · rintro ⟨h1, _, _⟩
        have := ih.2 h1
        simp [this]
theorem risA_mem {m : List Pr} {d : Int} {l : List Pr} (h : risA m d l = true) : ∀ p ∈ l, ∃ k : Nat, rank m p = some k ∧ d < k := by
  induction l generalizing d with
  | nil => simp
  | cons q r ih =>
    unfold risA at h
    cases hr : rank m q with
    | none => rw [hr] at h; cases h
    | some k =>
      rw [hr] at h
      simp only [Bool.and_eq_true, decide_eq_true_eq] at h
      intro p hp
      rcases List.mem_cons.1 hp with rfl | hp
      · exact ⟨k, hr, h.1⟩
      · obtain ⟨j, h1, h2⟩ := ih h.2 p hp
        exact ⟨j, h1, by omega⟩
theorem risA_nodup {m : List Pr} {d : Int} {l : List Pr} (h : risA m d l = true) : l.Nodup := by
  induction l generalizing d with
  | nil => simp
  | cons q r ih =>
    unfold risA at h
    cases hr : rank m q with
    | none => rw [hr] at h; cases h
    | some k =>
      rw [hr] at h
      simp only [Bool.and_eq_true, decide_eq_true_eq] at h
      refine List.nodup_cons.2 ⟨fun hq => ?_, ih h.2⟩
      obtain ⟨j, h1, h2⟩ := risA_mem h.2 q hq
      rw [hr] at h1
      cases h1
      omega
theorem risB_mem {m l : List Pr} (h : risB m l = true) : ∀ p ∈ l, p ∈ m := fun p hp => by
  obtain ⟨k, h1, _⟩ := risA_mem h p hp
  obtain ⟨hk, e⟩ := rank_lt h1
  exact e ▸ List.getElem_mem hk
theorem risB_len {m l : List Pr} (h : risB m l = true) : l.length ≤ m.length := (risA_nodup h).length_le_of_subset (risB_mem h)
theorem memOk_nodup {m : List Pr} (h : memOk m = true) : m.Nodup := by
  simp only [memOk, Bool.and_eq_true, decide_eq_true_eq] at h
  exact List.Pairwise.of_map (fun x : Pr => x.1) (fun a b hn e => hn (by rw [e])) h.1.1.2
theorem lvOk_mem {m : List Pr} {ls : List (List Pr)} (h : lvOk m ls = true) : ∀ p ∈ ls.flatten, p ∈ m := fun p hp => by
  obtain ⟨l, hl, hpl⟩ := List.mem_flatten.1 hp
  have := List.all_eq_true.1 h l hl
  simp only [Bool.and_eq_true] at this
  exact risB_mem this.2 p hpl
theorem lvOk_len {m : List Pr} {ls : List (List Pr)} (h : lvOk m ls = true) : ls.length ≤ ls.flatten.length := by
  induction ls with
  | nil => simp
  | cons l ls ih =>
    simp only [lvOk, List.all_cons, Bool.and_eq_true] at h
    have := ih h.2
    have h1 : 0 < l.length := by
      cases l with
      | nil => simp at h
      | cons _ _ => simp
    simp only [List.length_cons, List.flatten_cons, List.length_append]
    omega
theorem vOk_parts {x : Vw} (h : vOk x = true) : 1 ≤ x.id ∧ x.id ≤ 4611686018427387904 ∧ memOk x.mem = true ∧ lvOk x.mem x.lvs = true ∧ x.lvs.flatten.length = x.mem.length ∧ x.lvs.flatten.Nodup ∧ risB x.mem (firsts x.lvs) = true ∧ 0 < x.ldr.length ∧ risB x.mem x.ldr = true := by
  simp only [vOk, Bool.and_eq_true, decide_eq_true_eq, dd_full] at h
  obtain ⟨⟨⟨⟨⟨⟨⟨⟨h1, h2⟩, h3⟩, h4⟩, h5⟩, h6⟩, h7⟩, h8⟩, h9⟩ := h
  refine ⟨h1, h2, h3, h4, h5, h6, h7, ?_, h9⟩
  cases hx : x.ldr with
  | nil => rw [hx] at h8; cases h8
  | cons _ _ => simp
theorem vOk_mk {x : Vw} (h1 : 1 ≤ x.id) (h2 : x.id ≤ 4611686018427387904) (h3 : memOk x.mem = true) (h4 : lvOk x.mem x.lvs = true) (h5 : x.lvs.flatten.length = x.mem.length) (h6 : x.lvs.flatten.Nodup) (h8 : 0 < x.ldr.length) : vOk x = (risB x.mem (firsts x.lvs) && risB x.mem x.ldr) := by
  have h8' : x.ldr.isEmpty = false := by
    cases hx : x.ldr with
    | nil => rw [hx] at h8; simp at h8
    | cons _ _ => rfl
  simp [vOk, h1, h2, h3, h4, h5, (dd_full _).2 h6, h8']
/-- What the reference counts. -/
theorem vOk_count {x : Vw} (h : vOk x = true) : (∀ p ∈ x.mem, x.lvs.flatten.count p = 1) ∧ x.lvs.length ≤ x.mem.length ∧ x.ldr.length ≤ x.mem.length := by
  obtain ⟨h1, h2, h3, h4, h5, h6, h7, h8, h9⟩ := vOk_parts h
  refine ⟨fun p hp => ?_, by have := lvOk_len h4; omega, risB_len h9⟩
  rw [h6.count, if_pos ?_]
  refine Classical.byContradiction fun hn => ?_
  have := (List.nodup_cons.2 ⟨hn, h6⟩).length_le_of_subset (l₂ := x.mem) (by
    intro q hq
    rcases List.mem_cons.1 hq with rfl | hq
    · exact hp
    · exact lvOk_mem h4 q hq)
  simp only [List.length_cons] at this
  omega
theorem vOk_of_count {x : Vw} (h1 : 1 ≤ x.id) (h2 : x.id ≤ 4611686018427387904) (h3 : memOk x.mem = true) (hc : ∀ p ∈ x.mem, x.lvs.flatten.count p = 1) (h4 : lvOk x.mem x.lvs = true) (h8 : 0 < x.ldr.length) : vOk x = (risB x.mem (firsts x.lvs) && risB x.mem x.ldr) := by
  have h6 : x.lvs.flatten.Nodup := List.nodup_iff_count.2 fun p => by
    by_cases hp : p ∈ x.lvs.flatten
    · rw [hc p (lvOk_mem h4 p hp)]; exact Nat.le_refl _
    · rw [List.count_eq_zero_of_not_mem hp]; exact Nat.zero_le _
  have a := h6.length_le_of_subset (lvOk_mem h4)
  have b := (memOk_nodup h3).length_le_of_subset (l₂ := x.lvs.flatten) (fun p hp => List.count_pos_iff.1 (by rw [hc p hp]; decide))
  exact vOk_mk h1 h2 h3 h4 (by omega) h6 h8
end Go.Proofs.Ytjghcmejmdllbaa
