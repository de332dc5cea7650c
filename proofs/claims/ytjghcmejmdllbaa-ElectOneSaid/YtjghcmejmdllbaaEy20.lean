/- Layer 21's Proposer (elect): what a proposer holds, and what each call makes of it. Layer 21's Proposer (elect) as one resource: what each call makes of it; the bounds live on. -/
import Derived.Test.YtjghcmejmdllbaaEy19
namespace Go.Proofs.Ytjghcmejmdllbaa
open Go.ChangeShapes Go.WideShapes Go.ChangeAt Go.RowKit Go.Maps Go.Deep
set_option linter.unusedVariables false
set_option linter.unusedSimpArgs false
set_option linter.unusedSectionVars false
set_option maxRecDepth 100000
set_option maxHeartbeats 4000000
/-- What a proposer holds. -/
structure Pd where
  sn : Bl
  ph : Int
  ld : List Pr
  sl : Nat
  bl : Bl
  a1 : Nat
  a2 : Nat
  val : Option (Bl × Cm)
structure Pw (d : Pd) : Prop where
  s1 : d.sn.w.1 < 65536
  s2 : d.sn.w.2 < 4294967296
  sr : d.sn.r < 4294967296
  b1 : d.bl.w.1 < 65536
  b2 : d.bl.w.2 < 4294967296
  sl : d.sl < 18446744073709551616
  a1 : d.a1 < 18446744073709551616
  a2 : d.a2 < 18446744073709551616
  ld : d.ld.length < 1000
  vu : ∀ u c, d.val = some (u, c) → u.w.1 < 65536 ∧ u.w.2 < 4294967296 ∧ smC c
/-- A proposer in memory. -/
def PH (B : Nat) (w0 w : World) (gp : Nat) (sf : Pr) (d : Pd) (L : List Res) : Prop := ∃ (la : Option Addr) (lc : Nat) (vp : Option Addr) (RV : Res), valR d.val vp RV ∧ St B w0 w (row 129 gp #[.int .u16 (sf.1 : Int), .int .u32 (sf.2 : Int), .int .u32 (d.sn.r : Int), .int .u16 (d.sn.w.1 : Int), .int .u32 (d.sn.w.2 : Int), .int .i64 d.ph, .slice la d.ld.length lc, .int .u64 (d.sl : Int), .int .u32 (d.bl.r : Int), .int .u16 (d.bl.w.1 : Int), .int .u32 (d.bl.w.2 : Int), .pointer vp, .int .u64 (d.a1 : Int), .int .u64 (d.a2 : Int)] :: slc 36 2 (.slice la d.ld.length lc) d.ld.length (pv d.ld) :: RV :: L)
def promD (d : Pd) (q : Pr) (kd : Int) (ms : Nat) (mb : Bl) (mh : Bool) (ma : Bl) (mc : Cm) : Bool × Pd :=
  if d.ph = 1 ∧ kd = 5 ∧ ms = d.sl ∧ mb = d.bl ∧ 0 ≤ atR d.ld q ∧ hasM (d.a1, d.a2) (atR d.ld q) = false then
    (majM (setM (d.a1, d.a2) (atR d.ld q)).1 (setM (d.a1, d.a2) (atR d.ld q)).2 (d.ld.length : Int), { d with a1 := (setM (d.a1, d.a2) (atR d.ld q)).1, a2 := (setM (d.a1, d.a2) (atR d.ld q)).2, ph := (if majM (setM (d.a1, d.a2) (atR d.ld q)).1 (setM (d.a1, d.a2) (atR d.ld q)).2 (d.ld.length : Int) = true then 2 else 1), val := if updB d.val mh ma = true then some (ma, mc) else d.val })
  else (false, d)
def accD (d : Pd) (q : Pr) (kd : Int) (ms : Nat) (mb : Bl) : Bool × Pd :=
  if d.ph = 3 ∧ kd = 7 ∧ ms = d.sl ∧ mb = d.bl ∧ 0 ≤ atR d.ld q ∧ hasM (d.a1, d.a2) (atR d.ld q) = false then
    (majM (setM (d.a1, d.a2) (atR d.ld q)).1 (setM (d.a1, d.a2) (atR d.ld q)).2 (d.ld.length : Int), { d with a1 := (setM (d.a1, d.a2) (atR d.ld q)).1, a2 := (setM (d.a1, d.a2) (atR d.ld q)).2, ph := (if majM (setM (d.a1, d.a2) (atR d.ld q)).1 (setM (d.a1, d.a2) (atR d.ld q)).2 (d.ld.length : Int) = true then 2 else 3), sl := (if majM (setM (d.a1, d.a2) (atR d.ld q)).1 (setM (d.a1, d.a2) (atR d.ld q)).2 (d.ld.length : Int) = true then (d.sl + 1) % 18446744073709551616 else d.sl), val := if majM (setM (d.a1, d.a2) (atR d.ld q)).1 (setM (d.a1, d.a2) (atR d.ld q)).2 (d.ld.length : Int) = true then none else d.val })
  else (false, d)
def propD (d : Pd) (c : Cm) : Cm × Int × Pd :=
  if d.ph = 2 then
    if cErr c = 0 then
      match d.val with
      | none => (c, 0, { d with ph := 3, a1 := 0, a2 := 0, val := some (d.bl, c) })
      | some (u, cv) => (cv, 0, { d with ph := 3, a1 := 0, a2 := 0 })
    else (cm0, 1, d)
  else (cm0, 8, d)
def startD (d : Pd) (sf : Pr) (x : Vw) (s0 : Nat) : Bl × Int × Pd :=
  if vErr x = 0 ∧ sf ∈ x.ldr then
    if d.sn.r = 4294967295 then (bl0, 16, d)
    else (⟨d.sn.r + 1, sf⟩, 0, { sn := ⟨d.sn.r + 1, sf⟩, ph := 1, ld := x.ldr, sl := s0, bl := ⟨d.sn.r + 1, sf⟩, a1 := 0, a2 := 0, val := none })
  else (bl0, 1, d)
def seeD (d : Pd) (b : Bl) : Pd := { d with sn := if blt d.sn b = true then b else d.sn }
def stopD (d : Pd) : Pd := { d with ph := 0, val := none }
def nackD (d : Pd) (kd : Int) (mb : Bl) : Bool × Pd := if ¬ d.ph = 0 ∧ kd = 8 ∧ blt d.bl mb = true then (true, stopD (seeD d mb)) else (false, d)
def moveD (d : Pd) (s : Nat) : Bool × Pd := if ¬ d.ph = 0 ∧ d.sl < s then (true, stopD d) else (false, d)
def valD (d : Pd) : Cm × Bool := match d.val with | none => (cm0, false) | some (_, c) => (c, true)
theorem atR_ne {l : List Pr} {q : Pr} (h : 0 ≤ atR l q) : 0 < l.length := by
  cases l with
  | nil => exact absurd h (by show ¬ (0 ≤ (-1 : Int)); decide)
  | cons a l => simp
theorem cmr0 {B : Nat} {w0 w : World} {L : List Res} (H : St B w0 w L) : St B w0 w (cmr (fun _ => False) (.slice hd0.ba cm0.data.length hd0.bc) (.slice hd0.ma cm0.v.mem.length hd0.mc) (.slice hd0.la cm0.v.lvs.length hd0.lc) (.slice hd0.da cm0.v.ldr.length hd0.dc) cm0 :: L) :=
  St.emp (p := (cmr (fun _ => False) (.slice hd0.ba cm0.data.length hd0.bc) (.slice hd0.ma cm0.v.mem.length hd0.mc) (.slice hd0.la cm0.v.lvs.length hd0.lc) (.slice hd0.da cm0.v.ldr.length hd0.dc) cm0).2) (fun W => CmG.nil _ W 0) H
theorem St.noV {B : Nat} {w0 w : World} {L : List Res} {r1 r2 RV : Res} (H : St B w0 w (r1 :: r2 :: RV :: L)) : St B w0 w (r1 :: r2 :: Go.Proofs.Ytjghcmejmdllbaa.empR :: L) :=
  ((H.sub (L' := r1 :: r2 :: L) sU).empR.pull (r := r2) pU).pull (r := r1) pU
theorem St.noV2 {B : Nat} {w0 w : World} {L : List Res} {r1 r2 r3 RV : Res} (H : St B w0 w (r1 :: r2 :: r3 :: RV :: L)) : St B w0 w (r1 :: r2 :: Go.Proofs.Ytjghcmejmdllbaa.empR :: L) :=
  (H.sub (L' := r1 :: r2 :: RV :: L) sU).noV
attribute [local irreducible] hasM setM atR majM cErr vErr vOk blt
theorem aprom_ok {B : Nat} {w0 : World} {L : List Res} {G1 : Nat → Prop} (gp : Nat) (sf : Pr) (d : Pd) (la : Option Addr) (lc : Nat) (vp : Option Addr) (RV : Res) (hv : valR d.val vp RV) (hw : Pw d) (q : Pr) (kd m1 m2 m3 m5 m6 : Int) (ms : Nat) (mb ma : Bl) (mh : Bool) (mc : Cm) (me : Hd) (mv : Vw) (mx : Hd) (my : Option Addr) (m7 mz : Nat) (ha1 : ma.w.1 < 65536) (ha2 : ma.w.2 < 4294967296) (hm : smC mc)
    (hx : Rd B w0 L fun W => CmG G1 W (.slice me.ba mc.data.length me.bc) (.slice me.ma mc.v.mem.length me.mc) (.slice me.la mc.v.lvs.length me.lc) (.slice me.da mc.v.ldr.length me.dc) mc) (w : World) (H : St B w0 w (row 129 gp #[.int .u16 (sf.1 : Int), .int .u32 (sf.2 : Int), .int .u32 (d.sn.r : Int), .int .u16 (d.sn.w.1 : Int), .int .u32 (d.sn.w.2 : Int), .int .i64 d.ph, .slice la d.ld.length lc, .int .u64 (d.sl : Int), .int .u32 (d.bl.r : Int), .int .u16 (d.bl.w.1 : Int), .int .u32 (d.bl.w.2 : Int), .pointer vp, .int .u64 (d.a1 : Int), .int .u64 (d.a2 : Int)] :: slc 36 2 (.slice la d.ld.length lc) d.ld.length (pv d.ld) :: RV :: L)) :
    Calls Try.prog 41 #[.pointer (some ⟨gp, 0, none⟩), .agg #[.int .u16 (q.1 : Int), .int .u32 (q.2 : Int)], .agg #[.int .i64 kd, .int .u16 m1, .int .u32 m2, .int .u64 m3, .int .u64 (ms : Int), .int .u64 m5, .int .i64 m6, .int .u32 (mb.r : Int), .int .u16 (mb.w.1 : Int), .int .u32 (mb.w.2 : Int), .int .u32 (ma.r : Int), .int .u16 (ma.w.1 : Int), .int .u32 (ma.w.2 : Int), .bool mh, .int .i64 mc.kind, .int .u16 (mc.fr.1 : Int), .int .u32 (mc.fr.2 : Int), .int .u64 (mc.num : Int), .int .u64 (mc.vw : Int), .slice me.ba mc.data.length me.bc, .int .u64 (mc.v.id : Int), .slice me.ma mc.v.mem.length me.mc, .slice me.la mc.v.lvs.length me.lc, .slice me.da mc.v.ldr.length me.dc, .int .u64 (mv.id : Int), .slice mx.ma mv.mem.length mx.mc, .slice mx.la mv.lvs.length mx.lc, .slice mx.da mv.ldr.length mx.dc, .slice my m7 mz]] w (Ret fun v w' => ∃ (r : Bool) (d' : Pd), Hid (promD d q kd ms mb mh ma mc = (r, d')) ∧ v = .bool r ∧ PH B w0 w' gp sf d' L) := by
  by_cases h : d.ph = 1 ∧ kd = 5 ∧ ms = d.sl ∧ mb = d.bl ∧ 0 ≤ atR d.ld q ∧ hasM (d.a1, d.a2) (atR d.ld q) = false
  · have hD : promD d q kd ms mb mh ma mc = _ := if_pos h
    obtain ⟨h1, h2, h3, h4, h5, h6⟩ := h
    have hst := setM_lt (m := (d.a1, d.a2)) (r := atR d.ld q) ⟨hw.a1, hw.a2⟩
    subst h2 h3 h4
    rw [h1] at H
    refine (prom_ok gp sf d.sn la d.ld.length lc d.sl d.bl d.a1 d.a2 d.ld vp q mh m1 m2 m3 m5 m6 ma mc me mv mx my m7 mz rfl (atR_ne h5) hw.ld hw.a1 hw.a2 _ rfl h5 h6 _ _ rfl hst.1 hst.2 _ rfl d.val RV hv (fun u c hc => ⟨(hw.vu u c hc).1, (hw.vu u c hc).2.1⟩) ha1 ha2 hm hx w H).mono ?_
    rintro e1 w1 ⟨v, rfl, rfl, vp', RV', hv', H2⟩
    exact ⟨_, rfl, _, _, Lib.hid hD, rfl, la, lc, vp', RV', hv', H2⟩
  · have hD : promD d q kd ms mb mh ma mc = _ := if_neg h
    refine (prom_no gp sf d.sn d.ph la d.ld.length lc d.sl d.bl vp d.a1 d.a2 d.ld q kd m1 m2 m3 m5 m6 ms mb ma mh mc me mv mx my m7 mz rfl (Nat.le_trans (Nat.le_of_lt hw.ld) (by decide)) hw.a1 hw.a2 h w H).mono ?_
    rintro e1 w1 ⟨v, rfl, rfl, H2⟩
    exact ⟨_, rfl, _, _, Lib.hid hD, rfl, la, lc, vp, RV, hv, H2⟩
theorem aaccd_ok {B : Nat} {w0 : World} {L : List Res} (gp : Nat) (sf : Pr) (d : Pd) (la : Option Addr) (lc : Nat) (vp : Option Addr) (RV : Res) (hv : valR d.val vp RV) (hw : Pw d) (q : Pr) (kd m1 m2 m3 m5 m6 : Int) (ms : Nat) (mb ma : Bl) (mh : Bool) (mc : Cm) (me : Hd) (mv : Vw) (mx : Hd) (my : Option Addr) (m7 mz : Nat) (w : World) (H : St B w0 w (row 129 gp #[.int .u16 (sf.1 : Int), .int .u32 (sf.2 : Int), .int .u32 (d.sn.r : Int), .int .u16 (d.sn.w.1 : Int), .int .u32 (d.sn.w.2 : Int), .int .i64 d.ph, .slice la d.ld.length lc, .int .u64 (d.sl : Int), .int .u32 (d.bl.r : Int), .int .u16 (d.bl.w.1 : Int), .int .u32 (d.bl.w.2 : Int), .pointer vp, .int .u64 (d.a1 : Int), .int .u64 (d.a2 : Int)] :: slc 36 2 (.slice la d.ld.length lc) d.ld.length (pv d.ld) :: RV :: L)) :
    Calls Try.prog 42 #[.pointer (some ⟨gp, 0, none⟩), .agg #[.int .u16 (q.1 : Int), .int .u32 (q.2 : Int)], .agg #[.int .i64 kd, .int .u16 m1, .int .u32 m2, .int .u64 m3, .int .u64 (ms : Int), .int .u64 m5, .int .i64 m6, .int .u32 (mb.r : Int), .int .u16 (mb.w.1 : Int), .int .u32 (mb.w.2 : Int), .int .u32 (ma.r : Int), .int .u16 (ma.w.1 : Int), .int .u32 (ma.w.2 : Int), .bool mh, .int .i64 mc.kind, .int .u16 (mc.fr.1 : Int), .int .u32 (mc.fr.2 : Int), .int .u64 (mc.num : Int), .int .u64 (mc.vw : Int), .slice me.ba mc.data.length me.bc, .int .u64 (mc.v.id : Int), .slice me.ma mc.v.mem.length me.mc, .slice me.la mc.v.lvs.length me.lc, .slice me.da mc.v.ldr.length me.dc, .int .u64 (mv.id : Int), .slice mx.ma mv.mem.length mx.mc, .slice mx.la mv.lvs.length mx.lc, .slice mx.da mv.ldr.length mx.dc, .slice my m7 mz]] w (Ret fun v w' => ∃ (r : Bool) (d' : Pd), Hid (accD d q kd ms mb = (r, d')) ∧ v = .bool r ∧ PH B w0 w' gp sf d' L) := by
  by_cases h : d.ph = 3 ∧ kd = 7 ∧ ms = d.sl ∧ mb = d.bl ∧ 0 ≤ atR d.ld q ∧ hasM (d.a1, d.a2) (atR d.ld q) = false
  · have hD : accD d q kd ms mb = _ := if_pos h
    obtain ⟨h1, h2, h3, h4, h5, h6⟩ := h
    have hst := setM_lt (m := (d.a1, d.a2)) (r := atR d.ld q) ⟨hw.a1, hw.a2⟩
    subst h2 h3 h4
    rw [h1] at H
    refine (accd2_ok gp sf d.sn la d.ld.length lc d.sl d.bl d.a1 d.a2 d.ld vp q mh m1 m2 m3 m5 m6 ma mc me mv mx my m7 mz rfl (atR_ne h5) hw.ld hw.a1 hw.a2 _ rfl h5 h6 _ _ rfl hst.1 hst.2 _ rfl _ rfl w H).mono ?_
    rintro e1 w1 ⟨v, rfl, rfl, H2⟩
    obtain ⟨m, hmj⟩ : ∃ m, majM (setM (d.a1, d.a2) (atR d.ld q)).1 (setM (d.a1, d.a2) (atR d.ld q)).2 (d.ld.length : Int) = m := ⟨_, rfl⟩
    rw [hmj] at H2 hD ⊢
    cases m
    · exact ⟨_, rfl, _, _, Lib.hid hD, rfl, la, lc, vp, RV, hv, H2⟩
    · exact ⟨_, rfl, _, _, Lib.hid hD, rfl, la, lc, none, empR, ⟨rfl, rfl⟩, H2.noV⟩
  · have hD : accD d q kd ms mb = _ := if_neg h
    refine (accd_no gp sf d.sn d.ph la d.ld.length lc d.sl d.bl vp d.a1 d.a2 d.ld q kd m1 m2 m3 m5 m6 ms mb ma mh mc me mv mx my m7 mz rfl (Nat.le_trans (Nat.le_of_lt hw.ld) (by decide)) hw.a1 hw.a2 h w H).mono ?_
    rintro e1 w1 ⟨v, rfl, rfl, H2⟩
    exact ⟨_, rfl, _, _, Lib.hid hD, rfl, la, lc, vp, RV, hv, H2⟩
theorem anack_ok {B : Nat} {w0 : World} {L : List Res} (gp : Nat) (sf : Pr) (d : Pd) (la : Option Addr) (lc : Nat) (vp : Option Addr) (RV : Res) (hv : valR d.val vp RV) (hw : Pw d) (kd m1 m2 m3 m5 m6 : Int) (ms : Nat) (mb ma : Bl) (mh : Bool) (mc : Cm) (me : Hd) (mv : Vw) (mx : Hd) (my : Option Addr) (m7 mz : Nat) (ha1 : mb.w.1 < 65536) (ha2 : mb.w.2 < 4294967296) (w : World) (H : St B w0 w (row 129 gp #[.int .u16 (sf.1 : Int), .int .u32 (sf.2 : Int), .int .u32 (d.sn.r : Int), .int .u16 (d.sn.w.1 : Int), .int .u32 (d.sn.w.2 : Int), .int .i64 d.ph, .slice la d.ld.length lc, .int .u64 (d.sl : Int), .int .u32 (d.bl.r : Int), .int .u16 (d.bl.w.1 : Int), .int .u32 (d.bl.w.2 : Int), .pointer vp, .int .u64 (d.a1 : Int), .int .u64 (d.a2 : Int)] :: slc 36 2 (.slice la d.ld.length lc) d.ld.length (pv d.ld) :: RV :: L)) :
    Calls Try.prog 43 #[.pointer (some ⟨gp, 0, none⟩), .agg #[.int .i64 kd, .int .u16 m1, .int .u32 m2, .int .u64 m3, .int .u64 (ms : Int), .int .u64 m5, .int .i64 m6, .int .u32 (mb.r : Int), .int .u16 (mb.w.1 : Int), .int .u32 (mb.w.2 : Int), .int .u32 (ma.r : Int), .int .u16 (ma.w.1 : Int), .int .u32 (ma.w.2 : Int), .bool mh, .int .i64 mc.kind, .int .u16 (mc.fr.1 : Int), .int .u32 (mc.fr.2 : Int), .int .u64 (mc.num : Int), .int .u64 (mc.vw : Int), .slice me.ba mc.data.length me.bc, .int .u64 (mc.v.id : Int), .slice me.ma mc.v.mem.length me.mc, .slice me.la mc.v.lvs.length me.lc, .slice me.da mc.v.ldr.length me.dc, .int .u64 (mv.id : Int), .slice mx.ma mv.mem.length mx.mc, .slice mx.la mv.lvs.length mx.lc, .slice mx.da mv.ldr.length mx.dc, .slice my m7 mz]] w (Ret fun v w' => ∃ (r : Bool) (d' : Pd), Hid (nackD d kd mb = (r, d')) ∧ v = .bool r ∧ PH B w0 w' gp sf d' L) := by
  by_cases h : ¬ d.ph = 0 ∧ kd = 8 ∧ blt d.bl mb = true
  · have hD : nackD d kd mb = _ := if_pos h
    refine (enack_yes gp sf d.sn d.ph la d.ld.length lc d.sl d.bl vp d.a1 d.a2 kd m1 m2 m3 m5 m6 ms mb ma mh mc me mv mx my m7 mz hw.s1 hw.s2 hw.b1 hw.b2 ha1 ha2 h.1 h.2.1 h.2.2 _ rfl w H).mono ?_
    rintro e1 w1 ⟨v, rfl, rfl, H2⟩
    exact ⟨_, rfl, _, _, Lib.hid hD, rfl, la, lc, none, empR, ⟨rfl, rfl⟩, H2.noV⟩
  · have hD : nackD d kd mb = _ := if_neg h
    refine (enack_no gp sf d.sn d.ph la d.ld.length lc d.sl d.bl vp d.a1 d.a2 kd m1 m2 m3 m5 m6 ms mb ma mh mc me mv mx my m7 mz hw.b1 hw.b2 ha1 ha2 ?_ w H).mono ?_
    · by_cases h1 : d.ph = 0
      · exact .inl h1
      · by_cases h2 : kd = 8
        · refine .inr (.inr ?_)
          cases h3 : blt d.bl mb
          · rfl
          · exact absurd ⟨h1, h2, h3⟩ h
        · exact .inr (.inl h2)
    rintro e1 w1 ⟨v, rfl, rfl, H2⟩
    exact ⟨_, rfl, _, _, Lib.hid hD, rfl, la, lc, vp, RV, hv, H2⟩
theorem aphase_ok {B : Nat} {w0 : World} {L : List Res} (gp : Nat) (sf : Pr) (d : Pd) (la : Option Addr) (lc : Nat) (vp : Option Addr) (RV : Res) (hv : valR d.val vp RV) (hw : Pw d) (w : World) (H : St B w0 w (row 129 gp #[.int .u16 (sf.1 : Int), .int .u32 (sf.2 : Int), .int .u32 (d.sn.r : Int), .int .u16 (d.sn.w.1 : Int), .int .u32 (d.sn.w.2 : Int), .int .i64 d.ph, .slice la d.ld.length lc, .int .u64 (d.sl : Int), .int .u32 (d.bl.r : Int), .int .u16 (d.bl.w.1 : Int), .int .u32 (d.bl.w.2 : Int), .pointer vp, .int .u64 (d.a1 : Int), .int .u64 (d.a2 : Int)] :: slc 36 2 (.slice la d.ld.length lc) d.ld.length (pv d.ld) :: RV :: L)) :
    Calls Try.prog 45 #[.pointer (some ⟨gp, 0, none⟩)] w (Ret fun v w' => v = .int .i64 d.ph ∧ St B w0 w' (row 129 gp #[.int .u16 (sf.1 : Int), .int .u32 (sf.2 : Int), .int .u32 (d.sn.r : Int), .int .u16 (d.sn.w.1 : Int), .int .u32 (d.sn.w.2 : Int), .int .i64 d.ph, .slice la d.ld.length lc, .int .u64 (d.sl : Int), .int .u32 (d.bl.r : Int), .int .u16 (d.bl.w.1 : Int), .int .u32 (d.bl.w.2 : Int), .pointer vp, .int .u64 (d.a1 : Int), .int .u64 (d.a2 : Int)] :: slc 36 2 (.slice la d.ld.length lc) d.ld.length (pv d.ld) :: RV :: L)) :=
  ephase_ok gp sf d.sn d.ph la d.ld.length lc d.sl d.bl vp d.a1 d.a2 w H
theorem aslot_ok {B : Nat} {w0 : World} {L : List Res} (gp : Nat) (sf : Pr) (d : Pd) (la : Option Addr) (lc : Nat) (vp : Option Addr) (RV : Res) (hv : valR d.val vp RV) (hw : Pw d) (w : World) (H : St B w0 w (row 129 gp #[.int .u16 (sf.1 : Int), .int .u32 (sf.2 : Int), .int .u32 (d.sn.r : Int), .int .u16 (d.sn.w.1 : Int), .int .u32 (d.sn.w.2 : Int), .int .i64 d.ph, .slice la d.ld.length lc, .int .u64 (d.sl : Int), .int .u32 (d.bl.r : Int), .int .u16 (d.bl.w.1 : Int), .int .u32 (d.bl.w.2 : Int), .pointer vp, .int .u64 (d.a1 : Int), .int .u64 (d.a2 : Int)] :: slc 36 2 (.slice la d.ld.length lc) d.ld.length (pv d.ld) :: RV :: L)) :
    Calls Try.prog 46 #[.pointer (some ⟨gp, 0, none⟩)] w (Ret fun v w' => v = .int .u64 (d.sl : Int) ∧ St B w0 w' (row 129 gp #[.int .u16 (sf.1 : Int), .int .u32 (sf.2 : Int), .int .u32 (d.sn.r : Int), .int .u16 (d.sn.w.1 : Int), .int .u32 (d.sn.w.2 : Int), .int .i64 d.ph, .slice la d.ld.length lc, .int .u64 (d.sl : Int), .int .u32 (d.bl.r : Int), .int .u16 (d.bl.w.1 : Int), .int .u32 (d.bl.w.2 : Int), .pointer vp, .int .u64 (d.a1 : Int), .int .u64 (d.a2 : Int)] :: slc 36 2 (.slice la d.ld.length lc) d.ld.length (pv d.ld) :: RV :: L)) :=
  eslot_ok gp sf d.sn d.ph la d.ld.length lc d.sl d.bl vp d.a1 d.a2 w H
theorem aballot_ok {B : Nat} {w0 : World} {L : List Res} (gp : Nat) (sf : Pr) (d : Pd) (la : Option Addr) (lc : Nat) (vp : Option Addr) (RV : Res) (hv : valR d.val vp RV) (hw : Pw d) (w : World) (H : St B w0 w (row 129 gp #[.int .u16 (sf.1 : Int), .int .u32 (sf.2 : Int), .int .u32 (d.sn.r : Int), .int .u16 (d.sn.w.1 : Int), .int .u32 (d.sn.w.2 : Int), .int .i64 d.ph, .slice la d.ld.length lc, .int .u64 (d.sl : Int), .int .u32 (d.bl.r : Int), .int .u16 (d.bl.w.1 : Int), .int .u32 (d.bl.w.2 : Int), .pointer vp, .int .u64 (d.a1 : Int), .int .u64 (d.a2 : Int)] :: slc 36 2 (.slice la d.ld.length lc) d.ld.length (pv d.ld) :: RV :: L)) :
    Calls Try.prog 31 #[.pointer (some ⟨gp, 0, none⟩)] w (Ret fun v w' => v = .agg #[.int .u32 (d.bl.r : Int), .int .u16 (d.bl.w.1 : Int), .int .u32 (d.bl.w.2 : Int)] ∧ St B w0 w' (row 129 gp #[.int .u16 (sf.1 : Int), .int .u32 (sf.2 : Int), .int .u32 (d.sn.r : Int), .int .u16 (d.sn.w.1 : Int), .int .u32 (d.sn.w.2 : Int), .int .i64 d.ph, .slice la d.ld.length lc, .int .u64 (d.sl : Int), .int .u32 (d.bl.r : Int), .int .u16 (d.bl.w.1 : Int), .int .u32 (d.bl.w.2 : Int), .pointer vp, .int .u64 (d.a1 : Int), .int .u64 (d.a2 : Int)] :: slc 36 2 (.slice la d.ld.length lc) d.ld.length (pv d.ld) :: RV :: L)) :=
  eballot_ok gp sf d.sn d.ph la d.ld.length lc d.sl d.bl vp d.a1 d.a2 w H
theorem astart_ok {B : Nat} {w0 : World} {L : List Res} {G1 : Nat → Prop} (gp : Nat) (sf : Pr) (d : Pd) (la : Option Addr) (lc : Nat) (vp : Option Addr) (RV : Res) (hv : valR d.val vp RV) (hw : Pw d) (x : Vw) (xa xl xr : Option Addr) (xc xd xe : Nat) (s0 : Nat) (hm : smV x) (hwx : wfV x)
    (hx : Rd B w0 L fun W => VwG G1 W (.slice xa x.mem.length xc) (.slice xl x.lvs.length xd) (.slice xr x.ldr.length xe) x) (w : World) (H : St B w0 w (row 129 gp #[.int .u16 (sf.1 : Int), .int .u32 (sf.2 : Int), .int .u32 (d.sn.r : Int), .int .u16 (d.sn.w.1 : Int), .int .u32 (d.sn.w.2 : Int), .int .i64 d.ph, .slice la d.ld.length lc, .int .u64 (d.sl : Int), .int .u32 (d.bl.r : Int), .int .u16 (d.bl.w.1 : Int), .int .u32 (d.bl.w.2 : Int), .pointer vp, .int .u64 (d.a1 : Int), .int .u64 (d.a2 : Int)] :: slc 36 2 (.slice la d.ld.length lc) d.ld.length (pv d.ld) :: RV :: L)) :
    Calls Try.prog 36 #[.pointer (some ⟨gp, 0, none⟩), .agg #[.int .u64 (x.id : Int), .slice xa x.mem.length xc, .slice xl x.lvs.length xd, .slice xr x.ldr.length xe], .int .u64 (s0 : Int)] w (Ret fun v w' => ∃ (b : Bl) (i : Int) (d' : Pd), Hid (startD d sf x s0 = (b, i, d')) ∧ v = .tuple #[.agg #[.int .u32 (b.r : Int), .int .u16 (b.w.1 : Int), .int .u32 (b.w.2 : Int)], .int .i64 i] ∧ PH B w0 w' gp sf d' L) := by
  have hx2 : Rd B w0 (slc 36 2 (.slice la d.ld.length lc) d.ld.length (pv d.ld) :: RV :: L) fun W => VwG G1 W (.slice xa x.mem.length xc) (.slice xl x.lvs.length xd) (.slice xr x.ldr.length xe) x := hx.mono fun r hr => List.mem_cons_of_mem _ (List.mem_cons_of_mem _ hr)
  by_cases h : vErr x = 0 ∧ sf ∈ x.ldr
  · by_cases h2 : d.sn.r = 4294967295
    · have hD : startD d sf x s0 = _ := (if_pos h).trans (if_pos h2)
      refine (estart_no2 gp sf d.sn d.ph la d.ld.length lc d.sl d.bl vp d.a1 d.a2 x xa xl xr xc xd xe s0 hm hwx h.1 h.2 h2 hx2 w H).mono ?_
      rintro e1 w1 ⟨v, rfl, rfl, H2⟩
      exact ⟨_, rfl, _, _, _, Lib.hid hD, rfl, la, lc, vp, RV, hv, H2⟩
    · have hD : startD d sf x s0 = _ := (if_pos h).trans (if_neg h2)
      refine (estart_yes gp sf d.sn d.ph la d.ld.length lc d.sl d.bl vp d.a1 d.a2 x xa xl xr xc xd xe s0 hm hwx h.1 h.2 (by have := hw.sr; omega) hx2 w H).mono ?_
      rintro e1 w1 ⟨v, rfl, rfl, a65, c65, H2⟩
      exact ⟨_, rfl, _, _, _, Lib.hid hD, rfl, a65, c65, none, empR, ⟨rfl, rfl⟩, H2.noV2⟩
  · have hD : startD d sf x s0 = _ := if_neg h
    refine (estart_no1 gp sf d.sn d.ph la d.ld.length lc d.sl d.bl vp d.a1 d.a2 x xa xl xr xc xd xe s0 hm hwx h hx2 w H).mono ?_
    rintro e1 w1 ⟨v, rfl, rfl, H2⟩
    exact ⟨_, rfl, _, _, _, Lib.hid hD, rfl, la, lc, vp, RV, hv, H2⟩
/-- The value's resource, put back beside the row and the leaders. -/
theorem St.packV {B : Nat} {w0 w : World} {L : List Res} {r1 rv rg r3 r2 : Res} (H : St B w0 w (r1 :: rv :: rg :: r3 :: r2 :: L)) : St B w0 w (r1 :: r2 :: Go.Proofs.Ytjghcmejmdllbaa.sep rv rg :: r3 :: L) :=
  (((((H.pull (r := rg) pU).pull (r := rv) pU).sep.pull (r := r2) pU).pull (r := r1) pU))
theorem St.unpackV {B : Nat} {w0 w : World} {L : List Res} {r1 rv rg r2 : Res} (H : St B w0 w (r1 :: r2 :: Go.Proofs.Ytjghcmejmdllbaa.sep rv rg :: L)) : St B w0 w (r1 :: rv :: rg :: r2 :: L) :=
  ((H.pull (r := Go.Proofs.Ytjghcmejmdllbaa.sep rv rg) pU).part.pull (r := r1) pU)
theorem St.noE {B : Nat} {w0 w : World} {L : List Res} {r1 rv rg r3 r2 re : Res} (H : St B w0 w (r1 :: rv :: rg :: r3 :: r2 :: re :: L)) : St B w0 w (r1 :: rv :: rg :: r3 :: r2 :: L) := H.sub sU
theorem St.put3 {B : Nat} {w0 w : World} {L : List Res} {r1 r2 r3 RV : Res} (H : St B w0 w (r3 :: r1 :: r2 :: RV :: L)) : St B w0 w (r1 :: r2 :: RV :: r3 :: L) :=
  ((H.pull (r := RV) pU).pull (r := r2) pU).pull (r := r1) pU
theorem aprop_ok {B : Nat} {w0 : World} {L : List Res} {G1 : Nat → Prop} (gp : Nat) (sf : Pr) (d : Pd) (la : Option Addr) (lc : Nat) (vp : Option Addr) (RV : Res) (hv : valR d.val vp RV) (hw : Pw d) (c : Cm) (e : Hd) (hm : smC c) (hwc : wfC c) (hx : Rd B w0 L fun W => CmG G1 W (.slice e.ba c.data.length e.bc) (.slice e.ma c.v.mem.length e.mc) (.slice e.la c.v.lvs.length e.lc) (.slice e.da c.v.ldr.length e.dc) c) (w : World) (H : St B w0 w (row 129 gp #[.int .u16 (sf.1 : Int), .int .u32 (sf.2 : Int), .int .u32 (d.sn.r : Int), .int .u16 (d.sn.w.1 : Int), .int .u32 (d.sn.w.2 : Int), .int .i64 d.ph, .slice la d.ld.length lc, .int .u64 (d.sl : Int), .int .u32 (d.bl.r : Int), .int .u16 (d.bl.w.1 : Int), .int .u32 (d.bl.w.2 : Int), .pointer vp, .int .u64 (d.a1 : Int), .int .u64 (d.a2 : Int)] :: slc 36 2 (.slice la d.ld.length lc) d.ld.length (pv d.ld) :: RV :: L)) :
    Calls Try.prog 37 #[.pointer (some ⟨gp, 0, none⟩), .agg (cmH c e)] w (Ret fun v w' => ∃ (cv : Cm) (h3 : Hd) (G3 : Nat → Prop) (i : Int) (d' : Pd), Hid (propD d c = (cv, i, d')) ∧ v = .tuple #[.agg (cmH cv h3), .int .i64 i] ∧ PH B w0 w' gp sf d' (cmr G3 (.slice h3.ba cv.data.length h3.bc) (.slice h3.ma cv.v.mem.length h3.mc) (.slice h3.la cv.v.lvs.length h3.lc) (.slice h3.da cv.v.ldr.length h3.dc) cv :: L)) := by
  have hx2 : Rd B w0 (slc 36 2 (.slice la d.ld.length lc) d.ld.length (pv d.ld) :: RV :: L) fun W => CmG G1 W (.slice e.ba c.data.length e.bc) (.slice e.ma c.v.mem.length e.mc) (.slice e.la c.v.lvs.length e.lc) (.slice e.da c.v.ldr.length e.dc) c := hx.mono fun r hr => List.mem_cons_of_mem _ (List.mem_cons_of_mem _ hr)
  by_cases h : d.ph = 2
  · by_cases h2 : cErr c = 0
    · have hD : propD d c = _ := (if_pos h).trans (if_pos h2)
      rw [h] at H
      cases hval : d.val with
      | none =>
        rw [hval] at hv hD
        obtain ⟨rfl, rfl⟩ := hv
        refine (prop0_ok gp sf d.sn la d.ld.length lc d.sl d.bl d.a1 d.a2 c e hm hwc h2 hx2 w H).mono ?_
        rintro e1 w1 ⟨v, rfl, gv, hd, h3, G, G3, rfl, H2⟩
        exact ⟨_, rfl, _, h3, G3, _, _, Lib.hid hD, rfl, la, lc, some ⟨gv, 0, none⟩, _, ⟨gv, hd, G, rfl, rfl⟩, H2.noE.packV⟩
      | some p =>
        obtain ⟨u, cv⟩ := p
        have hvu := hw.vu u cv hval
        rw [hval] at hv hD
        obtain ⟨gv, hd, G, rfl, rfl⟩ := hv
        refine (prop1_ok gp sf d.sn la d.ld.length lc d.sl d.bl d.a1 d.a2 gv u cv hd hvu.2.2 c e hm hwc h2 (hx.mono fun r hr => List.mem_cons_of_mem _ hr) w H.unpackV).mono ?_
        rintro e1 w1 ⟨v, rfl, h3, G3, rfl, H2⟩
        exact ⟨_, rfl, _, h3, G3, _, _, Lib.hid hD, rfl, la, lc, some ⟨gv, 0, none⟩, _, ⟨gv, hd, G, rfl, rfl⟩, H2.packV⟩
    · have hD : propD d c = _ := (if_pos h).trans (if_neg h2)
      rw [h] at H
      refine (prop_no2 gp sf d.sn la d.ld.length lc d.sl d.bl vp d.a1 d.a2 c e hm hwc h2 hx2 w H).mono ?_
      rintro e1 w1 ⟨v, rfl, rfl, H2⟩
      rw [← h] at H2
      exact ⟨_, rfl, _, hd0, _, _, _, Lib.hid hD, rfl, la, lc, vp, RV, hv, (cmr0 H2).put3⟩
  · have hD : propD d c = _ := if_neg h
    refine (prop_no1 gp sf d.sn d.ph la d.ld.length lc d.sl d.bl vp d.a1 d.a2 c e h w H).mono ?_
    rintro e1 w1 ⟨v, rfl, rfl, H2⟩
    exact ⟨_, rfl, _, hd0, _, _, _, Lib.hid hD, rfl, la, lc, vp, RV, hv, (cmr0 H2).put3⟩
theorem aval_ok {B : Nat} {w0 : World} {L : List Res} (gp : Nat) (sf : Pr) (d : Pd) (la : Option Addr) (lc : Nat) (vp : Option Addr) (RV : Res) (hv : valR d.val vp RV) (hw : Pw d) (w : World) (H : St B w0 w (row 129 gp #[.int .u16 (sf.1 : Int), .int .u32 (sf.2 : Int), .int .u32 (d.sn.r : Int), .int .u16 (d.sn.w.1 : Int), .int .u32 (d.sn.w.2 : Int), .int .i64 d.ph, .slice la d.ld.length lc, .int .u64 (d.sl : Int), .int .u32 (d.bl.r : Int), .int .u16 (d.bl.w.1 : Int), .int .u32 (d.bl.w.2 : Int), .pointer vp, .int .u64 (d.a1 : Int), .int .u64 (d.a2 : Int)] :: slc 36 2 (.slice la d.ld.length lc) d.ld.length (pv d.ld) :: RV :: L)) :
    Calls Try.prog 38 #[.pointer (some ⟨gp, 0, none⟩)] w (Ret fun v w' => ∃ (cv : Cm) (h3 : Hd) (G3 : Nat → Prop) (b : Bool), Hid (valD d = (cv, b)) ∧ v = .tuple #[.agg (cmH cv h3), .bool b] ∧ St B w0 w' (row 129 gp #[.int .u16 (sf.1 : Int), .int .u32 (sf.2 : Int), .int .u32 (d.sn.r : Int), .int .u16 (d.sn.w.1 : Int), .int .u32 (d.sn.w.2 : Int), .int .i64 d.ph, .slice la d.ld.length lc, .int .u64 (d.sl : Int), .int .u32 (d.bl.r : Int), .int .u16 (d.bl.w.1 : Int), .int .u32 (d.bl.w.2 : Int), .pointer vp, .int .u64 (d.a1 : Int), .int .u64 (d.a2 : Int)] :: slc 36 2 (.slice la d.ld.length lc) d.ld.length (pv d.ld) :: RV :: cmr G3 (.slice h3.ba cv.data.length h3.bc) (.slice h3.ma cv.v.mem.length h3.mc) (.slice h3.la cv.v.lvs.length h3.lc) (.slice h3.da cv.v.ldr.length h3.dc) cv :: L)) := by
  cases hval : d.val with
  | none =>
    rw [hval] at hv
    obtain ⟨rfl, rfl⟩ := hv
    refine (eval0_ok gp sf d.sn d.ph la d.ld.length lc d.sl d.bl d.a1 d.a2 w H).mono ?_
    rintro e1 w1 ⟨v, rfl, rfl, H2⟩
    exact ⟨_, rfl, _, hd0, _, _, Lib.hid (by unfold valD; rw [hval]), rfl, (cmr0 H2).put3⟩
  | some p =>
    obtain ⟨u, cv⟩ := p
    have hvu := hw.vu u cv hval
    rw [hval] at hv
    obtain ⟨gv, hd, G, rfl, rfl⟩ := hv
    refine (eval1_ok gp sf d.sn d.ph la d.ld.length lc d.sl d.bl d.a1 d.a2 gv u cv hd hvu.2.2 w H.unpackV).mono ?_
    rintro e1 w1 ⟨v, rfl, h3, G3, rfl, H2⟩
    exact ⟨_, rfl, _, h3, G3, _, Lib.hid (by unfold valD; rw [hval]), rfl, H2.packV⟩
end Go.Proofs.Ytjghcmejmdllbaa
namespace Go.Proofs.Ytjghcmejmdllbaa
open Go.ChangeShapes Go.WideShapes Go.ChangeAt Go.RowKit Go.Maps Go.Deep
set_option linter.unusedVariables false
set_option linter.unusedSimpArgs false
set_option linter.unusedSectionVars false
set_option maxRecDepth 100000
set_option maxHeartbeats 4000000
theorem St.unR {B : Nat} {w0 w : World} {L : List Res} {r1 r2 r3 : Res} (H : St B w0 w (Go.Proofs.Ytjghcmejmdllbaa.sep r1 (Go.Proofs.Ytjghcmejmdllbaa.sep r2 r3) :: L)) : St B w0 w (r1 :: r2 :: r3 :: L) :=
  ((H.part.pull (r := Go.Proofs.Ytjghcmejmdllbaa.sep r2 r3) pU).part.pull (r := r1) pU)
theorem St.mkR {B : Nat} {w0 w : World} {L : List Res} {r1 r2 r3 : Res} (H : St B w0 w (r1 :: r2 :: r3 :: L)) : St B w0 w (Go.Proofs.Ytjghcmejmdllbaa.sep r1 (Go.Proofs.Ytjghcmejmdllbaa.sep r2 r3) :: L) :=
  ((((H.pull (r := r3) pU).pull (r := r2) pU).sep.pull (r := r1) pU)).sep
theorem cm0_sm : smC cm0 := ⟨Nat.zero_le _, ⟨Nat.zero_le _, Nat.zero_le _, fun l hl => absurd hl List.not_mem_nil, Nat.zero_le _⟩⟩
def ProR (gp : Nat) (sf : Pr) (d : Pd) (R : Res) : Prop := ∃ (la : Option Addr) (lc : Nat) (vp : Option Addr) (RV : Res), valR d.val vp RV ∧ R = sep (row 129 gp #[.int .u16 (sf.1 : Int), .int .u32 (sf.2 : Int), .int .u32 (d.sn.r : Int), .int .u16 (d.sn.w.1 : Int), .int .u32 (d.sn.w.2 : Int), .int .i64 d.ph, .slice la d.ld.length lc, .int .u64 (d.sl : Int), .int .u32 (d.bl.r : Int), .int .u16 (d.bl.w.1 : Int), .int .u32 (d.bl.w.2 : Int), .pointer vp, .int .u64 (d.a1 : Int), .int .u64 (d.a2 : Int)]) (sep (slc 36 2 (.slice la d.ld.length lc) d.ld.length (pv d.ld)) RV)
def PX (B : Nat) (w0 w : World) (gp : Nat) (sf : Pr) (d : Pd) (L : List Res) : Prop := ∃ R : Res, ProR gp sf d R ∧ St B w0 w (R :: L)
theorem PX.of {B : Nat} {w0 w : World} {gp : Nat} {sf : Pr} {d : Pd} {L : List Res} (h : PH B w0 w gp sf d L) : PX B w0 w gp sf d L := by
  obtain ⟨la, lc, vp, RV, hv, H⟩ := h
  exact ⟨_, ⟨la, lc, vp, RV, hv, rfl⟩, H.mkR⟩
theorem rprom_ok {B : Nat} {w0 : World} {L : List Res} {G1 : Nat → Prop} (gp : Nat) (sf : Pr) (d : Pd) (R : Res) (hR : ProR gp sf d R) (hw : Pw d) (q : Pr) (kd m1 m2 m3 m5 m6 : Int) (ms : Nat) (mb ma : Bl) (mh : Bool) (mc : Cm) (me : Hd) (mv : Vw) (mx : Hd) (my : Option Addr) (m7 mz : Nat) (ha1 : ma.w.1 < 65536) (ha2 : ma.w.2 < 4294967296) (hm : smC mc)
    (hx : Rd B w0 L fun W => CmG G1 W (.slice me.ba mc.data.length me.bc) (.slice me.ma mc.v.mem.length me.mc) (.slice me.la mc.v.lvs.length me.lc) (.slice me.da mc.v.ldr.length me.dc) mc) (w : World) (H : St B w0 w (R :: L)) :
    Calls Try.prog 41 #[.pointer (some ⟨gp, 0, none⟩), .agg #[.int .u16 (q.1 : Int), .int .u32 (q.2 : Int)], .agg #[.int .i64 kd, .int .u16 m1, .int .u32 m2, .int .u64 m3, .int .u64 (ms : Int), .int .u64 m5, .int .i64 m6, .int .u32 (mb.r : Int), .int .u16 (mb.w.1 : Int), .int .u32 (mb.w.2 : Int), .int .u32 (ma.r : Int), .int .u16 (ma.w.1 : Int), .int .u32 (ma.w.2 : Int), .bool mh, .int .i64 mc.kind, .int .u16 (mc.fr.1 : Int), .int .u32 (mc.fr.2 : Int), .int .u64 (mc.num : Int), .int .u64 (mc.vw : Int), .slice me.ba mc.data.length me.bc, .int .u64 (mc.v.id : Int), .slice me.ma mc.v.mem.length me.mc, .slice me.la mc.v.lvs.length me.lc, .slice me.da mc.v.ldr.length me.dc, .int .u64 (mv.id : Int), .slice mx.ma mv.mem.length mx.mc, .slice mx.la mv.lvs.length mx.lc, .slice mx.da mv.ldr.length mx.dc, .slice my m7 mz]] w (Ret fun v w' => ∃ (r : Bool) (d' : Pd), Hid (promD d q kd ms mb mh ma mc = (r, d')) ∧ v = .bool r ∧ PX B w0 w' gp sf d' L) := by
  obtain ⟨la, lc, vp, RV, hv, rfl⟩ := hR
  replace H := H.unR
  refine (aprom_ok gp sf d la lc vp RV hv hw q kd m1 m2 m3 m5 m6 ms mb ma mh mc me mv mx my m7 mz ha1 ha2 hm hx w H).mono ?_
  rintro e1 w1 ⟨v, rfl, r, d', hD, rfl, H2⟩
  exact ⟨_, rfl, r, d', hD, rfl, PX.of H2⟩
theorem raccd_ok {B : Nat} {w0 : World} {L : List Res} (gp : Nat) (sf : Pr) (d : Pd) (R : Res) (hR : ProR gp sf d R) (hw : Pw d) (q : Pr) (kd m1 m2 m3 m5 m6 : Int) (ms : Nat) (mb ma : Bl) (mh : Bool) (mc : Cm) (me : Hd) (mv : Vw) (mx : Hd) (my : Option Addr) (m7 mz : Nat) (w : World) (H : St B w0 w (R :: L)) :
    Calls Try.prog 42 #[.pointer (some ⟨gp, 0, none⟩), .agg #[.int .u16 (q.1 : Int), .int .u32 (q.2 : Int)], .agg #[.int .i64 kd, .int .u16 m1, .int .u32 m2, .int .u64 m3, .int .u64 (ms : Int), .int .u64 m5, .int .i64 m6, .int .u32 (mb.r : Int), .int .u16 (mb.w.1 : Int), .int .u32 (mb.w.2 : Int), .int .u32 (ma.r : Int), .int .u16 (ma.w.1 : Int), .int .u32 (ma.w.2 : Int), .bool mh, .int .i64 mc.kind, .int .u16 (mc.fr.1 : Int), .int .u32 (mc.fr.2 : Int), .int .u64 (mc.num : Int), .int .u64 (mc.vw : Int), .slice me.ba mc.data.length me.bc, .int .u64 (mc.v.id : Int), .slice me.ma mc.v.mem.length me.mc, .slice me.la mc.v.lvs.length me.lc, .slice me.da mc.v.ldr.length me.dc, .int .u64 (mv.id : Int), .slice mx.ma mv.mem.length mx.mc, .slice mx.la mv.lvs.length mx.lc, .slice mx.da mv.ldr.length mx.dc, .slice my m7 mz]] w (Ret fun v w' => ∃ (r : Bool) (d' : Pd), Hid (accD d q kd ms mb = (r, d')) ∧ v = .bool r ∧ PX B w0 w' gp sf d' L) := by
  obtain ⟨la, lc, vp, RV, hv, rfl⟩ := hR
  replace H := H.unR
  refine (aaccd_ok gp sf d la lc vp RV hv hw q kd m1 m2 m3 m5 m6 ms mb ma mh mc me mv mx my m7 mz w H).mono ?_
  rintro e1 w1 ⟨v, rfl, r, d', hD, rfl, H2⟩
  exact ⟨_, rfl, r, d', hD, rfl, PX.of H2⟩
theorem rnackR_ok {B : Nat} {w0 : World} {L : List Res} (gp : Nat) (sf : Pr) (d : Pd) (R : Res) (hR : ProR gp sf d R) (hw : Pw d) (kd m1 m2 m3 m5 m6 : Int) (ms : Nat) (mb ma : Bl) (mh : Bool) (mc : Cm) (me : Hd) (mv : Vw) (mx : Hd) (my : Option Addr) (m7 mz : Nat) (ha1 : mb.w.1 < 65536) (ha2 : mb.w.2 < 4294967296) (w : World) (H : St B w0 w (R :: L)) :
    Calls Try.prog 43 #[.pointer (some ⟨gp, 0, none⟩), .agg #[.int .i64 kd, .int .u16 m1, .int .u32 m2, .int .u64 m3, .int .u64 (ms : Int), .int .u64 m5, .int .i64 m6, .int .u32 (mb.r : Int), .int .u16 (mb.w.1 : Int), .int .u32 (mb.w.2 : Int), .int .u32 (ma.r : Int), .int .u16 (ma.w.1 : Int), .int .u32 (ma.w.2 : Int), .bool mh, .int .i64 mc.kind, .int .u16 (mc.fr.1 : Int), .int .u32 (mc.fr.2 : Int), .int .u64 (mc.num : Int), .int .u64 (mc.vw : Int), .slice me.ba mc.data.length me.bc, .int .u64 (mc.v.id : Int), .slice me.ma mc.v.mem.length me.mc, .slice me.la mc.v.lvs.length me.lc, .slice me.da mc.v.ldr.length me.dc, .int .u64 (mv.id : Int), .slice mx.ma mv.mem.length mx.mc, .slice mx.la mv.lvs.length mx.lc, .slice mx.da mv.ldr.length mx.dc, .slice my m7 mz]] w (Ret fun v w' => ∃ (r : Bool) (d' : Pd), Hid (nackD d kd mb = (r, d')) ∧ v = .bool r ∧ PX B w0 w' gp sf d' L) := by
  obtain ⟨la, lc, vp, RV, hv, rfl⟩ := hR
  replace H := H.unR
  refine (anack_ok gp sf d la lc vp RV hv hw kd m1 m2 m3 m5 m6 ms mb ma mh mc me mv mx my m7 mz ha1 ha2 w H).mono ?_
  rintro e1 w1 ⟨v, rfl, r, d', hD, rfl, H2⟩
  exact ⟨_, rfl, r, d', hD, rfl, PX.of H2⟩
theorem rstartR_ok {B : Nat} {w0 : World} {L : List Res} {G1 : Nat → Prop} (gp : Nat) (sf : Pr) (d : Pd) (R : Res) (hR : ProR gp sf d R) (hw : Pw d) (x : Vw) (xa xl xr : Option Addr) (xc xd xe : Nat) (s0 : Nat) (hm : smV x) (hwx : wfV x)
    (hx : Rd B w0 L fun W => VwG G1 W (.slice xa x.mem.length xc) (.slice xl x.lvs.length xd) (.slice xr x.ldr.length xe) x) (w : World) (H : St B w0 w (R :: L)) :
    Calls Try.prog 36 #[.pointer (some ⟨gp, 0, none⟩), .agg #[.int .u64 (x.id : Int), .slice xa x.mem.length xc, .slice xl x.lvs.length xd, .slice xr x.ldr.length xe], .int .u64 (s0 : Int)] w (Ret fun v w' => ∃ (b : Bl) (i : Int) (d' : Pd), Hid (startD d sf x s0 = (b, i, d')) ∧ v = .tuple #[.agg #[.int .u32 (b.r : Int), .int .u16 (b.w.1 : Int), .int .u32 (b.w.2 : Int)], .int .i64 i] ∧ PX B w0 w' gp sf d' L) := by
  obtain ⟨la, lc, vp, RV, hv, rfl⟩ := hR
  replace H := H.unR
  refine (astart_ok gp sf d la lc vp RV hv hw x xa xl xr xc xd xe s0 hm hwx hx w H).mono ?_
  rintro e1 w1 ⟨v, rfl, b, i, d', hD, rfl, H2⟩
  exact ⟨_, rfl, b, i, d', hD, rfl, PX.of H2⟩
theorem rpropR_ok {B : Nat} {w0 : World} {L : List Res} {G1 : Nat → Prop} (gp : Nat) (sf : Pr) (d : Pd) (R : Res) (hR : ProR gp sf d R) (hw : Pw d) (c : Cm) (e : Hd) (hm : smC c) (hwc : wfC c) (hx : Rd B w0 L fun W => CmG G1 W (.slice e.ba c.data.length e.bc) (.slice e.ma c.v.mem.length e.mc) (.slice e.la c.v.lvs.length e.lc) (.slice e.da c.v.ldr.length e.dc) c) (w : World) (H : St B w0 w (R :: L)) :
    Calls Try.prog 37 #[.pointer (some ⟨gp, 0, none⟩), .agg (cmH c e)] w (Ret fun v w' => ∃ (cv : Cm) (h3 : Hd) (G3 : Nat → Prop) (i : Int) (d' : Pd), Hid (propD d c = (cv, i, d')) ∧ v = .tuple #[.agg (cmH cv h3), .int .i64 i] ∧ PX B w0 w' gp sf d' (cmr G3 (.slice h3.ba cv.data.length h3.bc) (.slice h3.ma cv.v.mem.length h3.mc) (.slice h3.la cv.v.lvs.length h3.lc) (.slice h3.da cv.v.ldr.length h3.dc) cv :: L)) := by
  obtain ⟨la, lc, vp, RV, hv, rfl⟩ := hR
  replace H := H.unR
  refine (aprop_ok gp sf d la lc vp RV hv hw c e hm hwc hx w H).mono ?_
  rintro e1 w1 ⟨v, rfl, cv, h3, G3, i, d', hD, rfl, H2⟩
  exact ⟨_, rfl, cv, h3, G3, i, d', hD, rfl, PX.of H2⟩
theorem rphase_ok {B : Nat} {w0 : World} {L : List Res} (gp : Nat) (sf : Pr) (d : Pd) (R : Res) (hR : ProR gp sf d R) (hw : Pw d) (w : World) (H : St B w0 w (R :: L)) :
    Calls Try.prog 45 #[.pointer (some ⟨gp, 0, none⟩)] w (Ret fun v w' => v = .int .i64 d.ph ∧ St B w0 w' (R :: L)) := by
  obtain ⟨la, lc, vp, RV, hv, rfl⟩ := hR
  replace H := H.unR
  refine (aphase_ok gp sf d la lc vp RV hv hw w H).mono ?_
  rintro e1 w1 ⟨v, rfl, rfl, H2⟩
  exact ⟨_, rfl, rfl, H2.mkR⟩
theorem rslot_ok {B : Nat} {w0 : World} {L : List Res} (gp : Nat) (sf : Pr) (d : Pd) (R : Res) (hR : ProR gp sf d R) (hw : Pw d) (w : World) (H : St B w0 w (R :: L)) :
    Calls Try.prog 46 #[.pointer (some ⟨gp, 0, none⟩)] w (Ret fun v w' => v = .int .u64 (d.sl : Int) ∧ St B w0 w' (R :: L)) := by
  obtain ⟨la, lc, vp, RV, hv, rfl⟩ := hR
  replace H := H.unR
  refine (aslot_ok gp sf d la lc vp RV hv hw w H).mono ?_
  rintro e1 w1 ⟨v, rfl, rfl, H2⟩
  exact ⟨_, rfl, rfl, H2.mkR⟩
theorem rballot_ok {B : Nat} {w0 : World} {L : List Res} (gp : Nat) (sf : Pr) (d : Pd) (R : Res) (hR : ProR gp sf d R) (hw : Pw d) (w : World) (H : St B w0 w (R :: L)) :
    Calls Try.prog 31 #[.pointer (some ⟨gp, 0, none⟩)] w (Ret fun v w' => v = .agg #[.int .u32 (d.bl.r : Int), .int .u16 (d.bl.w.1 : Int), .int .u32 (d.bl.w.2 : Int)] ∧ St B w0 w' (R :: L)) := by
  obtain ⟨la, lc, vp, RV, hv, rfl⟩ := hR
  replace H := H.unR
  refine (aballot_ok gp sf d la lc vp RV hv hw w H).mono ?_
  rintro e1 w1 ⟨v, rfl, rfl, H2⟩
  exact ⟨_, rfl, rfl, H2.mkR⟩
theorem rvalR_ok {B : Nat} {w0 : World} {L : List Res} (gp : Nat) (sf : Pr) (d : Pd) (R : Res) (hR : ProR gp sf d R) (hw : Pw d) (w : World) (H : St B w0 w (R :: L)) :
    Calls Try.prog 38 #[.pointer (some ⟨gp, 0, none⟩)] w (Ret fun v w' => ∃ (cv : Cm) (h3 : Hd) (G3 : Nat → Prop) (b : Bool), Hid (valD d = (cv, b)) ∧ v = .tuple #[.agg (cmH cv h3), .bool b] ∧ St B w0 w' (R :: cmr G3 (.slice h3.ba cv.data.length h3.bc) (.slice h3.ma cv.v.mem.length h3.mc) (.slice h3.la cv.v.lvs.length h3.lc) (.slice h3.da cv.v.ldr.length h3.dc) cv :: L)) := by
  obtain ⟨la, lc, vp, RV, hv, rfl⟩ := hR
  replace H := H.unR
  refine (aval_ok gp sf d la lc vp RV hv hw w H).mono ?_
  rintro e1 w1 ⟨v, rfl, cv, h3, G3, b, hD, rfl, H2⟩
  exact ⟨_, rfl, cv, h3, G3, b, hD, rfl, H2.mkR⟩
theorem Pw.new (sf : Pr) : Pw ⟨bl0, 0, [], 0, bl0, 0, 0, none⟩ :=
  ⟨by show (0 : Nat) < 65536; decide, by show (0 : Nat) < 4294967296; decide, by show (0 : Nat) < 4294967296; decide, by show (0 : Nat) < 65536; decide, by show (0 : Nat) < 4294967296; decide, by show (0 : Nat) < 18446744073709551616; decide, by show (0 : Nat) < 18446744073709551616; decide, by show (0 : Nat) < 18446744073709551616; decide, by show (0 : Nat) < 1000; decide, fun u c h => by cases h⟩
theorem Pw.prom {d d' : Pd} {q : Pr} {kd : Int} {ms : Nat} {mb : Bl} {mh : Bool} {ma : Bl} {mc : Cm} {r : Bool} (hw : Pw d) (ha1 : ma.w.1 < 65536) (ha2 : ma.w.2 < 4294967296) (hm : smC mc) (h : promD d q kd ms mb mh ma mc = (r, d')) : Pw d' := by
  have hst := setM_lt (m := (d.a1, d.a2)) (r := atR d.ld q) ⟨hw.a1, hw.a2⟩
  unfold promD at h
  split at h
  · injection h with _ h
    subst h
    refine ⟨hw.s1, hw.s2, hw.sr, hw.b1, hw.b2, hw.sl, hst.1, hst.2, hw.ld, fun u c hc => ?_⟩
    simp only at hc
    split at hc
    · injection hc with hc
      injection hc with h1 h2
      subst h1 h2
      exact ⟨ha1, ha2, hm⟩
    · exact hw.vu u c hc
  · injection h with _ h
    subst h; exact hw
theorem Pw.acc {d d' : Pd} {q : Pr} {kd : Int} {ms : Nat} {mb : Bl} {r : Bool} (hw : Pw d) (h : accD d q kd ms mb = (r, d')) : Pw d' := by
  have hst := setM_lt (m := (d.a1, d.a2)) (r := atR d.ld q) ⟨hw.a1, hw.a2⟩
  unfold accD at h
  split at h
  · injection h with _ h
    subst h
    refine ⟨hw.s1, hw.s2, hw.sr, hw.b1, hw.b2, ?_, hst.1, hst.2, hw.ld, fun u c hc => ?_⟩
    · simp only; split
      · exact Nat.mod_lt _ (by decide)
      · exact hw.sl
    · simp only at hc
      split at hc
      · cases hc
      · exact hw.vu u c hc
  · injection h with _ h
    subst h; exact hw
theorem Pw.prop {d d' : Pd} {c cv : Cm} {i : Int} (hw : Pw d) (hm : smC c) (h : propD d c = (cv, i, d')) : Pw d' := by
  unfold propD at h
  split at h
  · split at h
    · split at h
      · injection h with _ h; injection h with _ h
        subst h
        exact ⟨hw.s1, hw.s2, hw.sr, hw.b1, hw.b2, hw.sl, by show (0 : Nat) < _; decide, by show (0 : Nat) < _; decide, hw.ld, fun u c' hc => by injection hc with hc; injection hc with h1 h2; subst h1 h2; exact ⟨hw.b1, hw.b2, hm⟩⟩
      · injection h with _ h; injection h with _ h
        subst h
        exact ⟨hw.s1, hw.s2, hw.sr, hw.b1, hw.b2, hw.sl, by show (0 : Nat) < _; decide, by show (0 : Nat) < _; decide, hw.ld, hw.vu⟩
    · injection h with _ h; injection h with _ h
      subst h; exact hw
  · injection h with _ h; injection h with _ h
    subst h; exact hw
theorem Pw.start {d d' : Pd} {sf : Pr} {x : Vw} {s0 : Nat} {b : Bl} {i : Int} (hw : Pw d) (h1 : sf.1 < 65536) (h2 : sf.2 < 4294967296) (hs : s0 < 18446744073709551616) (hl : x.ldr.length < 1000) (h : startD d sf x s0 = (b, i, d')) : Pw d' := by
  unfold startD at h
  split at h
  · split at h
    · injection h with _ h; injection h with _ h
      subst h; exact hw
    · injection h with _ h; injection h with _ h
      subst h
      exact ⟨h1, h2, by have := hw.sr; show d.sn.r + 1 < _; omega, h1, h2, hs, by show (0 : Nat) < _; decide, by show (0 : Nat) < _; decide, hl, fun u c hc => by cases hc⟩
  · injection h with _ h; injection h with _ h
    subst h; exact hw
theorem Pw.see {d d' : Pd} {b : Bl} (hw : Pw d) (h0 : b.r < 4294967296) (h1 : b.w.1 < 65536) (h2 : b.w.2 < 4294967296) (h : seeD d b = d') : Pw d' := by
  subst h
  unfold seeD
  refine ⟨?_, ?_, ?_, hw.b1, hw.b2, hw.sl, hw.a1, hw.a2, hw.ld, hw.vu⟩
  all_goals
    simp only
    split
  · exact h1
  · exact hw.s1
  · exact h2
  · exact hw.s2
  · exact h0
  · exact hw.sr
theorem Pw.stop {d d' : Pd} (hw : Pw d) (h : stopD d = d') : Pw d' := by
  subst h
  exact ⟨hw.s1, hw.s2, hw.sr, hw.b1, hw.b2, hw.sl, hw.a1, hw.a2, hw.ld, fun u c hc => by cases hc⟩
theorem Pw.nack {d d' : Pd} {kd : Int} {mb : Bl} {r : Bool} (hw : Pw d) (h0 : mb.r < 4294967296) (h1 : mb.w.1 < 65536) (h2 : mb.w.2 < 4294967296) (h : nackD d kd mb = (r, d')) : Pw d' := by
  unfold nackD at h
  split at h
  · injection h with _ h
    exact (hw.see h0 h1 h2 rfl).stop h
  · injection h with _ h
    subst h; exact hw
theorem Pw.move {d d' : Pd} {s : Nat} {r : Bool} (hw : Pw d) (h : moveD d s = (r, d')) : Pw d' := by
  unfold moveD at h
  split at h
  · injection h with _ h; exact hw.stop h
  · injection h with _ h; subst h; exact hw
end Go.Proofs.Ytjghcmejmdllbaa
