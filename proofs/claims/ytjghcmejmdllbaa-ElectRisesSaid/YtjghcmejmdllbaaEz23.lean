/- What any number stands for among 0 to n - 1 (choragusref01.Pick); no condition. Layer 21's laws' do: each kind of act on a proposer and on its reference: that it runs, and what it makes of the proposer. -/
import Derived.Deep.Cut
import Derived.Test.YtjghcmejmdllbaaEz3
import Derived.Test.YtjghcmejmdllbaaEz21
import Derived.Test.YtjghcmejmdllbaaEz22
namespace Go.Proofs.Ytjghcmejmdllbaa
open Go.ChangeShapes Go.WideShapes Go.ChangeAt Go.RowKit
set_option linter.unusedVariables false
set_option linter.unusedSimpArgs false
/-- A number of 0 to n - 1 that any number stands for. -/
theorem pick_mod (b z : Int) (n : Nat) (hz : z = n) (hn : 0 < n) (hn2 : n ≤ 1000000) (w : World) :
    Calls Try.prog 34 #[.int .i64 b, .int .i64 z] w (Ret fun v w' => v = .int .i64 (((b % n).toNat : Nat) : Int) ∧ Below w.heap.size w w') := by
  subst hz
  have H := St.init w
  have e1 := Int.emod_nonneg b (show (n : Int) ≠ 0 by omega)
  have e2 := Int.emod_lt_of_pos b (show (0 : Int) < n by omega)
  have h := Int.tmod_eq_emod (a := b) (b := (n : Int))
  rw [Int.natAbs_natCast] at h
  have hr : (b.tmod n < 0 → b.tmod n + n = b % n) ∧ (¬ b.tmod n < 0 → b.tmod n = b % n) := by
    split at h <;> constructor <;> intro h' <;> omega
  obtain ⟨e, he⟩ : ∃ e, b.tmod n = e := ⟨_, rfl⟩
  obtain ⟨q, hq⟩ : ∃ q, b % (n : Int) = q := ⟨_, rfl⟩
  rw [he, hq] at hr
  rw [hq] at e1 e2 ⊢
  have eb : -(n : Int) ≤ e ∧ e < n := by
    by_cases h0 : e < 0
    · have := hr.1 h0; omega
    · have := hr.2 h0; omega
  obtain ⟨eb1, eb2⟩ := eb
  have n1 : ¬ (n : Int) < 1 := by omega
  have nz : ((n : Int) == 0) = false := by simp; omega
  clear hq h
  by_cases h0 : e < 0
  · have HQ := Lib.hid (hr.1 h0)
    clear hr
    go_enter Try.func34, Try.ntmps34
    go_wp2
    go_ret
    exact ⟨_, rfl, congrArg (Value.int IntKind.i64) (show e + (n : Int) = _ by have := HQ.out; omega), H.below⟩
  · have HQ := Lib.hid (hr.2 h0)
    clear hr
    go_enter Try.func34, Try.ntmps34
    go_wp2
    go_ret
    exact ⟨_, rfl, congrArg (Value.int IntKind.i64) (show e = _ by have := HQ.out; omega), H.below⟩
end Go.Proofs.Ytjghcmejmdllbaa
namespace Go.Proofs.Ytjghcmejmdllbaa
open Go.ChangeShapes Go.WideShapes Go.ChangeAt Go.RowKit Go.Maps Go.Deep
set_option linter.unusedVariables false
set_option linter.unusedSimpArgs false
set_option linter.unusedSectionVars false
set_option maxRecDepth 100000
set_option maxHeartbeats 4000000
attribute [local irreducible] blt vOk atR cErr
/-- How a proposer moves on: what it saw never falls, and its ballot stays, or is behind all that it saw. -/
def Mv (sf : Pr) (d d' : Pd) : Prop := d.sn.r ≤ d'.sn.r ∧ (d'.bl = d.bl ∨ d'.bl = ⟨d.sn.r + 1, sf⟩ ∧ d'.sn = d'.bl)
theorem blt_r {a b : Bl} (h : blt a b = true) : a.r ≤ b.r := by
  unfold blt at h
  split at h
  · omega
  · have := of_decide_eq_true h; omega
theorem blt_no {a b : Bl} (h : blt a b = false) : b.r ≤ a.r := by
  unfold blt at h
  split at h
  · omega
  · have := of_decide_eq_false h; omega
theorem Mv.refl (sf : Pr) (d : Pd) : Mv sf d d := ⟨Nat.le_refl _, .inl rfl⟩
theorem Mv.start {sf : Pr} {d d' : Pd} {x : Vw} {s0 : Nat} {b : Bl} {i : Int} (h : startD d sf x s0 = (b, i, d')) : Mv sf d d' := by
  unfold startD at h
  split at h
  · split at h
    · injection h with _ h; injection h with _ h; subst h; exact Mv.refl _ _
    · injection h with _ h; injection h with _ h; subst h; exact ⟨Nat.le_succ _, .inr ⟨rfl, rfl⟩⟩
  · injection h with _ h; injection h with _ h; subst h; exact Mv.refl _ _
theorem Mv.prom {sf : Pr} {d d' : Pd} {q : Pr} {kd : Int} {ms : Nat} {mb : Bl} {mh : Bool} {ma : Bl} {mc : Cm} {r : Bool} (h : promD d q kd ms mb mh ma mc = (r, d')) : Mv sf d d' := by
  unfold promD at h
  split at h <;> (injection h with _ h; subst h; exact ⟨Nat.le_refl _, .inl rfl⟩)
theorem Mv.acc {sf : Pr} {d d' : Pd} {q : Pr} {kd : Int} {ms : Nat} {mb : Bl} {r : Bool} (h : accD d q kd ms mb = (r, d')) : Mv sf d d' := by
  unfold accD at h
  split at h <;> (injection h with _ h; subst h; exact ⟨Nat.le_refl _, .inl rfl⟩)
theorem Mv.prop {sf : Pr} {d d' : Pd} {c cv : Cm} {i : Int} (h : propD d c = (cv, i, d')) : Mv sf d d' := by
  unfold propD at h
  split at h
  · split at h
    · split at h <;> (injection h with _ h; injection h with _ h; subst h; exact ⟨Nat.le_refl _, .inl rfl⟩)
    · injection h with _ h; injection h with _ h; subst h; exact Mv.refl _ _
  · injection h with _ h; injection h with _ h; subst h; exact Mv.refl _ _
theorem Mv.see {sf : Pr} {d d' : Pd} {b : Bl} (h : seeD d b = d') : Mv sf d d' := by
  subst h
  refine ⟨?_, .inl rfl⟩
  show d.sn.r ≤ (if blt d.sn b = true then b else d.sn).r
  split
  · rename_i h; exact blt_r h
  · exact Nat.le_refl _
theorem seeD_le {d d' : Pd} {b : Bl} (h : seeD d b = d') : b.r ≤ d'.sn.r := by
  subst h
  show b.r ≤ (if blt d.sn b = true then b else d.sn).r
  split
  · exact Nat.le_refl _
  · rename_i h; exact blt_no (by simpa using h)
theorem Mv.stop {sf : Pr} {d d' : Pd} (h : stopD d = d') : Mv sf d d' := by subst h; exact ⟨Nat.le_refl _, .inl rfl⟩
theorem Mv.nack {sf : Pr} {d d' : Pd} {kd : Int} {mb : Bl} {r : Bool} (h : nackD d kd mb = (r, d')) : Mv sf d d' := by
  unfold nackD at h
  split at h
  · injection h with _ h; subst h; exact ⟨(Mv.see (sf := sf) (d := d) (b := mb) rfl).1, .inl rfl⟩
  · injection h with _ h; subst h; exact Mv.refl _ _
theorem Mv.move {sf : Pr} {d d' : Pd} {s : Nat} {r : Bool} (h : moveD d s = (r, d')) : Mv sf d d' := by
  unfold moveD at h
  split at h <;> (injection h with _ h; subst h; exact ⟨Nat.le_refl _, .inl rfl⟩)
theorem XaR.mk {B : Nat} {w0 : World} {G1 : Nat → Prop} {gx m : Nat} (se : Pr) (sn bl : Bl) (ph : Int) (la : Option Addr) (lc : Nat) (ld : List Pr) (sl : Nat) (hs : Bool) (un : Bl) (c0 : Cm) (hd : Hd) (aa : Option Addr) (ac : Nat) (an : List Pr) (hI : XI B w0 G1 m sn la lc ld c0 hd an) : XaR B w0 G1 gx m (sep (row 69 gx #[.int .u16 (se.1 : Int), .int .u32 (se.2 : Int), .int .u32 (sn.r : Int), .int .u16 (sn.w.1 : Int), .int .u32 (sn.w.2 : Int), .int .u32 (bl.r : Int), .int .u16 (bl.w.1 : Int), .int .u32 (bl.w.2 : Int), .int .i64 ph, .slice la ld.length lc, .int .u64 (sl : Int), .bool hs, .int .u32 (un.r : Int), .int .u16 (un.w.1 : Int), .int .u32 (un.w.2 : Int), .int .i64 c0.kind, .int .u16 (c0.fr.1 : Int), .int .u32 (c0.fr.2 : Int), .int .u64 (c0.num : Int), .int .u64 (c0.vw : Int), .slice hd.ba c0.data.length hd.bc, .int .u64 (c0.v.id : Int), .slice hd.ma c0.v.mem.length hd.mc, .slice hd.la c0.v.lvs.length hd.lc, .slice hd.da c0.v.ldr.length hd.dc, .slice aa an.length ac]) (slc 36 2 (.slice aa an.length ac) an.length (pv an))) :=
  ⟨se, sn, bl, ph, la, lc, ld, sl, hs, un, c0, hd, aa, ac, an, hI, rfl⟩
theorem XaR.up {B : Nat} {w0 : World} {G1 : Nat → Prop} {gx m : Nat} {X : Res} (h : XaR B w0 G1 gx m X) : XaR B w0 G1 gx (m + 1) X := by
  obtain ⟨se, sn, bl, ph, la, lc, ld, sl, hs, un, c, hd, aa, ac, an, hI, rfl⟩ := h
  exact ⟨se, sn, bl, ph, la, lc, ld, sl, hs, un, c, hd, aa, ac, an, hI.ca (Nat.le_succ_of_le hI.an), rfl⟩
/-- What an act leaves. -/
def DX (B : Nat) (w0 : World) (G1 : Nat → Prop) (w : World) (gp gx : Nat) (sf : Pr) (d : Pd) (m : Nat) (mb : Bl) (j : Nat) (L : List Res) : Prop :=
  ∃ d' : Pd, Hid (Pw d' ∧ Mv sf d d' ∧ (j = 7 → mb.r ≤ d'.sn.r)) ∧ ∃ R' : Res, ProR gp sf d' R' ∧ ∃ X' : Res, XaR B w0 G1 gx m X' ∧ St B w0 w (R' :: X' :: L)
theorem run_eql_bl (a b : Bl) (r : Bool) (h : decide (a = b) = r) (w : World) : (binOp .eql 67 (.agg (blC a)) (.agg (blC b))).run Try.prog w = .ok (.bool r) w := by
  have h2 : (Op.equal 67 (.agg (blC a)) (.agg (blC b))).run Try.prog w = .ok (decide (a = b)) w := by
    refine (eqBT (a.r : Int) (a.w.1 : Int) (a.w.2 : Int) (b.r : Int) (b.w.1 : Int) (b.w.2 : Int) w).trans ?_
    congr 1
    rw [Bool.eq_iff_iff]
    simp only [Bool.and_eq_true, beq_iff_eq, decide_eq_true_eq, bl_eq]
    omega
  simp only [binOp]
  simp [h2, ← h]
section
variable {ops : Array Oper} {a : Act} {w : World} {o : Oper} {N : Act → World → Prop} {S : World → Prop} {x y : Operand} {b1 b2 : Bl} {r : Bool}
theorem Stp.eqBl (ho : o.op = .binOp .eql 67 x y 67) (hx : a.eval x = .agg (blC b1)) (hy : a.eval y = .agg (blC b2)) (h0 : decide (b1 = b2) = r) (h : N (a.put o.dst (.bool r)) w) : Stp Try.prog o a w N := by
  refine ⟨w, .inl ⟨_, ?_, h⟩⟩
  unfold execOp; simp only [ho, hx, hy]
  simp [run_eql_bl b1 b2 r h0, eqGuard, eqg_BT]
theorem Yld.eqB4 {p q : Bool} (hw : Region.wanted o (yielded ops a.tmps) = true) (ho : o.op = .binOp .eql 4 x y 4) (hx : a.eval x = .bool p) (hy : a.eval y = .bool q) : YieldsIf Try.prog ops S o (.bool (p == q)) a :=
  .inl ⟨hw, fun W _ => by
    unfold execOp; simp only [ho, hx, hy]
    cases p <;> cases q <;> (go_simp; done)⟩
end
theorem do21_start0 {B : Nat} {w0 : World} {L : List Res} {G1 : Nat → Prop} (gp gx : Nat) (sf : Pr) (d : Pd) (R : Res) (hR : ProR gp sf d R) (hw : Pw d) (hf1 : sf.1 < 65536) (hf2 : sf.2 < 4294967296)
    (m : Nat) (hmm : m ≤ 1000) (se : Pr) (sn bl : Bl) (ph : Int) (la : Option Addr) (lc : Nat) (ld : List Pr) (sl : Nat) (hs : Bool) (un : Bl) (c0 : Cm) (hd : Hd) (aa : Option Addr) (ac : Nat) (an : List Pr) (hI : XI B w0 G1 m sn la lc ld c0 hd an)
    (kind : Int) (x : Vw) (xa xl xr : Option Addr) (xc xd xe : Nat) (s0 : Nat) (q : Pr) (kd m1 m2 m3 m5 m6 : Int) (ms : Nat) (mb ma : Bl) (mh : Bool) (mc : Cm) (me : Hd) (mv : Vw) (mx : Hd) (my : Option Addr) (m7 mz : Nat) (c : Cm) (h : Hd)
    (hsm : smV x) (hwx : wfV x) (hld : x.ldr.length < 1000) (hvx : ∀ L, Rd B w0 L fun W => VwG G1 W (.slice xa x.mem.length xc) (.slice xl x.lvs.length xd) (.slice xr x.ldr.length xe) x) (hs0 : s0 < 18446744073709551616)
    (hb0 : mb.r < 4294967296) (hb1 : mb.w.1 < 65536) (hb2 : mb.w.2 < 4294967296) (ha1 : ma.w.1 < 65536) (ha2 : ma.w.2 < 4294967296) (hmc : smC mc) (hxm : ∀ L, Rd B w0 L fun W => CmG G1 W (.slice me.ba mc.data.length me.bc) (.slice me.ma mc.v.mem.length me.mc) (.slice me.la mc.v.lvs.length me.lc) (.slice me.da mc.v.ldr.length me.dc) mc)
    (hcs : smC c) (hcw : wfC c) (hxc : ∀ L, Rd B w0 L fun W => CmG G1 W (.slice h.ba c.data.length h.bc) (.slice h.ma c.v.mem.length h.mc) (.slice h.la c.v.lvs.length h.lc) (.slice h.da c.v.ldr.length h.dc) c) (j : Nat) (hj : (kind % ((10 : Nat) : Int)).toNat = j) (hjj : j = 0) (w : World) (H : St B w0 w (row 69 gx #[.int .u16 (se.1 : Int), .int .u32 (se.2 : Int), .int .u32 (sn.r : Int), .int .u16 (sn.w.1 : Int), .int .u32 (sn.w.2 : Int), .int .u32 (bl.r : Int), .int .u16 (bl.w.1 : Int), .int .u32 (bl.w.2 : Int), .int .i64 ph, .slice la ld.length lc, .int .u64 (sl : Int), .bool hs, .int .u32 (un.r : Int), .int .u16 (un.w.1 : Int), .int .u32 (un.w.2 : Int), .int .i64 c0.kind, .int .u16 (c0.fr.1 : Int), .int .u32 (c0.fr.2 : Int), .int .u64 (c0.num : Int), .int .u64 (c0.vw : Int), .slice hd.ba c0.data.length hd.bc, .int .u64 (c0.v.id : Int), .slice hd.ma c0.v.mem.length hd.mc, .slice hd.la c0.v.lvs.length hd.lc, .slice hd.da c0.v.ldr.length hd.dc, .slice aa an.length ac] :: slc 36 2 (.slice aa an.length ac) an.length (pv an) :: R :: L)) :
    Calls Try.prog 32 #[.pointer (some ⟨gp, 0, none⟩), .pointer (some ⟨gx, 0, none⟩), .agg #[.int .i64 kind, .int .u64 (x.id : Int), .slice xa x.mem.length xc, .slice xl x.lvs.length xd, .slice xr x.ldr.length xe, .int .u64 (s0 : Int), .int .u16 (q.1 : Int), .int .u32 (q.2 : Int), .int .i64 kd, .int .u16 m1, .int .u32 m2, .int .u64 m3, .int .u64 (ms : Int), .int .u64 m5, .int .i64 m6, .int .u32 (mb.r : Int), .int .u16 (mb.w.1 : Int), .int .u32 (mb.w.2 : Int), .int .u32 (ma.r : Int), .int .u16 (ma.w.1 : Int), .int .u32 (ma.w.2 : Int), .bool mh, .int .i64 mc.kind, .int .u16 (mc.fr.1 : Int), .int .u32 (mc.fr.2 : Int), .int .u64 (mc.num : Int), .int .u64 (mc.vw : Int), .slice me.ba mc.data.length me.bc, .int .u64 (mc.v.id : Int), .slice me.ma mc.v.mem.length me.mc, .slice me.la mc.v.lvs.length me.lc, .slice me.da mc.v.ldr.length me.dc, .int .u64 (mv.id : Int), .slice mx.ma mv.mem.length mx.mc, .slice mx.la mv.lvs.length mx.lc, .slice mx.da mv.ldr.length mx.dc, .slice my m7 mz, .bool false, .int .i64 c.kind, .int .u16 (c.fr.1 : Int), .int .u32 (c.fr.2 : Int), .int .u64 (c.num : Int), .int .u64 (c.vw : Int), .slice h.ba c.data.length h.bc, .int .u64 (c.v.id : Int), .slice h.ma c.v.mem.length h.mc, .slice h.la c.v.lvs.length h.lc, .slice h.da c.v.ldr.length h.dc]] w (Ret fun v w' => ∃ e : Bool, v = .bool e ∧ DX B w0 G1 w' gp gx sf d (m + 1) mb j L) := by
  have HR := Lib.hid hR
  have HW := Lib.hid hw
  have HF1 := Lib.hid hf1
  have HF2 := Lib.hid hf2
  have HI := Lib.hid hI
  have HSM := Lib.hid hsm
  have HWX := Lib.hid hwx
  have HLD := Lib.hid hld
  have HVX := Lib.hid hvx
  have HS0 := Lib.hid hs0
  have HB0 := Lib.hid hb0
  have HB1 := Lib.hid hb1
  have HB2 := Lib.hid hb2
  have HA1 := Lib.hid ha1
  have HA2 := Lib.hid ha2
  have HMC := Lib.hid hmc
  have HXM := Lib.hid hxm
  have HCS := Lib.hid hcs
  have HCW := Lib.hid hcw
  have HXC := Lib.hid hxc
  have HJ := Lib.hid hj
  clear hR hw hf1 hf2 hI hsm hwx hld hvx hs0 hb0 hb1 hb2 ha1 ha2 hmc hxm hcs hcw hxc hj
  subst hjj
  go_enter Try.func32, Try.ntmps32
  go_upto_region 9 with (first | (go_at_call 34; (with_reducible refine (pick_mod _ _ 10 (by omega) (by omega) (by omega) _).mono ?_); rintro e w1 ⟨v, rfl, hr⟩; obtain ⟨rfl, hb1⟩ := hr; replace H := H.grow hb1; clear hb1; rw [HJ.out]) | (go_at_call 36; (with_reducible refine (rstartR_ok gp sf d R HR.out HW.out x xa xl xr xc xd xe s0 HSM.out HWX.out (HVX.out _) _ (H.pull (r := R) pU)).mono ?_); rintro e w1 ⟨v, rfl, hr⟩; obtain ⟨b1, i1, d1, HD, rfl, R1, hR1, H2⟩ := hr; clear H; have H := H2; have HR1 := Lib.hid hR1; clear H2 hR1) | (go_at_call 70; (with_reducible refine (xstart_ok gx m x xa xl xr xc xd xe s0 HSM.out (HVX.out _) _ (XaR.mk se sn bl ph la lc ld sl hs un c0 hd aa ac an HI.out) _ (((H.pull (r := slc 36 2 (.slice aa an.length ac) an.length (pv an)) pU).pull (r := row 69 gx #[.int .u16 (se.1 : Int), .int .u32 (se.2 : Int), .int .u32 (sn.r : Int), .int .u16 (sn.w.1 : Int), .int .u32 (sn.w.2 : Int), .int .u32 (bl.r : Int), .int .u16 (bl.w.1 : Int), .int .u32 (bl.w.2 : Int), .int .i64 ph, .slice la ld.length lc, .int .u64 (sl : Int), .bool hs, .int .u32 (un.r : Int), .int .u16 (un.w.1 : Int), .int .u32 (un.w.2 : Int), .int .i64 c0.kind, .int .u16 (c0.fr.1 : Int), .int .u32 (c0.fr.2 : Int), .int .u64 (c0.num : Int), .int .u64 (c0.vw : Int), .slice hd.ba c0.data.length hd.bc, .int .u64 (c0.v.id : Int), .slice hd.ma c0.v.mem.length hd.mc, .slice hd.la c0.v.lvs.length hd.lc, .slice hd.da c0.v.ldr.length hd.dc, .slice aa an.length ac]) pU).sep)).mono ?_); rintro e w1 ⟨v, rfl, hr⟩; obtain ⟨b2, i2, rfl, X2, hX2, H2⟩ := hr; clear H; have H := H2; have HX2 := Lib.hid hX2; clear H2 hX2) | (with_reducible refine wpl rfl (Stp.box 5 rfl rfl rfl H ?_); clear H; intro g5 w1 H; simp only [pS]; simp only [pE, nC, pS] at H) | (with_reducible refine wpl rfl (Stp.ldl rfl agg74 size74 rfl H mR (by simp) ?_); simp only [pS]; simp only [List.drop_succ_cons, List.drop_zero, List.take_succ_cons, List.take_zero]) | (with_reducible refine wpl rfl (Stp.alloc 7 rfl rfl zero74 H ?_); clear H; intro g7 w1 H; simp only [pS]; simp only [nC] at H) | (with_reducible refine wpl rfl (Stp.str rfl size74 rfl rfl (by first | rfl | (simp [Value.oneCell']; done) | assumption) H uP sZ sZ ?_); clear H; intro w1 H; simp only [pS]) | (with_reducible refine wpl rfl (Stp.ldc rfl agg4 rfl H mR cE ?_); simp only [pS]) | (with_reducible refine wpl rfl (Stp.ldc rfl agg22 rfl H mR cE ?_); simp only [pS]) | (with_reducible refine wpl rfl (Stp.str rfl size67 rfl rfl (by first | rfl | (simp [Value.oneCell']; done) | assumption) H uP sZ sZ ?_); clear H; intro w1 H; simp only [pS]) | (with_reducible refine wpl rfl (Stp.ldc rfl agg3 rfl H mR cE ?_); simp only [pS]) | (with_reducible refine wpl rfl (Stp.ldl rfl agg26 size26 rfl H mR (by simp) ?_); simp only [pS]; simp only [List.drop_succ_cons, List.drop_zero, List.take_succ_cons, List.take_zero]) | (with_reducible refine wpl rfl (Stp.alloc 8 rfl rfl zero67 H ?_); clear H; intro g8 w1 H; simp only [pS]; simp only [nC] at H) | (with_reducible refine wpl rfl (Stp.alloc 10 rfl rfl zero67 H ?_); clear H; intro g10 w1 H; simp only [pS]; simp only [nC] at H))
  obtain ⟨ee, hee⟩ : ∃ ee, decide (b1 = b2) = ee := ⟨_, rfl⟩
  have HEB := Lib.hid hee
  clear hee
  cases ee
  all_goals
    go_wp2_with (first | (with_reducible refine wpl rfl (Stp.eqBl rfl rfl rfl HEB.out ?_); simp only [pS]) | (with_reducible refine wpl rfl (Stp.ldr rfl agg67 size67 rfl H mR sZ ?_); simp only [pS]))
    go_ret
    exact ⟨_, rfl, _, rfl, d1, Lib.hid ⟨HW.out.start HF1.out HF2.out HS0.out HLD.out HD.out, Mv.start HD.out, (by intro hq; omega)⟩, R1, HR1.out, X2, HX2.out.up, ((H.pull (r := X2) pU).pull (r := R1) pU).sub sU⟩

theorem do21_start1 {B : Nat} {w0 : World} {L : List Res} {G1 : Nat → Prop} (gp gx : Nat) (sf : Pr) (d : Pd) (R : Res) (hR : ProR gp sf d R) (hw : Pw d) (hf1 : sf.1 < 65536) (hf2 : sf.2 < 4294967296)
    (m : Nat) (hmm : m ≤ 1000) (se : Pr) (sn bl : Bl) (ph : Int) (la : Option Addr) (lc : Nat) (ld : List Pr) (sl : Nat) (hs : Bool) (un : Bl) (c0 : Cm) (hd : Hd) (aa : Option Addr) (ac : Nat) (an : List Pr) (hI : XI B w0 G1 m sn la lc ld c0 hd an)
    (kind : Int) (x : Vw) (xa xl xr : Option Addr) (xc xd xe : Nat) (s0 : Nat) (q : Pr) (kd m1 m2 m3 m5 m6 : Int) (ms : Nat) (mb ma : Bl) (mh : Bool) (mc : Cm) (me : Hd) (mv : Vw) (mx : Hd) (my : Option Addr) (m7 mz : Nat) (c : Cm) (h : Hd)
    (hsm : smV x) (hwx : wfV x) (hld : x.ldr.length < 1000) (hvx : ∀ L, Rd B w0 L fun W => VwG G1 W (.slice xa x.mem.length xc) (.slice xl x.lvs.length xd) (.slice xr x.ldr.length xe) x) (hs0 : s0 < 18446744073709551616)
    (hb0 : mb.r < 4294967296) (hb1 : mb.w.1 < 65536) (hb2 : mb.w.2 < 4294967296) (ha1 : ma.w.1 < 65536) (ha2 : ma.w.2 < 4294967296) (hmc : smC mc) (hxm : ∀ L, Rd B w0 L fun W => CmG G1 W (.slice me.ba mc.data.length me.bc) (.slice me.ma mc.v.mem.length me.mc) (.slice me.la mc.v.lvs.length me.lc) (.slice me.da mc.v.ldr.length me.dc) mc)
    (hcs : smC c) (hcw : wfC c) (hxc : ∀ L, Rd B w0 L fun W => CmG G1 W (.slice h.ba c.data.length h.bc) (.slice h.ma c.v.mem.length h.mc) (.slice h.la c.v.lvs.length h.lc) (.slice h.da c.v.ldr.length h.dc) c) (j : Nat) (hj : (kind % ((10 : Nat) : Int)).toNat = j) (hjj : j = 0) (w : World) (H : St B w0 w (row 69 gx #[.int .u16 (se.1 : Int), .int .u32 (se.2 : Int), .int .u32 (sn.r : Int), .int .u16 (sn.w.1 : Int), .int .u32 (sn.w.2 : Int), .int .u32 (bl.r : Int), .int .u16 (bl.w.1 : Int), .int .u32 (bl.w.2 : Int), .int .i64 ph, .slice la ld.length lc, .int .u64 (sl : Int), .bool hs, .int .u32 (un.r : Int), .int .u16 (un.w.1 : Int), .int .u32 (un.w.2 : Int), .int .i64 c0.kind, .int .u16 (c0.fr.1 : Int), .int .u32 (c0.fr.2 : Int), .int .u64 (c0.num : Int), .int .u64 (c0.vw : Int), .slice hd.ba c0.data.length hd.bc, .int .u64 (c0.v.id : Int), .slice hd.ma c0.v.mem.length hd.mc, .slice hd.la c0.v.lvs.length hd.lc, .slice hd.da c0.v.ldr.length hd.dc, .slice aa an.length ac] :: slc 36 2 (.slice aa an.length ac) an.length (pv an) :: R :: L)) :
    Calls Try.prog 32 #[.pointer (some ⟨gp, 0, none⟩), .pointer (some ⟨gx, 0, none⟩), .agg #[.int .i64 kind, .int .u64 (x.id : Int), .slice xa x.mem.length xc, .slice xl x.lvs.length xd, .slice xr x.ldr.length xe, .int .u64 (s0 : Int), .int .u16 (q.1 : Int), .int .u32 (q.2 : Int), .int .i64 kd, .int .u16 m1, .int .u32 m2, .int .u64 m3, .int .u64 (ms : Int), .int .u64 m5, .int .i64 m6, .int .u32 (mb.r : Int), .int .u16 (mb.w.1 : Int), .int .u32 (mb.w.2 : Int), .int .u32 (ma.r : Int), .int .u16 (ma.w.1 : Int), .int .u32 (ma.w.2 : Int), .bool mh, .int .i64 mc.kind, .int .u16 (mc.fr.1 : Int), .int .u32 (mc.fr.2 : Int), .int .u64 (mc.num : Int), .int .u64 (mc.vw : Int), .slice me.ba mc.data.length me.bc, .int .u64 (mc.v.id : Int), .slice me.ma mc.v.mem.length me.mc, .slice me.la mc.v.lvs.length me.lc, .slice me.da mc.v.ldr.length me.dc, .int .u64 (mv.id : Int), .slice mx.ma mv.mem.length mx.mc, .slice mx.la mv.lvs.length mx.lc, .slice mx.da mv.ldr.length mx.dc, .slice my m7 mz, .bool true, .int .i64 c.kind, .int .u16 (c.fr.1 : Int), .int .u32 (c.fr.2 : Int), .int .u64 (c.num : Int), .int .u64 (c.vw : Int), .slice h.ba c.data.length h.bc, .int .u64 (c.v.id : Int), .slice h.ma c.v.mem.length h.mc, .slice h.la c.v.lvs.length h.lc, .slice h.da c.v.ldr.length h.dc]] w (Ret fun v w' => ∃ e : Bool, v = .bool e ∧ DX B w0 G1 w' gp gx sf d (m + 1) mb j L) := by
  have HR := Lib.hid hR
  have HW := Lib.hid hw
  have HF1 := Lib.hid hf1
  have HF2 := Lib.hid hf2
  have HI := Lib.hid hI
  have HSM := Lib.hid hsm
  have HWX := Lib.hid hwx
  have HLD := Lib.hid hld
  have HVX := Lib.hid hvx
  have HS0 := Lib.hid hs0
  have HB0 := Lib.hid hb0
  have HB1 := Lib.hid hb1
  have HB2 := Lib.hid hb2
  have HA1 := Lib.hid ha1
  have HA2 := Lib.hid ha2
  have HMC := Lib.hid hmc
  have HXM := Lib.hid hxm
  have HCS := Lib.hid hcs
  have HCW := Lib.hid hcw
  have HXC := Lib.hid hxc
  have HJ := Lib.hid hj
  clear hR hw hf1 hf2 hI hsm hwx hld hvx hs0 hb0 hb1 hb2 ha1 ha2 hmc hxm hcs hcw hxc hj
  subst hjj
  go_enter Try.func32, Try.ntmps32
  go_upto_region 9 with (first | (go_at_call 34; (with_reducible refine (pick_mod _ _ 10 (by omega) (by omega) (by omega) _).mono ?_); rintro e w1 ⟨v, rfl, hr⟩; obtain ⟨rfl, hb1⟩ := hr; replace H := H.grow hb1; clear hb1; rw [HJ.out]) | (go_at_call 36; (with_reducible refine (rstartR_ok gp sf d R HR.out HW.out x xa xl xr xc xd xe s0 HSM.out HWX.out (HVX.out _) _ (H.pull (r := R) pU)).mono ?_); rintro e w1 ⟨v, rfl, hr⟩; obtain ⟨b1, i1, d1, HD, rfl, R1, hR1, H2⟩ := hr; clear H; have H := H2; have HR1 := Lib.hid hR1; clear H2 hR1) | (go_at_call 70; (with_reducible refine (xstart_ok gx m x xa xl xr xc xd xe s0 HSM.out (HVX.out _) _ (XaR.mk se sn bl ph la lc ld sl hs un c0 hd aa ac an HI.out) _ (((H.pull (r := slc 36 2 (.slice aa an.length ac) an.length (pv an)) pU).pull (r := row 69 gx #[.int .u16 (se.1 : Int), .int .u32 (se.2 : Int), .int .u32 (sn.r : Int), .int .u16 (sn.w.1 : Int), .int .u32 (sn.w.2 : Int), .int .u32 (bl.r : Int), .int .u16 (bl.w.1 : Int), .int .u32 (bl.w.2 : Int), .int .i64 ph, .slice la ld.length lc, .int .u64 (sl : Int), .bool hs, .int .u32 (un.r : Int), .int .u16 (un.w.1 : Int), .int .u32 (un.w.2 : Int), .int .i64 c0.kind, .int .u16 (c0.fr.1 : Int), .int .u32 (c0.fr.2 : Int), .int .u64 (c0.num : Int), .int .u64 (c0.vw : Int), .slice hd.ba c0.data.length hd.bc, .int .u64 (c0.v.id : Int), .slice hd.ma c0.v.mem.length hd.mc, .slice hd.la c0.v.lvs.length hd.lc, .slice hd.da c0.v.ldr.length hd.dc, .slice aa an.length ac]) pU).sep)).mono ?_); rintro e w1 ⟨v, rfl, hr⟩; obtain ⟨b2, i2, rfl, X2, hX2, H2⟩ := hr; clear H; have H := H2; have HX2 := Lib.hid hX2; clear H2 hX2) | (with_reducible refine wpl rfl (Stp.box 5 rfl rfl rfl H ?_); clear H; intro g5 w1 H; simp only [pS]; simp only [pE, nC, pS] at H) | (with_reducible refine wpl rfl (Stp.ldl rfl agg74 size74 rfl H mR (by simp) ?_); simp only [pS]; simp only [List.drop_succ_cons, List.drop_zero, List.take_succ_cons, List.take_zero]) | (with_reducible refine wpl rfl (Stp.alloc 7 rfl rfl zero74 H ?_); clear H; intro g7 w1 H; simp only [pS]; simp only [nC] at H) | (with_reducible refine wpl rfl (Stp.str rfl size74 rfl rfl (by first | rfl | (simp [Value.oneCell']; done) | assumption) H uP sZ sZ ?_); clear H; intro w1 H; simp only [pS]) | (with_reducible refine wpl rfl (Stp.ldc rfl agg4 rfl H mR cE ?_); simp only [pS]) | (with_reducible refine wpl rfl (Stp.ldc rfl agg22 rfl H mR cE ?_); simp only [pS]) | (with_reducible refine wpl rfl (Stp.stc rfl size22 rfl rfl rfl rfl H uP (by first | omega | (simp; done) | (simp; omega)) ?_); clear H; intro w1 H; simp only [pS]; simp only [pE, nC, pS] at H) | (with_reducible refine wpl rfl (Stp.ldl rfl agg67 size67 rfl H mR (by simp) ?_); simp only [pS]; simp only [List.drop_succ_cons, List.drop_zero, List.take_succ_cons, List.take_zero]) | (with_reducible refine wpl rfl (Stp.str rfl size67 rfl rfl (by first | rfl | (simp [Value.oneCell']; done) | assumption) H uP sZ sZ ?_); clear H; intro w1 H; simp only [pS]) | (with_reducible refine wpl rfl (Stp.stl rfl size67 rfl rfl rfl rfl H uP (by simp) ?_); clear H; intro w1 H; simp only [pS]; simp only [List.drop_succ_cons, List.drop_zero, List.take_succ_cons, List.take_zero, List.nil_append, List.cons_append, Nat.reduceAdd] at H) | (with_reducible refine wpl rfl (Stp.ldc rfl agg3 rfl H mR cE ?_); simp only [pS]) | (with_reducible refine wpl rfl (Stp.ldl rfl agg26 size26 rfl H mR (by simp) ?_); simp only [pS]; simp only [List.drop_succ_cons, List.drop_zero, List.take_succ_cons, List.take_zero]) | (with_reducible refine wpl rfl (Stp.alloc 8 rfl rfl zero67 H ?_); clear H; intro g8 w1 H; simp only [pS]; simp only [nC] at H) | (with_reducible refine wpl rfl (Stp.alloc 10 rfl rfl zero67 H ?_); clear H; intro g10 w1 H; simp only [pS]; simp only [nC] at H))
  obtain ⟨ee, hee⟩ : ∃ ee, decide (b1 = b2) = ee := ⟨_, rfl⟩
  have HEB := Lib.hid hee
  clear hee
  cases ee
  all_goals
    go_wp2_with (first | (with_reducible refine wpl rfl (Stp.eqBl rfl rfl rfl HEB.out ?_); simp only [pS]) | (with_reducible refine wpl rfl (Stp.ldr rfl agg67 size67 rfl H mR sZ ?_); simp only [pS]))
    go_ret
    exact ⟨_, rfl, _, rfl, d1, Lib.hid ⟨HW.out.start HF1.out HF2.out HS0.out HLD.out HD.out, Mv.start HD.out, (by intro hq; omega)⟩, R1, HR1.out, X2, HX2.out.up, ((H.pull (r := X2) pU).pull (r := R1) pU).sub sU⟩

end Go.Proofs.Ytjghcmejmdllbaa
