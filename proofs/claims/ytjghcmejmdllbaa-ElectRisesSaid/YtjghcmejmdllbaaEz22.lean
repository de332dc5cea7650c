/- Layer 21's reference: its Proposer as one resource, whatever it holds; what each call leaves. -/
import Derived.Test.YtjghcmejmdllbaaEz21
namespace Go.Proofs.Ytjghcmejmdllbaa
open Go.ChangeShapes Go.WideShapes Go.ChangeAt Go.RowKit Go.Maps Go.Deep
set_option linter.unusedVariables false
set_option linter.unusedSimpArgs false
set_option linter.unusedSectionVars false
set_option maxRecDepth 100000
set_option maxHeartbeats 4000000
attribute [local irreducible] blt
/-- What is kept of it: no more than m answers, a command that is small, and what it reads stands still. -/
structure XI (B : Nat) (w0 : World) (G1 : Nat → Prop) (m : Nat) (sn : Bl) (la : Option Addr) (lc : Nat) (ld : List Pr) (c : Cm) (hd : Hd) (an : List Pr) : Prop where
  an : an.length ≤ m
  sm : smC c
  sr : sn.r < 4294967296
  l : Rd B w0 [] fun W => Sl W 2 ld.length (.slice la ld.length lc) (elQ ld)
  x : Rd B w0 [] fun W => CmG G1 W (.slice hd.ba c.data.length hd.bc) (.slice hd.ma c.v.mem.length hd.mc) (.slice hd.la c.v.lvs.length hd.lc) (.slice hd.da c.v.ldr.length hd.dc) c
def XaR (B : Nat) (w0 : World) (G1 : Nat → Prop) (gx m : Nat) (X : Res) : Prop :=
  ∃ (se : Pr) (sn bl : Bl) (ph : Int) (la : Option Addr) (lc : Nat) (ld : List Pr) (sl : Nat) (hs : Bool) (un : Bl) (c : Cm) (hd : Hd) (aa : Option Addr) (ac : Nat) (an : List Pr), XI B w0 G1 m sn la lc ld c hd an ∧ X = sep (row 69 gx #[.int .u16 (se.1 : Int), .int .u32 (se.2 : Int), .int .u32 (sn.r : Int), .int .u16 (sn.w.1 : Int), .int .u32 (sn.w.2 : Int), .int .u32 (bl.r : Int), .int .u16 (bl.w.1 : Int), .int .u32 (bl.w.2 : Int), .int .i64 ph, .slice la ld.length lc, .int .u64 (sl : Int), .bool hs, .int .u32 (un.r : Int), .int .u16 (un.w.1 : Int), .int .u32 (un.w.2 : Int), .int .i64 c.kind, .int .u16 (c.fr.1 : Int), .int .u32 (c.fr.2 : Int), .int .u64 (c.num : Int), .int .u64 (c.vw : Int), .slice hd.ba c.data.length hd.bc, .int .u64 (c.v.id : Int), .slice hd.ma c.v.mem.length hd.mc, .slice hd.la c.v.lvs.length hd.lc, .slice hd.da c.v.ldr.length hd.dc, .slice aa an.length ac]) (slc 36 2 (.slice aa an.length ac) an.length (pv an))
def XS (B : Nat) (w0 : World) (G1 : Nat → Prop) (w : World) (gx m : Nat) (L : List Res) : Prop := ∃ X : Res, XaR B w0 G1 gx m X ∧ St B w0 w (X :: L)
theorem XS.of {B : Nat} {w0 : World} {L : List Res} {G1 : Nat → Prop} {w : World} (gx : Nat) (se : Pr) (sn bl : Bl) (ph : Int) (la : Option Addr) (lc : Nat) (ld : List Pr) (sl : Nat) (hs : Bool) (un : Bl) (c : Cm) (hd : Hd) (aa : Option Addr) (ac : Nat) (an : List Pr) {m n : Nat} (hn : an.length = n) (hI : XI B w0 G1 m sn la lc ld c hd an) (H : St B w0 w (row 69 gx #[.int .u16 (se.1 : Int), .int .u32 (se.2 : Int), .int .u32 (sn.r : Int), .int .u16 (sn.w.1 : Int), .int .u32 (sn.w.2 : Int), .int .u32 (bl.r : Int), .int .u16 (bl.w.1 : Int), .int .u32 (bl.w.2 : Int), .int .i64 ph, .slice la ld.length lc, .int .u64 (sl : Int), .bool hs, .int .u32 (un.r : Int), .int .u16 (un.w.1 : Int), .int .u32 (un.w.2 : Int), .int .i64 c.kind, .int .u16 (c.fr.1 : Int), .int .u32 (c.fr.2 : Int), .int .u64 (c.num : Int), .int .u64 (c.vw : Int), .slice hd.ba c.data.length hd.bc, .int .u64 (c.v.id : Int), .slice hd.ma c.v.mem.length hd.mc, .slice hd.la c.v.lvs.length hd.lc, .slice hd.da c.v.ldr.length hd.dc, .slice aa n ac] :: slc 36 2 (.slice aa n ac) n (pv an) :: L)) : XS B w0 G1 w gx m L := by
  subst hn
  exact ⟨_, ⟨se, sn, bl, ph, la, lc, ld, sl, hs, un, c, hd, aa, ac, an, hI, rfl⟩, H.sep⟩
theorem XI.cm0 {B : Nat} {w0 : World} {G1 : Nat → Prop} {m : Nat} {sn sn' : Bl} {la : Option Addr} {lc : Nat} {ld : List Pr} {c : Cm} {hd : Hd} {an : List Pr} (h : XI B w0 G1 m sn la lc ld c hd an) (hs : sn'.r < 4294967296) : XI B w0 G1 m sn' la lc ld cm0 hd0 an :=
  ⟨h.an, cm0_sm, hs, h.l, fun W _ _ => CmG.nil _ _ 0⟩
theorem XI.cs {B : Nat} {w0 : World} {G1 : Nat → Prop} {m : Nat} {sn : Bl} {la : Option Addr} {lc : Nat} {ld : List Pr} {c : Cm} {hd : Hd} {an : List Pr} (h : XI B w0 G1 m sn la lc ld c hd an) {sn' : Bl} (hs : sn'.r < 4294967296) : XI B w0 G1 m sn' la lc ld c hd an :=
  ⟨h.an, h.sm, hs, h.l, h.x⟩
theorem XI.ca {B : Nat} {w0 : World} {G1 : Nat → Prop} {m m' : Nat} {sn : Bl} {la : Option Addr} {lc : Nat} {ld : List Pr} {c : Cm} {hd : Hd} {an an' : List Pr} (h : XI B w0 G1 m sn la lc ld c hd an) (hs : an'.length ≤ m') : XI B w0 G1 m' sn la lc ld c hd an' :=
  ⟨hs, h.sm, h.sr, h.l, h.x⟩
theorem XI.cc {B : Nat} {w0 : World} {G1 : Nat → Prop} {m : Nat} {sn : Bl} {la : Option Addr} {lc : Nat} {ld : List Pr} {c c' : Cm} {hd hd' : Hd} {an : List Pr} (h : XI B w0 G1 m sn la lc ld c hd an) (h1 : smC c') (h2 : Rd B w0 [] fun W => CmG G1 W (.slice hd'.ba c'.data.length hd'.bc) (.slice hd'.ma c'.v.mem.length hd'.mc) (.slice hd'.la c'.v.lvs.length hd'.lc) (.slice hd'.da c'.v.ldr.length hd'.dc) c') : XI B w0 G1 m sn la lc ld c' hd' an :=
  ⟨h.an, h1, h.sr, h.l, h2⟩
theorem ransw_yes {B : Nat} {w0 : World} {L : List Res} (gx : Nat) (se : Pr) (sn bl : Bl) (ph : Int) (la : Option Addr) (lc : Nat) (ld : List Pr) (sl : Nat) (hs : Bool) (un : Bl) (c : Cm) (hd : Hd) (aa : Option Addr) (ac : Nat) (an : List Pr) (p0 k0 : Int) (q : Pr) (kd m1 m2 m3 m5 m6 : Int) (ms : Nat) (mb ma : Bl) (mh : Bool) (mc : Cm) (me : Hd) (mv : Vw) (mx : Hd) (my : Option Addr) (m7 mz : Nat) (hn : an.length ≤ 1000) (hl : Rd B w0 L fun W => Sl W 2 ld.length (.slice la ld.length lc) (elQ ld)) (h : ph = p0 ∧ kd = k0 ∧ ms = sl ∧ mb = bl ∧ q ∈ ld ∧ q ∉ an) (N : Nat) (hN : an.length + 1 = N) (w : World) (H : St B w0 w (row 69 gx #[.int .u16 (se.1 : Int), .int .u32 (se.2 : Int), .int .u32 (sn.r : Int), .int .u16 (sn.w.1 : Int), .int .u32 (sn.w.2 : Int), .int .u32 (bl.r : Int), .int .u16 (bl.w.1 : Int), .int .u32 (bl.w.2 : Int), .int .i64 ph, .slice la ld.length lc, .int .u64 (sl : Int), .bool hs, .int .u32 (un.r : Int), .int .u16 (un.w.1 : Int), .int .u32 (un.w.2 : Int), .int .i64 c.kind, .int .u16 (c.fr.1 : Int), .int .u32 (c.fr.2 : Int), .int .u64 (c.num : Int), .int .u64 (c.vw : Int), .slice hd.ba c.data.length hd.bc, .int .u64 (c.v.id : Int), .slice hd.ma c.v.mem.length hd.mc, .slice hd.la c.v.lvs.length hd.lc, .slice hd.da c.v.ldr.length hd.dc, .slice aa an.length ac] :: slc 36 2 (.slice aa an.length ac) an.length (pv an) :: L)) :
    Calls Try.prog 109 #[.pointer (some ⟨gx, 0, none⟩), .int .i64 p0, .int .i64 k0, .agg #[.int .u16 (q.1 : Int), .int .u32 (q.2 : Int)], .agg #[.int .i64 kd, .int .u16 m1, .int .u32 m2, .int .u64 m3, .int .u64 (ms : Int), .int .u64 m5, .int .i64 m6, .int .u32 (mb.r : Int), .int .u16 (mb.w.1 : Int), .int .u32 (mb.w.2 : Int), .int .u32 (ma.r : Int), .int .u16 (ma.w.1 : Int), .int .u32 (ma.w.2 : Int), .bool mh, .int .i64 mc.kind, .int .u16 (mc.fr.1 : Int), .int .u32 (mc.fr.2 : Int), .int .u64 (mc.num : Int), .int .u64 (mc.vw : Int), .slice me.ba mc.data.length me.bc, .int .u64 (mc.v.id : Int), .slice me.ma mc.v.mem.length me.mc, .slice me.la mc.v.lvs.length me.lc, .slice me.da mc.v.ldr.length me.dc, .int .u64 (mv.id : Int), .slice mx.ma mv.mem.length mx.mc, .slice mx.la mv.lvs.length mx.lc, .slice mx.da mv.ldr.length mx.dc, .slice my m7 mz]] w (Ret fun v w' => ∃ (aa1 : Option Addr) (ac1 : Nat), v = .bool true ∧ St B w0 w' (row 69 gx #[.int .u16 (se.1 : Int), .int .u32 (se.2 : Int), .int .u32 (sn.r : Int), .int .u16 (sn.w.1 : Int), .int .u32 (sn.w.2 : Int), .int .u32 (bl.r : Int), .int .u16 (bl.w.1 : Int), .int .u32 (bl.w.2 : Int), .int .i64 ph, .slice la ld.length lc, .int .u64 (sl : Int), .bool hs, .int .u32 (un.r : Int), .int .u16 (un.w.1 : Int), .int .u32 (un.w.2 : Int), .int .i64 c.kind, .int .u16 (c.fr.1 : Int), .int .u32 (c.fr.2 : Int), .int .u64 (c.num : Int), .int .u64 (c.vw : Int), .slice hd.ba c.data.length hd.bc, .int .u64 (c.v.id : Int), .slice hd.ma c.v.mem.length hd.mc, .slice hd.la c.v.lvs.length hd.lc, .slice hd.da c.v.ldr.length hd.dc, .slice aa1 N ac1] :: slc 36 2 (.slice aa1 N ac1) N (pv (an ++ [q])) :: L)) := by
  refine (ransw_ok gx se sn bl ph la lc ld sl hs un c hd aa ac an p0 k0 q kd m1 m2 m3 m5 m6 ms mb ma mh mc me mv mx my m7 mz hn hl true (decide_eq_true h) w H).mono ?_
  rintro e1 w1 ⟨v, rfl, rfl, aa1, ac1, H2⟩
  unfold ansL at H2
  rw [if_pos rfl, show (an ++ [q]).length = N from by rw [List.length_append]; exact hN] at H2
  exact ⟨_, rfl, aa1, ac1, rfl, H2⟩
theorem ransw_no {B : Nat} {w0 : World} {L : List Res} (gx : Nat) (se : Pr) (sn bl : Bl) (ph : Int) (la : Option Addr) (lc : Nat) (ld : List Pr) (sl : Nat) (hs : Bool) (un : Bl) (c : Cm) (hd : Hd) (aa : Option Addr) (ac : Nat) (an : List Pr) (p0 k0 : Int) (q : Pr) (kd m1 m2 m3 m5 m6 : Int) (ms : Nat) (mb ma : Bl) (mh : Bool) (mc : Cm) (me : Hd) (mv : Vw) (mx : Hd) (my : Option Addr) (m7 mz : Nat) (hn : an.length ≤ 1000) (hl : Rd B w0 L fun W => Sl W 2 ld.length (.slice la ld.length lc) (elQ ld)) (h : ¬ (ph = p0 ∧ kd = k0 ∧ ms = sl ∧ mb = bl ∧ q ∈ ld ∧ q ∉ an)) (w : World) (H : St B w0 w (row 69 gx #[.int .u16 (se.1 : Int), .int .u32 (se.2 : Int), .int .u32 (sn.r : Int), .int .u16 (sn.w.1 : Int), .int .u32 (sn.w.2 : Int), .int .u32 (bl.r : Int), .int .u16 (bl.w.1 : Int), .int .u32 (bl.w.2 : Int), .int .i64 ph, .slice la ld.length lc, .int .u64 (sl : Int), .bool hs, .int .u32 (un.r : Int), .int .u16 (un.w.1 : Int), .int .u32 (un.w.2 : Int), .int .i64 c.kind, .int .u16 (c.fr.1 : Int), .int .u32 (c.fr.2 : Int), .int .u64 (c.num : Int), .int .u64 (c.vw : Int), .slice hd.ba c.data.length hd.bc, .int .u64 (c.v.id : Int), .slice hd.ma c.v.mem.length hd.mc, .slice hd.la c.v.lvs.length hd.lc, .slice hd.da c.v.ldr.length hd.dc, .slice aa an.length ac] :: slc 36 2 (.slice aa an.length ac) an.length (pv an) :: L)) :
    Calls Try.prog 109 #[.pointer (some ⟨gx, 0, none⟩), .int .i64 p0, .int .i64 k0, .agg #[.int .u16 (q.1 : Int), .int .u32 (q.2 : Int)], .agg #[.int .i64 kd, .int .u16 m1, .int .u32 m2, .int .u64 m3, .int .u64 (ms : Int), .int .u64 m5, .int .i64 m6, .int .u32 (mb.r : Int), .int .u16 (mb.w.1 : Int), .int .u32 (mb.w.2 : Int), .int .u32 (ma.r : Int), .int .u16 (ma.w.1 : Int), .int .u32 (ma.w.2 : Int), .bool mh, .int .i64 mc.kind, .int .u16 (mc.fr.1 : Int), .int .u32 (mc.fr.2 : Int), .int .u64 (mc.num : Int), .int .u64 (mc.vw : Int), .slice me.ba mc.data.length me.bc, .int .u64 (mc.v.id : Int), .slice me.ma mc.v.mem.length me.mc, .slice me.la mc.v.lvs.length me.lc, .slice me.da mc.v.ldr.length me.dc, .int .u64 (mv.id : Int), .slice mx.ma mv.mem.length mx.mc, .slice mx.la mv.lvs.length mx.lc, .slice mx.da mv.ldr.length mx.dc, .slice my m7 mz]] w (Ret fun v w' => ∃ (aa1 : Option Addr) (ac1 : Nat), v = .bool false ∧ St B w0 w' (row 69 gx #[.int .u16 (se.1 : Int), .int .u32 (se.2 : Int), .int .u32 (sn.r : Int), .int .u16 (sn.w.1 : Int), .int .u32 (sn.w.2 : Int), .int .u32 (bl.r : Int), .int .u16 (bl.w.1 : Int), .int .u32 (bl.w.2 : Int), .int .i64 ph, .slice la ld.length lc, .int .u64 (sl : Int), .bool hs, .int .u32 (un.r : Int), .int .u16 (un.w.1 : Int), .int .u32 (un.w.2 : Int), .int .i64 c.kind, .int .u16 (c.fr.1 : Int), .int .u32 (c.fr.2 : Int), .int .u64 (c.num : Int), .int .u64 (c.vw : Int), .slice hd.ba c.data.length hd.bc, .int .u64 (c.v.id : Int), .slice hd.ma c.v.mem.length hd.mc, .slice hd.la c.v.lvs.length hd.lc, .slice hd.da c.v.ldr.length hd.dc, .slice aa1 an.length ac1] :: slc 36 2 (.slice aa1 an.length ac1) an.length (pv an) :: L)) := by
  refine (ransw_ok gx se sn bl ph la lc ld sl hs un c hd aa ac an p0 k0 q kd m1 m2 m3 m5 m6 ms mb ma mh mc me mv mx my m7 mz hn hl false (decide_eq_false h) w H).mono ?_
  rintro e1 w1 ⟨v, rfl, rfl, aa1, ac1, H2⟩
  exact ⟨_, rfl, aa1, ac1, rfl, H2⟩
theorem xsee_ok {B : Nat} {w0 : World} {L : List Res} {G1 : Nat → Prop} (gx m : Nat) (b : Bl) (hb : b.r < 4294967296) (X : Res) (hX : XaR B w0 G1 gx m X) (w : World) (H : St B w0 w (X :: L)) :
    Calls Try.prog 74 #[.pointer (some ⟨gx, 0, none⟩), .agg #[.int .u32 (b.r : Int), .int .u16 (b.w.1 : Int), .int .u32 (b.w.2 : Int)]] w (Ret fun v w' => v = .tuple #[] ∧ XS B w0 G1 w' gx m L) := by
  obtain ⟨se, sn, bl, ph, la, lc, ld, sl, hs, un, c, hd, aa, ac, an, hI, rfl⟩ := hX
  replace H := H.part
  refine (rsee_ok gx se sn bl ph la lc ld sl hs un c hd aa ac an b _ rfl w H).mono ?_
  rintro e1 w1 ⟨v, rfl, rfl, H2⟩
  exact ⟨_, rfl, rfl, XS.of gx se _ bl ph la lc ld sl hs un c hd aa ac an rfl (hI.cs (by split; exact hb; exact hI.sr)) H2⟩
theorem xstop_ok {B : Nat} {w0 : World} {L : List Res} {G1 : Nat → Prop} (gx m : Nat) (X : Res) (hX : XaR B w0 G1 gx m X) (w : World) (H : St B w0 w (X :: L)) :
    Calls Try.prog 76 #[.pointer (some ⟨gx, 0, none⟩)] w (Ret fun v w' => v = .tuple #[] ∧ XS B w0 G1 w' gx m L) := by
  obtain ⟨se, sn, bl, ph, la, lc, ld, sl, hs, un, c, hd, aa, ac, an, hI, rfl⟩ := hX
  replace H := H.part
  refine (rstop_ok gx se sn bl ph la lc ld sl hs un c hd aa ac an w H).mono ?_
  rintro e1 w1 ⟨v, rfl, rfl, H2⟩
  exact ⟨_, rfl, rfl, XS.of gx se sn bl 0 la lc ld sl false bl0 cm0 hd0 aa ac an rfl (hI.cm0 hI.sr) H2⟩
theorem xmove_ok {B : Nat} {w0 : World} {L : List Res} {G1 : Nat → Prop} (gx m s : Nat) (X : Res) (hX : XaR B w0 G1 gx m X) (w : World) (H : St B w0 w (X :: L)) :
    Calls Try.prog 75 #[.pointer (some ⟨gx, 0, none⟩), .int .u64 (s : Int)] w (Ret fun v w' => ∃ e : Bool, v = .bool e ∧ XS B w0 G1 w' gx m L) := by
  obtain ⟨se, sn, bl, ph, la, lc, ld, sl, hs, un, c, hd, aa, ac, an, hI, rfl⟩ := hX
  replace H := H.part
  refine (rmove_ok gx se sn bl ph la lc ld sl hs un c hd aa ac an s w H).mono ?_
  rintro e1 w1 ⟨v, rfl, e, rfl, H2⟩
  cases e
  · exact ⟨_, rfl, _, rfl, XS.of gx se sn bl ph la lc ld sl hs un c hd aa ac an rfl hI H2⟩
  · exact ⟨_, rfl, _, rfl, XS.of gx se sn bl 0 la lc ld sl false bl0 cm0 hd0 aa ac an rfl (hI.cm0 hI.sr) H2⟩
theorem xnack_ok {B : Nat} {w0 : World} {L : List Res} {G1 : Nat → Prop} (gx m : Nat) (kd m1 m2 m3 m5 m6 : Int) (ms : Nat) (mb ma : Bl) (mh : Bool) (mc : Cm) (me : Hd) (mv : Vw) (mx : Hd) (my : Option Addr) (m7 mz : Nat) (hb : mb.r < 4294967296) (X : Res) (hX : XaR B w0 G1 gx m X) (w : World) (H : St B w0 w (X :: L)) :
    Calls Try.prog 73 #[.pointer (some ⟨gx, 0, none⟩), .agg #[.int .i64 kd, .int .u16 m1, .int .u32 m2, .int .u64 m3, .int .u64 (ms : Int), .int .u64 m5, .int .i64 m6, .int .u32 (mb.r : Int), .int .u16 (mb.w.1 : Int), .int .u32 (mb.w.2 : Int), .int .u32 (ma.r : Int), .int .u16 (ma.w.1 : Int), .int .u32 (ma.w.2 : Int), .bool mh, .int .i64 mc.kind, .int .u16 (mc.fr.1 : Int), .int .u32 (mc.fr.2 : Int), .int .u64 (mc.num : Int), .int .u64 (mc.vw : Int), .slice me.ba mc.data.length me.bc, .int .u64 (mc.v.id : Int), .slice me.ma mc.v.mem.length me.mc, .slice me.la mc.v.lvs.length me.lc, .slice me.da mc.v.ldr.length me.dc, .int .u64 (mv.id : Int), .slice mx.ma mv.mem.length mx.mc, .slice mx.la mv.lvs.length mx.lc, .slice mx.da mv.ldr.length mx.dc, .slice my m7 mz]] w (Ret fun v w' => ∃ e : Bool, v = .bool e ∧ XS B w0 G1 w' gx m L) := by
  obtain ⟨se, sn, bl, ph, la, lc, ld, sl, hs, un, c, hd, aa, ac, an, hI, rfl⟩ := hX
  replace H := H.part
  refine (rnack_ok gx se sn bl ph la lc ld sl hs un c hd aa ac an kd m1 m2 m3 m5 m6 ms mb ma mh mc me mv mx my m7 mz w H).mono ?_
  rintro e1 w1 ⟨v, rfl, e, s2, rfl, hs2, H2⟩
  cases e
  · exact ⟨_, rfl, _, rfl, XS.of gx se sn bl ph la lc ld sl hs un c hd aa ac an rfl hI H2⟩
  · exact ⟨_, rfl, _, rfl, XS.of gx se s2 bl 0 la lc ld sl false bl0 cm0 hd0 aa ac an rfl (hI.cm0 (by rcases hs2 with rfl | rfl; exact hI.sr; exact hb)) H2⟩
theorem xstart_ok {B : Nat} {w0 : World} {L : List Res} {G1 : Nat → Prop} (gx m : Nat) (x : Vw) (xa xl xr : Option Addr) (xc xd xe : Nat) (s0 : Nat) (hm : smV x)
    (hx : Rd B w0 [] fun W => VwG G1 W (.slice xa x.mem.length xc) (.slice xl x.lvs.length xd) (.slice xr x.ldr.length xe) x) (X : Res) (hX : XaR B w0 G1 gx m X) (w : World) (H : St B w0 w (X :: L)) :
    Calls Try.prog 70 #[.pointer (some ⟨gx, 0, none⟩), .agg #[.int .u64 (x.id : Int), .slice xa x.mem.length xc, .slice xl x.lvs.length xd, .slice xr x.ldr.length xe], .int .u64 (s0 : Int)] w (Ret fun v w' => ∃ (b : Bl) (i : Int), v = .tuple #[.agg #[.int .u32 (b.r : Int), .int .u16 (b.w.1 : Int), .int .u32 (b.w.2 : Int)], .int .i64 i] ∧ XS B w0 G1 w' gx m L) := by
  obtain ⟨se, sn, bl, ph, la, lc, ld, sl, hs, un, c, hd, aa, ac, an, hI, rfl⟩ := hX
  replace H := H.part
  refine (rstart_ok gx se sn bl ph la lc ld sl hs un c hd aa ac an x xa xl xr xc xd xe s0 hm hI.sr (hx.mono fun r hr => absurd hr List.not_mem_nil) w H).mono ?_
  rintro e1 w1 ⟨v, rfl, b, i, rfl, H2⟩
  rcases H2 with H2 | ⟨hlt, H2⟩
  · exact ⟨_, rfl, b, i, rfl, XS.of gx se sn bl ph la lc ld sl hs un c hd aa ac an rfl hI H2⟩
  · refine ⟨_, rfl, b, i, rfl, XS.of gx se ⟨sn.r + 1, se⟩ ⟨sn.r + 1, se⟩ 1 xr xe x.ldr s0 false bl0 cm0 hd0 none 0 [] rfl ⟨Nat.zero_le _, cm0_sm, by show sn.r + 1 < 4294967296; omega, fun W q1 q2 => (hx W q1 q2).ldrS.sl, fun W _ _ => CmG.nil _ _ 0⟩ H2⟩
theorem xprop_ok {B : Nat} {w0 : World} {L : List Res} {G1 : Nat → Prop} (gx m : Nat) (cn : Cm) (e : Hd) (hmn : smC cn) (hx : Rd B w0 [] fun W => CmG G1 W (.slice e.ba cn.data.length e.bc) (.slice e.ma cn.v.mem.length e.mc) (.slice e.la cn.v.lvs.length e.lc) (.slice e.da cn.v.ldr.length e.dc) cn) (X : Res) (hX : XaR B w0 G1 gx m X) (w : World) (H : St B w0 w (X :: L)) :
    Calls Try.prog 72 #[.pointer (some ⟨gx, 0, none⟩), .agg (cmH cn e)] w (Ret fun v w' => ∃ (cv : Cm) (hv : Hd) (i : Int), v = .tuple #[.agg (cmH cv hv), .int .i64 i] ∧ Hid (smC cv ∧ Rd B w0 [] fun W => CmG G1 W (.slice hv.ba cv.data.length hv.bc) (.slice hv.ma cv.v.mem.length hv.mc) (.slice hv.la cv.v.lvs.length hv.lc) (.slice hv.da cv.v.ldr.length hv.dc) cv) ∧ XS B w0 G1 w' gx m L) := by
  obtain ⟨se, sn, bl, ph, la, lc, ld, sl, hs, un, c, hd, aa, ac, an, hI, rfl⟩ := hX
  replace H := H.part
  refine (rprop_ok gx se sn bl ph la lc ld sl hs un c hd aa ac an cn e hmn (hx.mono fun r hr => absurd hr List.not_mem_nil) w H).mono ?_
  rintro e1 w1 ⟨v, rfl, cv, hv, i, rfl, hcv, H2⟩
  refine ⟨_, rfl, cv, hv, i, rfl, ?_, ?_⟩
  · rcases hcv with ⟨rfl, rfl⟩ | ⟨rfl, rfl⟩ | ⟨rfl, rfl⟩
    · exact Lib.hid ⟨cm0_sm, fun W _ _ => CmG.nil _ _ 0⟩
    · exact Lib.hid ⟨hI.sm, hI.x⟩
    · exact Lib.hid ⟨hmn, hx⟩
  · rcases H2 with H2 | H2 | H2
    · exact XS.of gx se sn bl ph la lc ld sl hs un c hd aa ac an rfl hI H2
    · exact XS.of gx se sn bl 3 la lc ld sl hs un c hd none 0 [] rfl (hI.ca (Nat.zero_le _)) H2
    · exact XS.of gx se sn bl 3 la lc ld sl true bl cn e none 0 [] rfl ((hI.ca (Nat.zero_le _)).cc hmn hx) H2
theorem xprom_ok {B : Nat} {w0 : World} {L : List Res} {G1 : Nat → Prop} (gx m : Nat) (q : Pr) (kd m1 m2 m3 m5 m6 : Int) (ms : Nat) (mb ma : Bl) (mh : Bool) (mc : Cm) (me : Hd) (mv : Vw) (mx : Hd) (my : Option Addr) (m7 mz : Nat) (hm : smC mc) (hx : Rd B w0 [] fun W => CmG G1 W (.slice me.ba mc.data.length me.bc) (.slice me.ma mc.v.mem.length me.mc) (.slice me.la mc.v.lvs.length me.lc) (.slice me.da mc.v.ldr.length me.dc) mc) (hmm : m ≤ 1000) (X : Res) (hX : XaR B w0 G1 gx m X) (w : World) (H : St B w0 w (X :: L)) :
    Calls Try.prog 71 #[.pointer (some ⟨gx, 0, none⟩), .agg #[.int .u16 (q.1 : Int), .int .u32 (q.2 : Int)], .agg #[.int .i64 kd, .int .u16 m1, .int .u32 m2, .int .u64 m3, .int .u64 (ms : Int), .int .u64 m5, .int .i64 m6, .int .u32 (mb.r : Int), .int .u16 (mb.w.1 : Int), .int .u32 (mb.w.2 : Int), .int .u32 (ma.r : Int), .int .u16 (ma.w.1 : Int), .int .u32 (ma.w.2 : Int), .bool mh, .int .i64 mc.kind, .int .u16 (mc.fr.1 : Int), .int .u32 (mc.fr.2 : Int), .int .u64 (mc.num : Int), .int .u64 (mc.vw : Int), .slice me.ba mc.data.length me.bc, .int .u64 (mc.v.id : Int), .slice me.ma mc.v.mem.length me.mc, .slice me.la mc.v.lvs.length me.lc, .slice me.da mc.v.ldr.length me.dc, .int .u64 (mv.id : Int), .slice mx.ma mv.mem.length mx.mc, .slice mx.la mv.lvs.length mx.lc, .slice mx.da mv.ldr.length mx.dc, .slice my m7 mz]] w (Ret fun v w' => ∃ e : Bool, v = .bool e ∧ XS B w0 G1 w' gx (m + 1) L) := by
  obtain ⟨se, sn, bl, ph, la, lc, ld, sl, hs, un, c, hd, aa, ac, an, hI, rfl⟩ := hX
  replace H := H.part
  have hn : an.length ≤ 1000 := Nat.le_trans hI.an hmm
  have HL : Hid (∀ L', Rd B w0 L' fun W => Sl W 2 ld.length (.slice la ld.length lc) (elQ ld)) := Lib.hid (fun L' => hI.l.mono fun r hr => absurd hr List.not_mem_nil)
  have HI := Lib.hid hI
  have HXM := Lib.hid hx
  have HMM := Lib.hid hm
  have HAN := Lib.hid hI.an
  clear hI hx hm hmm
  by_cases h : ph = 1 ∧ kd = 5 ∧ ms = sl ∧ mb = bl ∧ q ∈ ld ∧ q ∉ an
  · have HR := Lib.hid h
    obtain ⟨N, hN⟩ : ∃ N, an.length + 1 = N := ⟨_, rfl⟩
    have HN := Lib.hid hN
    have hNl : (an ++ [q]).length = N := by rw [List.length_append]; exact hN
    have HNM : Hid ((an ++ [q]).length ≤ m + 1) := Lib.hid (by have := HAN.out; omega)
    have hN1 : N ≤ 1001 := by omega
    have HW2 : Hid (IntKind.i64.wrap (2 * (N : Int)) = ((2 * N : Nat) : Int)) := Lib.hid (by rw [IntKind.wrap_i64]; omega)
    have hNL := Lib.hid hNl
    clear h hN
    cases mh
    · by_cases hle : 2 * N ≤ ld.length
      · have HLE : Hid (decide (((2 * N : Nat) : Int) ≤ (ld.length : Int)) = true) := Lib.hid (decide_eq_true (by omega))
        clear hle
        go_enter Try.func71, Try.ntmps71
        go_wp2_with (first | (go_at_call 109; (with_reducible refine (ransw_yes gx se sn bl ph la lc ld sl hs un c hd aa ac an 1 5 q kd m1 m2 m3 m5 m6 ms mb ma false mc me mv mx my m7 mz hn (HL.out _) HR.out N HN.out _ ((H.pull (r := slc 36 2 (.slice aa an.length ac) an.length (pv an)) pU).pull (r := row 69 gx #[.int .u16 (se.1 : Int), .int .u32 (se.2 : Int), .int .u32 (sn.r : Int), .int .u16 (sn.w.1 : Int), .int .u32 (sn.w.2 : Int), .int .u32 (bl.r : Int), .int .u16 (bl.w.1 : Int), .int .u32 (bl.w.2 : Int), .int .i64 ph, .slice la ld.length lc, .int .u64 (sl : Int), .bool hs, .int .u32 (un.r : Int), .int .u16 (un.w.1 : Int), .int .u32 (un.w.2 : Int), .int .i64 c.kind, .int .u16 (c.fr.1 : Int), .int .u32 (c.fr.2 : Int), .int .u64 (c.num : Int), .int .u64 (c.vw : Int), .slice hd.ba c.data.length hd.bc, .int .u64 (c.v.id : Int), .slice hd.ma c.v.mem.length hd.mc, .slice hd.la c.v.lvs.length hd.lc, .slice hd.da c.v.ldr.length hd.dc, .slice aa an.length ac]) pU)).mono ?_); rintro e w1 ⟨v, rfl, hr⟩; obtain ⟨aa1, ac1, rfl, H2⟩ := hr; clear H; have H := H2; clear H2) | (with_reducible refine wpl rfl (Stp.box 4 rfl rfl rfl H ?_); clear H; intro g4 w1 H; simp only [pS]; simp only [pE, nC, pS] at H) | (with_reducible refine wpl rfl (Stp.box 5 rfl rfl rfl H ?_); clear H; intro g5 w1 H; simp only [pS]; simp only [pE, nC, pS] at H) | (with_reducible refine wpl rfl (Stp.ldr rfl agg36 size36 rfl H mR sZ ?_); simp only [pS]) | (with_reducible refine wpl rfl (Stp.ldr rfl agg74 size74 rfl H mR sZ ?_); simp only [pS]))
        refine rg_begin 18 rfl (S := fun W => St _ _ W (row 69 gx #[.int .u16 (se.1 : Int), .int .u32 (se.2 : Int), .int .u32 (sn.r : Int), .int .u16 (sn.w.1 : Int), .int .u32 (sn.w.2 : Int), .int .u32 (bl.r : Int), .int .u16 (bl.w.1 : Int), .int .u32 (bl.w.2 : Int), .int .i64 ph, .slice la ld.length lc, .int .u64 (sl : Int), .bool hs, .int .u32 (un.r : Int), .int .u16 (un.w.1 : Int), .int .u32 (un.w.2 : Int), .int .i64 c.kind, .int .u16 (c.fr.1 : Int), .int .u32 (c.fr.2 : Int), .int .u64 (c.num : Int), .int .u64 (c.vw : Int), .slice hd.ba c.data.length hd.bc, .int .u64 (c.v.id : Int), .slice hd.ma c.v.mem.length hd.mc, .slice hd.la c.v.lvs.length hd.lc, .slice hd.da c.v.ldr.length hd.dc, .slice aa1 N ac1] :: row 74 g5 #[.int .i64 kd, .int .u16 m1, .int .u32 m2, .int .u64 m3, .int .u64 (ms : Int), .int .u64 m5, .int .i64 m6, .int .u32 (mb.r : Int), .int .u16 (mb.w.1 : Int), .int .u32 (mb.w.2 : Int), .int .u32 (ma.r : Int), .int .u16 (ma.w.1 : Int), .int .u32 (ma.w.2 : Int), .bool false, .int .i64 mc.kind, .int .u16 (mc.fr.1 : Int), .int .u32 (mc.fr.2 : Int), .int .u64 (mc.num : Int), .int .u64 (mc.vw : Int), .slice me.ba mc.data.length me.bc, .int .u64 (mc.v.id : Int), .slice me.ma mc.v.mem.length me.mc, .slice me.la mc.v.lvs.length me.lc, .slice me.da mc.v.ldr.length me.dc, .int .u64 (mv.id : Int), .slice mx.ma mv.mem.length mx.mc, .slice mx.la mv.lvs.length mx.lc, .slice mx.da mv.ldr.length mx.dc, .slice my m7 mz] :: [])) (by kernel_rfl) (H.drew.sub sU) ?_
        replace H := H.drew
        have HS := H
        refine rg_take (i := 0) rfl kR kR kR (Yld.o rfl) (H.sub sU) ?_; simp only [pS]
        first | (refine rg_take (i := 1) rfl kR kR kR (Yld.ldc rfl rfl agg4 rfl mR cE) (H.sub sU) ?_; simp only [pS]) | (refine rg_take (i := 1) rfl kR kR kR (Yld.ldo rfl rfl agg4 rfl (by assumption) (by assumption)) (H.sub sU) ?_; simp only [pS])
        refine rg_take (i := 2) rfl kR kR kR (Yld.move rfl rfl) (H.sub sU) ?_; simp only [pS, pE]
        refine rg_take (i := 3) rfl kR kR kR (Yld.skip rfl) (H.sub sU) ?_; simp only [pS]
        refine rg_take (i := 4) rfl kR kR kR (Yld.skip rfl) (H.sub sU) ?_; simp only [pS]
        refine rg_take (i := 5) rfl kR kR kR (Yld.skip rfl) (H.sub sU) ?_; simp only [pS]
        refine rg_take (i := 6) rfl kR kR kR (Yld.skip rfl) (H.sub sU) ?_; simp only [pS]
        refine rg_take (i := 7) rfl kR kR kR (Yld.skip rfl) (H.sub sU) ?_; simp only [pS]
        refine rg_take (i := 8) rfl kR kR kR (Yld.skip rfl) (H.sub sU) ?_; simp only [pS]
        refine rg_take (i := 9) rfl kR kR kR (Yld.skip rfl) (H.sub sU) ?_; simp only [pS]
        refine rg_take (i := 10) rfl kR kR kR (Yld.skip rfl) (H.sub sU) ?_; simp only [pS]
        refine rg_take (i := 11) rfl kR kR kR (Yld.skip rfl) (H.sub sU) ?_; simp only [pS]
        refine rg_take (i := 12) rfl kR kR kR (Yld.skip rfl) (H.sub sU) ?_; simp only [pS]
        refine rg_take (i := 13) rfl kR kR kR (Yld.skip rfl) (H.sub sU) ?_; simp only [pS]
        refine rg_take (i := 14) rfl kR kR kR (Yld.skip rfl) (H.sub sU) ?_; simp only [pS]
        refine rg_take (i := 15) rfl kR kR kR (Yld.skip rfl) (H.sub sU) ?_; simp only [pS]
        refine rg_take (i := 16) rfl kR kR kR (Yld.skip rfl) (H.sub sU) ?_; simp only [pS]
        refine rg_take (i := 17) rfl kR kR kR (Yld.pick rfl rfl rfl) (H.sub sU) ?_; simp only [pS, pE]
        refine rg_done (by kernel_rfl) ?_
        go_wp2_with fail
        refine rg_begin 12 rfl (S := fun W => St _ _ W (row 69 gx #[.int .u16 (se.1 : Int), .int .u32 (se.2 : Int), .int .u32 (sn.r : Int), .int .u16 (sn.w.1 : Int), .int .u32 (sn.w.2 : Int), .int .u32 (bl.r : Int), .int .u16 (bl.w.1 : Int), .int .u32 (bl.w.2 : Int), .int .i64 ph, .slice la ld.length lc, .int .u64 (sl : Int), .bool hs, .int .u32 (un.r : Int), .int .u16 (un.w.1 : Int), .int .u32 (un.w.2 : Int), .int .i64 c.kind, .int .u16 (c.fr.1 : Int), .int .u32 (c.fr.2 : Int), .int .u64 (c.num : Int), .int .u64 (c.vw : Int), .slice hd.ba c.data.length hd.bc, .int .u64 (c.v.id : Int), .slice hd.ma c.v.mem.length hd.mc, .slice hd.la c.v.lvs.length hd.lc, .slice hd.da c.v.ldr.length hd.dc, .slice aa1 N ac1] :: [])) (by kernel_rfl) (H.drew.sub sU) ?_
        replace H := H.drew
        have HS := H
        refine rg_take (i := 0) rfl kR kR kR (Yld.move rfl rfl) (H.sub sU) ?_; simp only [pS, pE]
        refine rg_take (i := 1) rfl kR kR kR (Yld.o rfl) (H.sub sU) ?_; simp only [pS]
        refine rg_take (i := 2) rfl kR kR kR (Yld.o rfl) (H.sub sU) ?_; simp only [pS]
        first | (refine rg_take (i := 3) rfl kR kR kR (Yld.ldc rfl rfl agg23 rfl mR cE) (H.sub sU) ?_; simp only [pS]) | (refine rg_take (i := 3) rfl kR kR kR (Yld.ldo rfl rfl agg23 rfl (by assumption) (by assumption)) (H.sub sU) ?_; simp only [pS])
        refine rg_take (i := 4) rfl kR kR kR (Yld.o rfl) (H.sub sU) ?_; simp only [pS]
        refine rg_take (i := 5) rfl kR kR kR (Yld.of (v := .int .i64 ((2 * N : Nat) : Int)) rfl (fun W _ => by go_simp; first | done | exact HW2.out | (rw [HW2.out]))) (H.sub sU) ?_; simp only [pS, pE]
        refine rg_take (i := 6) rfl kR kR kR (Yld.move rfl rfl) (H.sub sU) ?_; simp only [pS, pE]
        refine rg_take (i := 7) rfl kR kR kR (Yld.o rfl) (H.sub sU) ?_; simp only [pS]
        refine rg_take (i := 8) rfl kR kR kR (Yld.o rfl) (H.sub sU) ?_; simp only [pS]
        first | (refine rg_take (i := 9) rfl kR kR kR (Yld.ldc rfl rfl agg23 rfl mR cE) (H.sub sU) ?_; simp only [pS]) | (refine rg_take (i := 9) rfl kR kR kR (Yld.ldo rfl rfl agg23 rfl (by assumption) (by assumption)) (H.sub sU) ?_; simp only [pS])
        refine rg_take (i := 10) rfl kR kR kR (Yld.o rfl) (H.sub sU) ?_; simp only [pS]
        refine rg_take (i := 11) rfl kR kR kR (Yld.of (v := .bool true) rfl (fun W _ => by go_simp; first | done | exact HLE.out | (rw [HLE.out]) | (simpa using HLE.out) | (have hq := HLE.out; omega) | (have hq := HLE.out; simp at hq ⊢; omega))) (H.sub sU) ?_; simp only [pS, pE]
        refine rg_done (by kernel_rfl) ?_
        go_wp2_with fail
        go_ret
        exact ⟨_, rfl, false, rfl, XS.of gx se sn bl ph la lc ld sl hs un c hd aa1 ac1 (an ++ [q]) hNl (HI.out.ca HNM.out)  (((H.pull (r := slc 36 2 (.slice aa1 N ac1) N (pv (an ++ [q]))) pU).pull (r := row 69 gx _) pU).sub sU)⟩
      · have HLE : Hid (decide (((2 * N : Nat) : Int) ≤ (ld.length : Int)) = false) := Lib.hid (decide_eq_false (by omega))
        clear hle
        go_enter Try.func71, Try.ntmps71
        go_wp2_with (first | (go_at_call 109; (with_reducible refine (ransw_yes gx se sn bl ph la lc ld sl hs un c hd aa ac an 1 5 q kd m1 m2 m3 m5 m6 ms mb ma false mc me mv mx my m7 mz hn (HL.out _) HR.out N HN.out _ ((H.pull (r := slc 36 2 (.slice aa an.length ac) an.length (pv an)) pU).pull (r := row 69 gx #[.int .u16 (se.1 : Int), .int .u32 (se.2 : Int), .int .u32 (sn.r : Int), .int .u16 (sn.w.1 : Int), .int .u32 (sn.w.2 : Int), .int .u32 (bl.r : Int), .int .u16 (bl.w.1 : Int), .int .u32 (bl.w.2 : Int), .int .i64 ph, .slice la ld.length lc, .int .u64 (sl : Int), .bool hs, .int .u32 (un.r : Int), .int .u16 (un.w.1 : Int), .int .u32 (un.w.2 : Int), .int .i64 c.kind, .int .u16 (c.fr.1 : Int), .int .u32 (c.fr.2 : Int), .int .u64 (c.num : Int), .int .u64 (c.vw : Int), .slice hd.ba c.data.length hd.bc, .int .u64 (c.v.id : Int), .slice hd.ma c.v.mem.length hd.mc, .slice hd.la c.v.lvs.length hd.lc, .slice hd.da c.v.ldr.length hd.dc, .slice aa an.length ac]) pU)).mono ?_); rintro e w1 ⟨v, rfl, hr⟩; obtain ⟨aa1, ac1, rfl, H2⟩ := hr; clear H; have H := H2; clear H2) | (with_reducible refine wpl rfl (Stp.box 4 rfl rfl rfl H ?_); clear H; intro g4 w1 H; simp only [pS]; simp only [pE, nC, pS] at H) | (with_reducible refine wpl rfl (Stp.box 5 rfl rfl rfl H ?_); clear H; intro g5 w1 H; simp only [pS]; simp only [pE, nC, pS] at H) | (with_reducible refine wpl rfl (Stp.ldr rfl agg36 size36 rfl H mR sZ ?_); simp only [pS]) | (with_reducible refine wpl rfl (Stp.ldr rfl agg74 size74 rfl H mR sZ ?_); simp only [pS]))
        refine rg_begin 18 rfl (S := fun W => St _ _ W (row 69 gx #[.int .u16 (se.1 : Int), .int .u32 (se.2 : Int), .int .u32 (sn.r : Int), .int .u16 (sn.w.1 : Int), .int .u32 (sn.w.2 : Int), .int .u32 (bl.r : Int), .int .u16 (bl.w.1 : Int), .int .u32 (bl.w.2 : Int), .int .i64 ph, .slice la ld.length lc, .int .u64 (sl : Int), .bool hs, .int .u32 (un.r : Int), .int .u16 (un.w.1 : Int), .int .u32 (un.w.2 : Int), .int .i64 c.kind, .int .u16 (c.fr.1 : Int), .int .u32 (c.fr.2 : Int), .int .u64 (c.num : Int), .int .u64 (c.vw : Int), .slice hd.ba c.data.length hd.bc, .int .u64 (c.v.id : Int), .slice hd.ma c.v.mem.length hd.mc, .slice hd.la c.v.lvs.length hd.lc, .slice hd.da c.v.ldr.length hd.dc, .slice aa1 N ac1] :: row 74 g5 #[.int .i64 kd, .int .u16 m1, .int .u32 m2, .int .u64 m3, .int .u64 (ms : Int), .int .u64 m5, .int .i64 m6, .int .u32 (mb.r : Int), .int .u16 (mb.w.1 : Int), .int .u32 (mb.w.2 : Int), .int .u32 (ma.r : Int), .int .u16 (ma.w.1 : Int), .int .u32 (ma.w.2 : Int), .bool false, .int .i64 mc.kind, .int .u16 (mc.fr.1 : Int), .int .u32 (mc.fr.2 : Int), .int .u64 (mc.num : Int), .int .u64 (mc.vw : Int), .slice me.ba mc.data.length me.bc, .int .u64 (mc.v.id : Int), .slice me.ma mc.v.mem.length me.mc, .slice me.la mc.v.lvs.length me.lc, .slice me.da mc.v.ldr.length me.dc, .int .u64 (mv.id : Int), .slice mx.ma mv.mem.length mx.mc, .slice mx.la mv.lvs.length mx.lc, .slice mx.da mv.ldr.length mx.dc, .slice my m7 mz] :: [])) (by kernel_rfl) (H.drew.sub sU) ?_
        replace H := H.drew
        have HS := H
        refine rg_take (i := 0) rfl kR kR kR (Yld.o rfl) (H.sub sU) ?_; simp only [pS]
        first | (refine rg_take (i := 1) rfl kR kR kR (Yld.ldc rfl rfl agg4 rfl mR cE) (H.sub sU) ?_; simp only [pS]) | (refine rg_take (i := 1) rfl kR kR kR (Yld.ldo rfl rfl agg4 rfl (by assumption) (by assumption)) (H.sub sU) ?_; simp only [pS])
        refine rg_take (i := 2) rfl kR kR kR (Yld.move rfl rfl) (H.sub sU) ?_; simp only [pS, pE]
        refine rg_take (i := 3) rfl kR kR kR (Yld.skip rfl) (H.sub sU) ?_; simp only [pS]
        refine rg_take (i := 4) rfl kR kR kR (Yld.skip rfl) (H.sub sU) ?_; simp only [pS]
        refine rg_take (i := 5) rfl kR kR kR (Yld.skip rfl) (H.sub sU) ?_; simp only [pS]
        refine rg_take (i := 6) rfl kR kR kR (Yld.skip rfl) (H.sub sU) ?_; simp only [pS]
        refine rg_take (i := 7) rfl kR kR kR (Yld.skip rfl) (H.sub sU) ?_; simp only [pS]
        refine rg_take (i := 8) rfl kR kR kR (Yld.skip rfl) (H.sub sU) ?_; simp only [pS]
        refine rg_take (i := 9) rfl kR kR kR (Yld.skip rfl) (H.sub sU) ?_; simp only [pS]
        refine rg_take (i := 10) rfl kR kR kR (Yld.skip rfl) (H.sub sU) ?_; simp only [pS]
        refine rg_take (i := 11) rfl kR kR kR (Yld.skip rfl) (H.sub sU) ?_; simp only [pS]
        refine rg_take (i := 12) rfl kR kR kR (Yld.skip rfl) (H.sub sU) ?_; simp only [pS]
        refine rg_take (i := 13) rfl kR kR kR (Yld.skip rfl) (H.sub sU) ?_; simp only [pS]
        refine rg_take (i := 14) rfl kR kR kR (Yld.skip rfl) (H.sub sU) ?_; simp only [pS]
        refine rg_take (i := 15) rfl kR kR kR (Yld.skip rfl) (H.sub sU) ?_; simp only [pS]
        refine rg_take (i := 16) rfl kR kR kR (Yld.skip rfl) (H.sub sU) ?_; simp only [pS]
        refine rg_take (i := 17) rfl kR kR kR (Yld.pick rfl rfl rfl) (H.sub sU) ?_; simp only [pS, pE]
        refine rg_done (by kernel_rfl) ?_
        go_wp2_with fail
        refine rg_begin 12 rfl (S := fun W => St _ _ W (row 69 gx #[.int .u16 (se.1 : Int), .int .u32 (se.2 : Int), .int .u32 (sn.r : Int), .int .u16 (sn.w.1 : Int), .int .u32 (sn.w.2 : Int), .int .u32 (bl.r : Int), .int .u16 (bl.w.1 : Int), .int .u32 (bl.w.2 : Int), .int .i64 ph, .slice la ld.length lc, .int .u64 (sl : Int), .bool hs, .int .u32 (un.r : Int), .int .u16 (un.w.1 : Int), .int .u32 (un.w.2 : Int), .int .i64 c.kind, .int .u16 (c.fr.1 : Int), .int .u32 (c.fr.2 : Int), .int .u64 (c.num : Int), .int .u64 (c.vw : Int), .slice hd.ba c.data.length hd.bc, .int .u64 (c.v.id : Int), .slice hd.ma c.v.mem.length hd.mc, .slice hd.la c.v.lvs.length hd.lc, .slice hd.da c.v.ldr.length hd.dc, .slice aa1 N ac1] :: [])) (by kernel_rfl) (H.drew.sub sU) ?_
        replace H := H.drew
        have HS := H
        refine rg_take (i := 0) rfl kR kR kR (Yld.move rfl rfl) (H.sub sU) ?_; simp only [pS, pE]
        refine rg_take (i := 1) rfl kR kR kR (Yld.o rfl) (H.sub sU) ?_; simp only [pS]
        refine rg_take (i := 2) rfl kR kR kR (Yld.o rfl) (H.sub sU) ?_; simp only [pS]
        first | (refine rg_take (i := 3) rfl kR kR kR (Yld.ldc rfl rfl agg23 rfl mR cE) (H.sub sU) ?_; simp only [pS]) | (refine rg_take (i := 3) rfl kR kR kR (Yld.ldo rfl rfl agg23 rfl (by assumption) (by assumption)) (H.sub sU) ?_; simp only [pS])
        refine rg_take (i := 4) rfl kR kR kR (Yld.o rfl) (H.sub sU) ?_; simp only [pS]
        refine rg_take (i := 5) rfl kR kR kR (Yld.of (v := .int .i64 ((2 * N : Nat) : Int)) rfl (fun W _ => by go_simp; first | done | exact HW2.out | (rw [HW2.out]))) (H.sub sU) ?_; simp only [pS, pE]
        refine rg_take (i := 6) rfl kR kR kR (Yld.move rfl rfl) (H.sub sU) ?_; simp only [pS, pE]
        refine rg_take (i := 7) rfl kR kR kR (Yld.o rfl) (H.sub sU) ?_; simp only [pS]
        refine rg_take (i := 8) rfl kR kR kR (Yld.o rfl) (H.sub sU) ?_; simp only [pS]
        first | (refine rg_take (i := 9) rfl kR kR kR (Yld.ldc rfl rfl agg23 rfl mR cE) (H.sub sU) ?_; simp only [pS]) | (refine rg_take (i := 9) rfl kR kR kR (Yld.ldo rfl rfl agg23 rfl (by assumption) (by assumption)) (H.sub sU) ?_; simp only [pS])
        refine rg_take (i := 10) rfl kR kR kR (Yld.o rfl) (H.sub sU) ?_; simp only [pS]
        refine rg_take (i := 11) rfl kR kR kR (Yld.of (v := .bool false) rfl (fun W _ => by go_simp; first | done | exact HLE.out | (rw [HLE.out]) | (simpa using HLE.out) | (have hq := HLE.out; omega) | (have hq := HLE.out; simp at hq ⊢; omega))) (H.sub sU) ?_; simp only [pS, pE]
        refine rg_done (by kernel_rfl) ?_
        go_wp2_with (first | (with_reducible refine wpl rfl (Stp.stc rfl size3 rfl rfl rfl rfl H uP (by first | omega | (simp; done) | (simp; omega)) ?_); clear H; intro w1 H; simp only [pS]; simp only [pE, nC, pS] at H))
        go_ret
        exact ⟨_, rfl, true, rfl, XS.of gx se sn bl 2 la lc ld sl hs un c hd aa1 ac1 (an ++ [q]) hNl (HI.out.ca HNM.out)  (((H.pull (r := slc 36 2 (.slice aa1 N ac1) N (pv (an ++ [q]))) pU).pull (r := row 69 gx _) pU).sub sU)⟩
    · cases hs
      · by_cases hle : 2 * N ≤ ld.length
        · have HLE : Hid (decide (((2 * N : Nat) : Int) ≤ (ld.length : Int)) = true) := Lib.hid (decide_eq_true (by omega))
          clear hle
          go_enter Try.func71, Try.ntmps71
          go_wp2_with (first | (go_at_call 109; (with_reducible refine (ransw_yes gx se sn bl ph la lc ld sl false un c hd aa ac an 1 5 q kd m1 m2 m3 m5 m6 ms mb ma true mc me mv mx my m7 mz hn (HL.out _) HR.out N HN.out _ ((H.pull (r := slc 36 2 (.slice aa an.length ac) an.length (pv an)) pU).pull (r := row 69 gx #[.int .u16 (se.1 : Int), .int .u32 (se.2 : Int), .int .u32 (sn.r : Int), .int .u16 (sn.w.1 : Int), .int .u32 (sn.w.2 : Int), .int .u32 (bl.r : Int), .int .u16 (bl.w.1 : Int), .int .u32 (bl.w.2 : Int), .int .i64 ph, .slice la ld.length lc, .int .u64 (sl : Int), .bool false, .int .u32 (un.r : Int), .int .u16 (un.w.1 : Int), .int .u32 (un.w.2 : Int), .int .i64 c.kind, .int .u16 (c.fr.1 : Int), .int .u32 (c.fr.2 : Int), .int .u64 (c.num : Int), .int .u64 (c.vw : Int), .slice hd.ba c.data.length hd.bc, .int .u64 (c.v.id : Int), .slice hd.ma c.v.mem.length hd.mc, .slice hd.la c.v.lvs.length hd.lc, .slice hd.da c.v.ldr.length hd.dc, .slice aa an.length ac]) pU)).mono ?_); rintro e w1 ⟨v, rfl, hr⟩; obtain ⟨aa1, ac1, rfl, H2⟩ := hr; clear H; have H := H2; clear H2) | (with_reducible refine wpl rfl (Stp.box 4 rfl rfl rfl H ?_); clear H; intro g4 w1 H; simp only [pS]; simp only [pE, nC, pS] at H) | (with_reducible refine wpl rfl (Stp.box 5 rfl rfl rfl H ?_); clear H; intro g5 w1 H; simp only [pS]; simp only [pE, nC, pS] at H) | (with_reducible refine wpl rfl (Stp.ldr rfl agg36 size36 rfl H mR sZ ?_); simp only [pS]) | (with_reducible refine wpl rfl (Stp.ldr rfl agg74 size74 rfl H mR sZ ?_); simp only [pS]))
          refine rg_begin 18 rfl (S := fun W => St _ _ W (row 69 gx #[.int .u16 (se.1 : Int), .int .u32 (se.2 : Int), .int .u32 (sn.r : Int), .int .u16 (sn.w.1 : Int), .int .u32 (sn.w.2 : Int), .int .u32 (bl.r : Int), .int .u16 (bl.w.1 : Int), .int .u32 (bl.w.2 : Int), .int .i64 ph, .slice la ld.length lc, .int .u64 (sl : Int), .bool false, .int .u32 (un.r : Int), .int .u16 (un.w.1 : Int), .int .u32 (un.w.2 : Int), .int .i64 c.kind, .int .u16 (c.fr.1 : Int), .int .u32 (c.fr.2 : Int), .int .u64 (c.num : Int), .int .u64 (c.vw : Int), .slice hd.ba c.data.length hd.bc, .int .u64 (c.v.id : Int), .slice hd.ma c.v.mem.length hd.mc, .slice hd.la c.v.lvs.length hd.lc, .slice hd.da c.v.ldr.length hd.dc, .slice aa1 N ac1] :: row 74 g5 #[.int .i64 kd, .int .u16 m1, .int .u32 m2, .int .u64 m3, .int .u64 (ms : Int), .int .u64 m5, .int .i64 m6, .int .u32 (mb.r : Int), .int .u16 (mb.w.1 : Int), .int .u32 (mb.w.2 : Int), .int .u32 (ma.r : Int), .int .u16 (ma.w.1 : Int), .int .u32 (ma.w.2 : Int), .bool true, .int .i64 mc.kind, .int .u16 (mc.fr.1 : Int), .int .u32 (mc.fr.2 : Int), .int .u64 (mc.num : Int), .int .u64 (mc.vw : Int), .slice me.ba mc.data.length me.bc, .int .u64 (mc.v.id : Int), .slice me.ma mc.v.mem.length me.mc, .slice me.la mc.v.lvs.length me.lc, .slice me.da mc.v.ldr.length me.dc, .int .u64 (mv.id : Int), .slice mx.ma mv.mem.length mx.mc, .slice mx.la mv.lvs.length mx.lc, .slice mx.da mv.ldr.length mx.dc, .slice my m7 mz] :: [])) (by kernel_rfl) (H.drew.sub sU) ?_
          replace H := H.drew
          have HS := H
          refine rg_take (i := 0) rfl kR kR kR (Yld.o rfl) (H.sub sU) ?_; simp only [pS]
          first | (refine rg_take (i := 1) rfl kR kR kR (Yld.ldc rfl rfl agg4 rfl mR cE) (H.sub sU) ?_; simp only [pS]) | (refine rg_take (i := 1) rfl kR kR kR (Yld.ldo rfl rfl agg4 rfl (by assumption) (by assumption)) (H.sub sU) ?_; simp only [pS])
          refine rg_take (i := 2) rfl kR kR kR (Yld.move rfl rfl) (H.sub sU) ?_; simp only [pS, pE]
          refine rg_take (i := 3) rfl kR kR kR (Yld.move rfl rfl) (H.sub sU) ?_; simp only [pS, pE]
          refine rg_take (i := 4) rfl kR kR kR (Yld.o rfl) (H.sub sU) ?_; simp only [pS]
          refine rg_take (i := 5) rfl kR kR kR (Yld.o rfl) (H.sub sU) ?_; simp only [pS]
          first | (refine rg_take (i := 6) rfl kR kR kR (Yld.ldc rfl rfl agg4 rfl mR cE) (H.sub sU) ?_; simp only [pS]) | (refine rg_take (i := 6) rfl kR kR kR (Yld.ldo rfl rfl agg4 rfl (by assumption) (by assumption)) (H.sub sU) ?_; simp only [pS])
          refine rg_take (i := 7) rfl kR kR kR (Yld.o rfl) (H.sub sU) ?_; simp only [pS]
          refine rg_take (i := 8) rfl kR kR kR (Yld.move rfl rfl) (H.sub sU) ?_; simp only [pS, pE]
          refine rg_take (i := 9) rfl kR kR kR (Yld.skip rfl) (H.sub sU) ?_; simp only [pS]
          refine rg_take (i := 10) rfl kR kR kR (Yld.skip rfl) (H.sub sU) ?_; simp only [pS]
          refine rg_take (i := 11) rfl kR kR kR (Yld.skip rfl) (H.sub sU) ?_; simp only [pS]
          refine rg_take (i := 12) rfl kR kR kR (Yld.skip rfl) (H.sub sU) ?_; simp only [pS]
          refine rg_take (i := 13) rfl kR kR kR (Yld.skip rfl) (H.sub sU) ?_; simp only [pS]
          refine rg_take (i := 14) rfl kR kR kR (Yld.skip rfl) (H.sub sU) ?_; simp only [pS]
          refine rg_take (i := 15) rfl kR kR kR (Yld.skip rfl) (H.sub sU) ?_; simp only [pS]
          refine rg_take (i := 16) rfl kR kR kR (Yld.pick rfl rfl rfl) (H.sub sU) ?_; simp only [pS, pE]
          refine rg_take (i := 17) rfl kR kR kR (Yld.pick rfl rfl rfl) (H.sub sU) ?_; simp only [pS, pE]
          refine rg_done (by kernel_rfl) ?_
          go_wp2_with (first | (with_reducible refine wpl rfl (Stp.stc rfl size4 rfl rfl rfl rfl H uP (by first | omega | (simp; done) | (simp; omega)) ?_); clear H; intro w1 H; simp only [pS]; simp only [pE, nC, pS] at H) | (with_reducible refine wpl rfl (Stp.ldl rfl agg67 size67 rfl H mR (by simp) ?_); simp only [pS]; simp only [List.drop_succ_cons, List.drop_zero, List.take_succ_cons, List.take_zero]) | (with_reducible refine wpl rfl (Stp.stl rfl size67 rfl rfl rfl rfl H uP (by simp) ?_); clear H; intro w1 H; simp only [pS]; simp only [List.drop_succ_cons, List.drop_zero, List.take_succ_cons, List.take_zero, List.nil_append, List.cons_append, Nat.reduceAdd] at H) | (with_reducible refine wpl rfl (Stp.ldl rfl agg43 size43 rfl H mR (by simp) ?_); simp only [pS]; simp only [List.drop_succ_cons, List.drop_zero, List.take_succ_cons, List.take_zero]) | (with_reducible refine wpl rfl (Stp.stl rfl size43 rfl rfl rfl rfl H uP (by simp) ?_); clear H; intro w1 H; simp only [pS]; simp only [List.drop_succ_cons, List.drop_zero, List.take_succ_cons, List.take_zero, List.nil_append, List.cons_append, Nat.reduceAdd] at H))
          refine rg_begin 12 rfl (S := fun W => St _ _ W (row 69 gx #[.int .u16 (se.1 : Int), .int .u32 (se.2 : Int), .int .u32 (sn.r : Int), .int .u16 (sn.w.1 : Int), .int .u32 (sn.w.2 : Int), .int .u32 (bl.r : Int), .int .u16 (bl.w.1 : Int), .int .u32 (bl.w.2 : Int), .int .i64 ph, .slice la ld.length lc, .int .u64 (sl : Int), .bool true, .int .u32 (ma.r : Int), .int .u16 (ma.w.1 : Int), .int .u32 (ma.w.2 : Int), .int .i64 mc.kind, .int .u16 (mc.fr.1 : Int), .int .u32 (mc.fr.2 : Int), .int .u64 (mc.num : Int), .int .u64 (mc.vw : Int), .slice me.ba mc.data.length me.bc, .int .u64 (mc.v.id : Int), .slice me.ma mc.v.mem.length me.mc, .slice me.la mc.v.lvs.length me.lc, .slice me.da mc.v.ldr.length me.dc, .slice aa1 N ac1] :: [])) (by kernel_rfl) (H.drew.sub sU) ?_
          replace H := H.drew
          have HS := H
          refine rg_take (i := 0) rfl kR kR kR (Yld.move rfl rfl) (H.sub sU) ?_; simp only [pS, pE]
          refine rg_take (i := 1) rfl kR kR kR (Yld.o rfl) (H.sub sU) ?_; simp only [pS]
          refine rg_take (i := 2) rfl kR kR kR (Yld.o rfl) (H.sub sU) ?_; simp only [pS]
          first | (refine rg_take (i := 3) rfl kR kR kR (Yld.ldc rfl rfl agg23 rfl mR cE) (H.sub sU) ?_; simp only [pS]) | (refine rg_take (i := 3) rfl kR kR kR (Yld.ldo rfl rfl agg23 rfl (by assumption) (by assumption)) (H.sub sU) ?_; simp only [pS])
          refine rg_take (i := 4) rfl kR kR kR (Yld.o rfl) (H.sub sU) ?_; simp only [pS]
          refine rg_take (i := 5) rfl kR kR kR (Yld.of (v := .int .i64 ((2 * N : Nat) : Int)) rfl (fun W _ => by go_simp; first | done | exact HW2.out | (rw [HW2.out]))) (H.sub sU) ?_; simp only [pS, pE]
          refine rg_take (i := 6) rfl kR kR kR (Yld.move rfl rfl) (H.sub sU) ?_; simp only [pS, pE]
          refine rg_take (i := 7) rfl kR kR kR (Yld.o rfl) (H.sub sU) ?_; simp only [pS]
          refine rg_take (i := 8) rfl kR kR kR (Yld.o rfl) (H.sub sU) ?_; simp only [pS]
          first | (refine rg_take (i := 9) rfl kR kR kR (Yld.ldc rfl rfl agg23 rfl mR cE) (H.sub sU) ?_; simp only [pS]) | (refine rg_take (i := 9) rfl kR kR kR (Yld.ldo rfl rfl agg23 rfl (by assumption) (by assumption)) (H.sub sU) ?_; simp only [pS])
          refine rg_take (i := 10) rfl kR kR kR (Yld.o rfl) (H.sub sU) ?_; simp only [pS]
          refine rg_take (i := 11) rfl kR kR kR (Yld.of (v := .bool true) rfl (fun W _ => by go_simp; first | done | exact HLE.out | (rw [HLE.out]) | (simpa using HLE.out) | (have hq := HLE.out; omega) | (have hq := HLE.out; simp at hq ⊢; omega))) (H.sub sU) ?_; simp only [pS, pE]
          refine rg_done (by kernel_rfl) ?_
          go_wp2_with fail
          go_ret
          exact ⟨_, rfl, false, rfl, XS.of gx se sn bl ph la lc ld sl true ma mc me aa1 ac1 (an ++ [q]) hNl ((HI.out.ca HNM.out).cc HMM.out HXM.out)  (((H.pull (r := slc 36 2 (.slice aa1 N ac1) N (pv (an ++ [q]))) pU).pull (r := row 69 gx _) pU).sub sU)⟩
        · have HLE : Hid (decide (((2 * N : Nat) : Int) ≤ (ld.length : Int)) = false) := Lib.hid (decide_eq_false (by omega))
          clear hle
          go_enter Try.func71, Try.ntmps71
          go_wp2_with (first | (go_at_call 109; (with_reducible refine (ransw_yes gx se sn bl ph la lc ld sl false un c hd aa ac an 1 5 q kd m1 m2 m3 m5 m6 ms mb ma true mc me mv mx my m7 mz hn (HL.out _) HR.out N HN.out _ ((H.pull (r := slc 36 2 (.slice aa an.length ac) an.length (pv an)) pU).pull (r := row 69 gx #[.int .u16 (se.1 : Int), .int .u32 (se.2 : Int), .int .u32 (sn.r : Int), .int .u16 (sn.w.1 : Int), .int .u32 (sn.w.2 : Int), .int .u32 (bl.r : Int), .int .u16 (bl.w.1 : Int), .int .u32 (bl.w.2 : Int), .int .i64 ph, .slice la ld.length lc, .int .u64 (sl : Int), .bool false, .int .u32 (un.r : Int), .int .u16 (un.w.1 : Int), .int .u32 (un.w.2 : Int), .int .i64 c.kind, .int .u16 (c.fr.1 : Int), .int .u32 (c.fr.2 : Int), .int .u64 (c.num : Int), .int .u64 (c.vw : Int), .slice hd.ba c.data.length hd.bc, .int .u64 (c.v.id : Int), .slice hd.ma c.v.mem.length hd.mc, .slice hd.la c.v.lvs.length hd.lc, .slice hd.da c.v.ldr.length hd.dc, .slice aa an.length ac]) pU)).mono ?_); rintro e w1 ⟨v, rfl, hr⟩; obtain ⟨aa1, ac1, rfl, H2⟩ := hr; clear H; have H := H2; clear H2) | (with_reducible refine wpl rfl (Stp.box 4 rfl rfl rfl H ?_); clear H; intro g4 w1 H; simp only [pS]; simp only [pE, nC, pS] at H) | (with_reducible refine wpl rfl (Stp.box 5 rfl rfl rfl H ?_); clear H; intro g5 w1 H; simp only [pS]; simp only [pE, nC, pS] at H) | (with_reducible refine wpl rfl (Stp.ldr rfl agg36 size36 rfl H mR sZ ?_); simp only [pS]) | (with_reducible refine wpl rfl (Stp.ldr rfl agg74 size74 rfl H mR sZ ?_); simp only [pS]))
          refine rg_begin 18 rfl (S := fun W => St _ _ W (row 69 gx #[.int .u16 (se.1 : Int), .int .u32 (se.2 : Int), .int .u32 (sn.r : Int), .int .u16 (sn.w.1 : Int), .int .u32 (sn.w.2 : Int), .int .u32 (bl.r : Int), .int .u16 (bl.w.1 : Int), .int .u32 (bl.w.2 : Int), .int .i64 ph, .slice la ld.length lc, .int .u64 (sl : Int), .bool false, .int .u32 (un.r : Int), .int .u16 (un.w.1 : Int), .int .u32 (un.w.2 : Int), .int .i64 c.kind, .int .u16 (c.fr.1 : Int), .int .u32 (c.fr.2 : Int), .int .u64 (c.num : Int), .int .u64 (c.vw : Int), .slice hd.ba c.data.length hd.bc, .int .u64 (c.v.id : Int), .slice hd.ma c.v.mem.length hd.mc, .slice hd.la c.v.lvs.length hd.lc, .slice hd.da c.v.ldr.length hd.dc, .slice aa1 N ac1] :: row 74 g5 #[.int .i64 kd, .int .u16 m1, .int .u32 m2, .int .u64 m3, .int .u64 (ms : Int), .int .u64 m5, .int .i64 m6, .int .u32 (mb.r : Int), .int .u16 (mb.w.1 : Int), .int .u32 (mb.w.2 : Int), .int .u32 (ma.r : Int), .int .u16 (ma.w.1 : Int), .int .u32 (ma.w.2 : Int), .bool true, .int .i64 mc.kind, .int .u16 (mc.fr.1 : Int), .int .u32 (mc.fr.2 : Int), .int .u64 (mc.num : Int), .int .u64 (mc.vw : Int), .slice me.ba mc.data.length me.bc, .int .u64 (mc.v.id : Int), .slice me.ma mc.v.mem.length me.mc, .slice me.la mc.v.lvs.length me.lc, .slice me.da mc.v.ldr.length me.dc, .int .u64 (mv.id : Int), .slice mx.ma mv.mem.length mx.mc, .slice mx.la mv.lvs.length mx.lc, .slice mx.da mv.ldr.length mx.dc, .slice my m7 mz] :: [])) (by kernel_rfl) (H.drew.sub sU) ?_
          replace H := H.drew
          have HS := H
          refine rg_take (i := 0) rfl kR kR kR (Yld.o rfl) (H.sub sU) ?_; simp only [pS]
          first | (refine rg_take (i := 1) rfl kR kR kR (Yld.ldc rfl rfl agg4 rfl mR cE) (H.sub sU) ?_; simp only [pS]) | (refine rg_take (i := 1) rfl kR kR kR (Yld.ldo rfl rfl agg4 rfl (by assumption) (by assumption)) (H.sub sU) ?_; simp only [pS])
          refine rg_take (i := 2) rfl kR kR kR (Yld.move rfl rfl) (H.sub sU) ?_; simp only [pS, pE]
          refine rg_take (i := 3) rfl kR kR kR (Yld.move rfl rfl) (H.sub sU) ?_; simp only [pS, pE]
          refine rg_take (i := 4) rfl kR kR kR (Yld.o rfl) (H.sub sU) ?_; simp only [pS]
          refine rg_take (i := 5) rfl kR kR kR (Yld.o rfl) (H.sub sU) ?_; simp only [pS]
          first | (refine rg_take (i := 6) rfl kR kR kR (Yld.ldc rfl rfl agg4 rfl mR cE) (H.sub sU) ?_; simp only [pS]) | (refine rg_take (i := 6) rfl kR kR kR (Yld.ldo rfl rfl agg4 rfl (by assumption) (by assumption)) (H.sub sU) ?_; simp only [pS])
          refine rg_take (i := 7) rfl kR kR kR (Yld.o rfl) (H.sub sU) ?_; simp only [pS]
          refine rg_take (i := 8) rfl kR kR kR (Yld.move rfl rfl) (H.sub sU) ?_; simp only [pS, pE]
          refine rg_take (i := 9) rfl kR kR kR (Yld.skip rfl) (H.sub sU) ?_; simp only [pS]
          refine rg_take (i := 10) rfl kR kR kR (Yld.skip rfl) (H.sub sU) ?_; simp only [pS]
          refine rg_take (i := 11) rfl kR kR kR (Yld.skip rfl) (H.sub sU) ?_; simp only [pS]
          refine rg_take (i := 12) rfl kR kR kR (Yld.skip rfl) (H.sub sU) ?_; simp only [pS]
          refine rg_take (i := 13) rfl kR kR kR (Yld.skip rfl) (H.sub sU) ?_; simp only [pS]
          refine rg_take (i := 14) rfl kR kR kR (Yld.skip rfl) (H.sub sU) ?_; simp only [pS]
          refine rg_take (i := 15) rfl kR kR kR (Yld.skip rfl) (H.sub sU) ?_; simp only [pS]
          refine rg_take (i := 16) rfl kR kR kR (Yld.pick rfl rfl rfl) (H.sub sU) ?_; simp only [pS, pE]
          refine rg_take (i := 17) rfl kR kR kR (Yld.pick rfl rfl rfl) (H.sub sU) ?_; simp only [pS, pE]
          refine rg_done (by kernel_rfl) ?_
          go_wp2_with (first | (with_reducible refine wpl rfl (Stp.stc rfl size4 rfl rfl rfl rfl H uP (by first | omega | (simp; done) | (simp; omega)) ?_); clear H; intro w1 H; simp only [pS]; simp only [pE, nC, pS] at H) | (with_reducible refine wpl rfl (Stp.ldl rfl agg67 size67 rfl H mR (by simp) ?_); simp only [pS]; simp only [List.drop_succ_cons, List.drop_zero, List.take_succ_cons, List.take_zero]) | (with_reducible refine wpl rfl (Stp.stl rfl size67 rfl rfl rfl rfl H uP (by simp) ?_); clear H; intro w1 H; simp only [pS]; simp only [List.drop_succ_cons, List.drop_zero, List.take_succ_cons, List.take_zero, List.nil_append, List.cons_append, Nat.reduceAdd] at H) | (with_reducible refine wpl rfl (Stp.ldl rfl agg43 size43 rfl H mR (by simp) ?_); simp only [pS]; simp only [List.drop_succ_cons, List.drop_zero, List.take_succ_cons, List.take_zero]) | (with_reducible refine wpl rfl (Stp.stl rfl size43 rfl rfl rfl rfl H uP (by simp) ?_); clear H; intro w1 H; simp only [pS]; simp only [List.drop_succ_cons, List.drop_zero, List.take_succ_cons, List.take_zero, List.nil_append, List.cons_append, Nat.reduceAdd] at H))
          refine rg_begin 12 rfl (S := fun W => St _ _ W (row 69 gx #[.int .u16 (se.1 : Int), .int .u32 (se.2 : Int), .int .u32 (sn.r : Int), .int .u16 (sn.w.1 : Int), .int .u32 (sn.w.2 : Int), .int .u32 (bl.r : Int), .int .u16 (bl.w.1 : Int), .int .u32 (bl.w.2 : Int), .int .i64 ph, .slice la ld.length lc, .int .u64 (sl : Int), .bool true, .int .u32 (ma.r : Int), .int .u16 (ma.w.1 : Int), .int .u32 (ma.w.2 : Int), .int .i64 mc.kind, .int .u16 (mc.fr.1 : Int), .int .u32 (mc.fr.2 : Int), .int .u64 (mc.num : Int), .int .u64 (mc.vw : Int), .slice me.ba mc.data.length me.bc, .int .u64 (mc.v.id : Int), .slice me.ma mc.v.mem.length me.mc, .slice me.la mc.v.lvs.length me.lc, .slice me.da mc.v.ldr.length me.dc, .slice aa1 N ac1] :: [])) (by kernel_rfl) (H.drew.sub sU) ?_
          replace H := H.drew
          have HS := H
          refine rg_take (i := 0) rfl kR kR kR (Yld.move rfl rfl) (H.sub sU) ?_; simp only [pS, pE]
          refine rg_take (i := 1) rfl kR kR kR (Yld.o rfl) (H.sub sU) ?_; simp only [pS]
          refine rg_take (i := 2) rfl kR kR kR (Yld.o rfl) (H.sub sU) ?_; simp only [pS]
          first | (refine rg_take (i := 3) rfl kR kR kR (Yld.ldc rfl rfl agg23 rfl mR cE) (H.sub sU) ?_; simp only [pS]) | (refine rg_take (i := 3) rfl kR kR kR (Yld.ldo rfl rfl agg23 rfl (by assumption) (by assumption)) (H.sub sU) ?_; simp only [pS])
          refine rg_take (i := 4) rfl kR kR kR (Yld.o rfl) (H.sub sU) ?_; simp only [pS]
          refine rg_take (i := 5) rfl kR kR kR (Yld.of (v := .int .i64 ((2 * N : Nat) : Int)) rfl (fun W _ => by go_simp; first | done | exact HW2.out | (rw [HW2.out]))) (H.sub sU) ?_; simp only [pS, pE]
          refine rg_take (i := 6) rfl kR kR kR (Yld.move rfl rfl) (H.sub sU) ?_; simp only [pS, pE]
          refine rg_take (i := 7) rfl kR kR kR (Yld.o rfl) (H.sub sU) ?_; simp only [pS]
          refine rg_take (i := 8) rfl kR kR kR (Yld.o rfl) (H.sub sU) ?_; simp only [pS]
          first | (refine rg_take (i := 9) rfl kR kR kR (Yld.ldc rfl rfl agg23 rfl mR cE) (H.sub sU) ?_; simp only [pS]) | (refine rg_take (i := 9) rfl kR kR kR (Yld.ldo rfl rfl agg23 rfl (by assumption) (by assumption)) (H.sub sU) ?_; simp only [pS])
          refine rg_take (i := 10) rfl kR kR kR (Yld.o rfl) (H.sub sU) ?_; simp only [pS]
          refine rg_take (i := 11) rfl kR kR kR (Yld.of (v := .bool false) rfl (fun W _ => by go_simp; first | done | exact HLE.out | (rw [HLE.out]) | (simpa using HLE.out) | (have hq := HLE.out; omega) | (have hq := HLE.out; simp at hq ⊢; omega))) (H.sub sU) ?_; simp only [pS, pE]
          refine rg_done (by kernel_rfl) ?_
          go_wp2_with (first | (with_reducible refine wpl rfl (Stp.stc rfl size3 rfl rfl rfl rfl H uP (by first | omega | (simp; done) | (simp; omega)) ?_); clear H; intro w1 H; simp only [pS]; simp only [pE, nC, pS] at H))
          go_ret
          exact ⟨_, rfl, true, rfl, XS.of gx se sn bl 2 la lc ld sl true ma mc me aa1 ac1 (an ++ [q]) hNl ((HI.out.ca HNM.out).cc HMM.out HXM.out)  (((H.pull (r := slc 36 2 (.slice aa1 N ac1) N (pv (an ++ [q]))) pU).pull (r := row 69 gx _) pU).sub sU)⟩
      · cases hbf : blt un ma
        · have HBF := Lib.hid hbf
          clear hbf
          by_cases hle : 2 * N ≤ ld.length
          · have HLE : Hid (decide (((2 * N : Nat) : Int) ≤ (ld.length : Int)) = true) := Lib.hid (decide_eq_true (by omega))
            clear hle
            go_enter Try.func71, Try.ntmps71
            go_wp2_with (first | (go_at_call 109; (with_reducible refine (ransw_yes gx se sn bl ph la lc ld sl true un c hd aa ac an 1 5 q kd m1 m2 m3 m5 m6 ms mb ma true mc me mv mx my m7 mz hn (HL.out _) HR.out N HN.out _ ((H.pull (r := slc 36 2 (.slice aa an.length ac) an.length (pv an)) pU).pull (r := row 69 gx #[.int .u16 (se.1 : Int), .int .u32 (se.2 : Int), .int .u32 (sn.r : Int), .int .u16 (sn.w.1 : Int), .int .u32 (sn.w.2 : Int), .int .u32 (bl.r : Int), .int .u16 (bl.w.1 : Int), .int .u32 (bl.w.2 : Int), .int .i64 ph, .slice la ld.length lc, .int .u64 (sl : Int), .bool true, .int .u32 (un.r : Int), .int .u16 (un.w.1 : Int), .int .u32 (un.w.2 : Int), .int .i64 c.kind, .int .u16 (c.fr.1 : Int), .int .u32 (c.fr.2 : Int), .int .u64 (c.num : Int), .int .u64 (c.vw : Int), .slice hd.ba c.data.length hd.bc, .int .u64 (c.v.id : Int), .slice hd.ma c.v.mem.length hd.mc, .slice hd.la c.v.lvs.length hd.lc, .slice hd.da c.v.ldr.length hd.dc, .slice aa an.length ac]) pU)).mono ?_); rintro e w1 ⟨v, rfl, hr⟩; obtain ⟨aa1, ac1, rfl, H2⟩ := hr; clear H; have H := H2; clear H2) | (with_reducible refine wpl rfl (Stp.box 4 rfl rfl rfl H ?_); clear H; intro g4 w1 H; simp only [pS]; simp only [pE, nC, pS] at H) | (with_reducible refine wpl rfl (Stp.box 5 rfl rfl rfl H ?_); clear H; intro g5 w1 H; simp only [pS]; simp only [pE, nC, pS] at H) | (with_reducible refine wpl rfl (Stp.ldr rfl agg36 size36 rfl H mR sZ ?_); simp only [pS]) | (with_reducible refine wpl rfl (Stp.ldr rfl agg74 size74 rfl H mR sZ ?_); simp only [pS]))
            refine rg_begin 18 rfl (S := fun W => St _ _ W (row 69 gx #[.int .u16 (se.1 : Int), .int .u32 (se.2 : Int), .int .u32 (sn.r : Int), .int .u16 (sn.w.1 : Int), .int .u32 (sn.w.2 : Int), .int .u32 (bl.r : Int), .int .u16 (bl.w.1 : Int), .int .u32 (bl.w.2 : Int), .int .i64 ph, .slice la ld.length lc, .int .u64 (sl : Int), .bool true, .int .u32 (un.r : Int), .int .u16 (un.w.1 : Int), .int .u32 (un.w.2 : Int), .int .i64 c.kind, .int .u16 (c.fr.1 : Int), .int .u32 (c.fr.2 : Int), .int .u64 (c.num : Int), .int .u64 (c.vw : Int), .slice hd.ba c.data.length hd.bc, .int .u64 (c.v.id : Int), .slice hd.ma c.v.mem.length hd.mc, .slice hd.la c.v.lvs.length hd.lc, .slice hd.da c.v.ldr.length hd.dc, .slice aa1 N ac1] :: row 74 g5 #[.int .i64 kd, .int .u16 m1, .int .u32 m2, .int .u64 m3, .int .u64 (ms : Int), .int .u64 m5, .int .i64 m6, .int .u32 (mb.r : Int), .int .u16 (mb.w.1 : Int), .int .u32 (mb.w.2 : Int), .int .u32 (ma.r : Int), .int .u16 (ma.w.1 : Int), .int .u32 (ma.w.2 : Int), .bool true, .int .i64 mc.kind, .int .u16 (mc.fr.1 : Int), .int .u32 (mc.fr.2 : Int), .int .u64 (mc.num : Int), .int .u64 (mc.vw : Int), .slice me.ba mc.data.length me.bc, .int .u64 (mc.v.id : Int), .slice me.ma mc.v.mem.length me.mc, .slice me.la mc.v.lvs.length me.lc, .slice me.da mc.v.ldr.length me.dc, .int .u64 (mv.id : Int), .slice mx.ma mv.mem.length mx.mc, .slice mx.la mv.lvs.length mx.lc, .slice mx.da mv.ldr.length mx.dc, .slice my m7 mz] :: [])) (by kernel_rfl) (H.drew.sub sU) ?_
            replace H := H.drew
            have HS := H
            refine rg_take (i := 0) rfl kR kR kR (Yld.o rfl) (H.sub sU) ?_; simp only [pS]
            first | (refine rg_take (i := 1) rfl kR kR kR (Yld.ldc rfl rfl agg4 rfl mR cE) (H.sub sU) ?_; simp only [pS]) | (refine rg_take (i := 1) rfl kR kR kR (Yld.ldo rfl rfl agg4 rfl (by assumption) (by assumption)) (H.sub sU) ?_; simp only [pS])
            refine rg_take (i := 2) rfl kR kR kR (Yld.move rfl rfl) (H.sub sU) ?_; simp only [pS, pE]
            refine rg_take (i := 3) rfl kR kR kR (Yld.move rfl rfl) (H.sub sU) ?_; simp only [pS, pE]
            refine rg_take (i := 4) rfl kR kR kR (Yld.o rfl) (H.sub sU) ?_; simp only [pS]
            refine rg_take (i := 5) rfl kR kR kR (Yld.o rfl) (H.sub sU) ?_; simp only [pS]
            first | (refine rg_take (i := 6) rfl kR kR kR (Yld.ldc rfl rfl agg4 rfl mR cE) (H.sub sU) ?_; simp only [pS]) | (refine rg_take (i := 6) rfl kR kR kR (Yld.ldo rfl rfl agg4 rfl (by assumption) (by assumption)) (H.sub sU) ?_; simp only [pS])
            refine rg_take (i := 7) rfl kR kR kR (Yld.o rfl) (H.sub sU) ?_; simp only [pS]
            refine rg_take (i := 8) rfl kR kR kR (Yld.move rfl rfl) (H.sub sU) ?_; simp only [pS, pE]
            refine rg_take (i := 9) rfl kR kR kR (Yld.move rfl rfl) (H.sub sU) ?_; simp only [pS, pE]
            refine rg_take (i := 10) rfl kR kR kR (Yld.o rfl) (H.sub sU) ?_; simp only [pS]
            refine rg_take (i := 11) rfl kR kR kR (Yld.o rfl) (H.sub sU) ?_; simp only [pS]
            first | (refine rg_take (i := 12) rfl kR kR kR (Yld.ldr rfl rfl agg67 size67 rfl mR sZ) (H.sub sU) ?_; simp only [pS]) | (refine rg_take (i := 12) rfl kR kR kR (Yld.ldl rfl rfl agg67 size67 rfl mR (by simp)) (H.sub sU) ?_; simp only [pS]; simp only [List.drop_succ_cons, List.drop_zero, List.take_succ_cons, List.take_zero]) | (refine rg_take (i := 12) rfl kR kR kR (Yld.ldor rfl rfl agg67 size67 rfl (by assumption) sZ (by assumption)) (H.sub sU) ?_; simp only [pS])
            refine rg_take (i := 13) rfl kR kR kR (Yld.o rfl) (H.sub sU) ?_; simp only [pS]
            first | (refine rg_take (i := 14) rfl kR kR kR (Yld.ldr rfl rfl agg67 size67 rfl mR sZ) (H.sub sU) ?_; simp only [pS]) | (refine rg_take (i := 14) rfl kR kR kR (Yld.ldl rfl rfl agg67 size67 rfl mR (by simp)) (H.sub sU) ?_; simp only [pS]; simp only [List.drop_succ_cons, List.drop_zero, List.take_succ_cons, List.take_zero]) | (refine rg_take (i := 14) rfl kR kR kR (Yld.ldor rfl rfl agg67 size67 rfl (by assumption) sZ (by assumption)) (H.sub sU) ?_; simp only [pS])
            refine rg_one (i := 15) (by kernel_rfl) rfl rfl (fun K hK => ?_)
            refine wp_callf rfl ent33 (rbefore_ok un ma false HBF.out _) rfl (fun v w1 hr => ?_)
            obtain ⟨rfl, hb1⟩ := hr
            replace H := H.grow hb1
            clear hb1
            clear HS
            have HS := H
            refine hK.out _ _ (H.sub sU) ?_
            clear hK K
            simp only [pS]
            refine rg_take (i := 16) rfl kR kR kR (Yld.pick rfl rfl rfl) (H.sub sU) ?_; simp only [pS, pE]
            refine rg_take (i := 17) rfl kR kR kR (Yld.pick rfl rfl rfl) (H.sub sU) ?_; simp only [pS, pE]
            refine rg_done (by kernel_rfl) ?_
            go_wp2_with fail
            refine rg_begin 12 rfl (S := fun W => St _ _ W (row 69 gx #[.int .u16 (se.1 : Int), .int .u32 (se.2 : Int), .int .u32 (sn.r : Int), .int .u16 (sn.w.1 : Int), .int .u32 (sn.w.2 : Int), .int .u32 (bl.r : Int), .int .u16 (bl.w.1 : Int), .int .u32 (bl.w.2 : Int), .int .i64 ph, .slice la ld.length lc, .int .u64 (sl : Int), .bool true, .int .u32 (un.r : Int), .int .u16 (un.w.1 : Int), .int .u32 (un.w.2 : Int), .int .i64 c.kind, .int .u16 (c.fr.1 : Int), .int .u32 (c.fr.2 : Int), .int .u64 (c.num : Int), .int .u64 (c.vw : Int), .slice hd.ba c.data.length hd.bc, .int .u64 (c.v.id : Int), .slice hd.ma c.v.mem.length hd.mc, .slice hd.la c.v.lvs.length hd.lc, .slice hd.da c.v.ldr.length hd.dc, .slice aa1 N ac1] :: [])) (by kernel_rfl) (H.drew.sub sU) ?_
            replace H := H.drew
            have HS := H
            refine rg_take (i := 0) rfl kR kR kR (Yld.move rfl rfl) (H.sub sU) ?_; simp only [pS, pE]
            refine rg_take (i := 1) rfl kR kR kR (Yld.o rfl) (H.sub sU) ?_; simp only [pS]
            refine rg_take (i := 2) rfl kR kR kR (Yld.o rfl) (H.sub sU) ?_; simp only [pS]
            first | (refine rg_take (i := 3) rfl kR kR kR (Yld.ldc rfl rfl agg23 rfl mR cE) (H.sub sU) ?_; simp only [pS]) | (refine rg_take (i := 3) rfl kR kR kR (Yld.ldo rfl rfl agg23 rfl (by assumption) (by assumption)) (H.sub sU) ?_; simp only [pS])
            refine rg_take (i := 4) rfl kR kR kR (Yld.o rfl) (H.sub sU) ?_; simp only [pS]
            refine rg_take (i := 5) rfl kR kR kR (Yld.of (v := .int .i64 ((2 * N : Nat) : Int)) rfl (fun W _ => by go_simp; first | done | exact HW2.out | (rw [HW2.out]))) (H.sub sU) ?_; simp only [pS, pE]
            refine rg_take (i := 6) rfl kR kR kR (Yld.move rfl rfl) (H.sub sU) ?_; simp only [pS, pE]
            refine rg_take (i := 7) rfl kR kR kR (Yld.o rfl) (H.sub sU) ?_; simp only [pS]
            refine rg_take (i := 8) rfl kR kR kR (Yld.o rfl) (H.sub sU) ?_; simp only [pS]
            first | (refine rg_take (i := 9) rfl kR kR kR (Yld.ldc rfl rfl agg23 rfl mR cE) (H.sub sU) ?_; simp only [pS]) | (refine rg_take (i := 9) rfl kR kR kR (Yld.ldo rfl rfl agg23 rfl (by assumption) (by assumption)) (H.sub sU) ?_; simp only [pS])
            refine rg_take (i := 10) rfl kR kR kR (Yld.o rfl) (H.sub sU) ?_; simp only [pS]
            refine rg_take (i := 11) rfl kR kR kR (Yld.of (v := .bool true) rfl (fun W _ => by go_simp; first | done | exact HLE.out | (rw [HLE.out]) | (simpa using HLE.out) | (have hq := HLE.out; omega) | (have hq := HLE.out; simp at hq ⊢; omega))) (H.sub sU) ?_; simp only [pS, pE]
            refine rg_done (by kernel_rfl) ?_
            go_wp2_with fail
            go_ret
            exact ⟨_, rfl, false, rfl, XS.of gx se sn bl ph la lc ld sl true un c hd aa1 ac1 (an ++ [q]) hNl (HI.out.ca HNM.out)  (((H.pull (r := slc 36 2 (.slice aa1 N ac1) N (pv (an ++ [q]))) pU).pull (r := row 69 gx _) pU).sub sU)⟩
          · have HLE : Hid (decide (((2 * N : Nat) : Int) ≤ (ld.length : Int)) = false) := Lib.hid (decide_eq_false (by omega))
            clear hle
            go_enter Try.func71, Try.ntmps71
            go_wp2_with (first | (go_at_call 109; (with_reducible refine (ransw_yes gx se sn bl ph la lc ld sl true un c hd aa ac an 1 5 q kd m1 m2 m3 m5 m6 ms mb ma true mc me mv mx my m7 mz hn (HL.out _) HR.out N HN.out _ ((H.pull (r := slc 36 2 (.slice aa an.length ac) an.length (pv an)) pU).pull (r := row 69 gx #[.int .u16 (se.1 : Int), .int .u32 (se.2 : Int), .int .u32 (sn.r : Int), .int .u16 (sn.w.1 : Int), .int .u32 (sn.w.2 : Int), .int .u32 (bl.r : Int), .int .u16 (bl.w.1 : Int), .int .u32 (bl.w.2 : Int), .int .i64 ph, .slice la ld.length lc, .int .u64 (sl : Int), .bool true, .int .u32 (un.r : Int), .int .u16 (un.w.1 : Int), .int .u32 (un.w.2 : Int), .int .i64 c.kind, .int .u16 (c.fr.1 : Int), .int .u32 (c.fr.2 : Int), .int .u64 (c.num : Int), .int .u64 (c.vw : Int), .slice hd.ba c.data.length hd.bc, .int .u64 (c.v.id : Int), .slice hd.ma c.v.mem.length hd.mc, .slice hd.la c.v.lvs.length hd.lc, .slice hd.da c.v.ldr.length hd.dc, .slice aa an.length ac]) pU)).mono ?_); rintro e w1 ⟨v, rfl, hr⟩; obtain ⟨aa1, ac1, rfl, H2⟩ := hr; clear H; have H := H2; clear H2) | (with_reducible refine wpl rfl (Stp.box 4 rfl rfl rfl H ?_); clear H; intro g4 w1 H; simp only [pS]; simp only [pE, nC, pS] at H) | (with_reducible refine wpl rfl (Stp.box 5 rfl rfl rfl H ?_); clear H; intro g5 w1 H; simp only [pS]; simp only [pE, nC, pS] at H) | (with_reducible refine wpl rfl (Stp.ldr rfl agg36 size36 rfl H mR sZ ?_); simp only [pS]) | (with_reducible refine wpl rfl (Stp.ldr rfl agg74 size74 rfl H mR sZ ?_); simp only [pS]))
            refine rg_begin 18 rfl (S := fun W => St _ _ W (row 69 gx #[.int .u16 (se.1 : Int), .int .u32 (se.2 : Int), .int .u32 (sn.r : Int), .int .u16 (sn.w.1 : Int), .int .u32 (sn.w.2 : Int), .int .u32 (bl.r : Int), .int .u16 (bl.w.1 : Int), .int .u32 (bl.w.2 : Int), .int .i64 ph, .slice la ld.length lc, .int .u64 (sl : Int), .bool true, .int .u32 (un.r : Int), .int .u16 (un.w.1 : Int), .int .u32 (un.w.2 : Int), .int .i64 c.kind, .int .u16 (c.fr.1 : Int), .int .u32 (c.fr.2 : Int), .int .u64 (c.num : Int), .int .u64 (c.vw : Int), .slice hd.ba c.data.length hd.bc, .int .u64 (c.v.id : Int), .slice hd.ma c.v.mem.length hd.mc, .slice hd.la c.v.lvs.length hd.lc, .slice hd.da c.v.ldr.length hd.dc, .slice aa1 N ac1] :: row 74 g5 #[.int .i64 kd, .int .u16 m1, .int .u32 m2, .int .u64 m3, .int .u64 (ms : Int), .int .u64 m5, .int .i64 m6, .int .u32 (mb.r : Int), .int .u16 (mb.w.1 : Int), .int .u32 (mb.w.2 : Int), .int .u32 (ma.r : Int), .int .u16 (ma.w.1 : Int), .int .u32 (ma.w.2 : Int), .bool true, .int .i64 mc.kind, .int .u16 (mc.fr.1 : Int), .int .u32 (mc.fr.2 : Int), .int .u64 (mc.num : Int), .int .u64 (mc.vw : Int), .slice me.ba mc.data.length me.bc, .int .u64 (mc.v.id : Int), .slice me.ma mc.v.mem.length me.mc, .slice me.la mc.v.lvs.length me.lc, .slice me.da mc.v.ldr.length me.dc, .int .u64 (mv.id : Int), .slice mx.ma mv.mem.length mx.mc, .slice mx.la mv.lvs.length mx.lc, .slice mx.da mv.ldr.length mx.dc, .slice my m7 mz] :: [])) (by kernel_rfl) (H.drew.sub sU) ?_
            replace H := H.drew
            have HS := H
            refine rg_take (i := 0) rfl kR kR kR (Yld.o rfl) (H.sub sU) ?_; simp only [pS]
            first | (refine rg_take (i := 1) rfl kR kR kR (Yld.ldc rfl rfl agg4 rfl mR cE) (H.sub sU) ?_; simp only [pS]) | (refine rg_take (i := 1) rfl kR kR kR (Yld.ldo rfl rfl agg4 rfl (by assumption) (by assumption)) (H.sub sU) ?_; simp only [pS])
            refine rg_take (i := 2) rfl kR kR kR (Yld.move rfl rfl) (H.sub sU) ?_; simp only [pS, pE]
            refine rg_take (i := 3) rfl kR kR kR (Yld.move rfl rfl) (H.sub sU) ?_; simp only [pS, pE]
            refine rg_take (i := 4) rfl kR kR kR (Yld.o rfl) (H.sub sU) ?_; simp only [pS]
            refine rg_take (i := 5) rfl kR kR kR (Yld.o rfl) (H.sub sU) ?_; simp only [pS]
            first | (refine rg_take (i := 6) rfl kR kR kR (Yld.ldc rfl rfl agg4 rfl mR cE) (H.sub sU) ?_; simp only [pS]) | (refine rg_take (i := 6) rfl kR kR kR (Yld.ldo rfl rfl agg4 rfl (by assumption) (by assumption)) (H.sub sU) ?_; simp only [pS])
            refine rg_take (i := 7) rfl kR kR kR (Yld.o rfl) (H.sub sU) ?_; simp only [pS]
            refine rg_take (i := 8) rfl kR kR kR (Yld.move rfl rfl) (H.sub sU) ?_; simp only [pS, pE]
            refine rg_take (i := 9) rfl kR kR kR (Yld.move rfl rfl) (H.sub sU) ?_; simp only [pS, pE]
            refine rg_take (i := 10) rfl kR kR kR (Yld.o rfl) (H.sub sU) ?_; simp only [pS]
            refine rg_take (i := 11) rfl kR kR kR (Yld.o rfl) (H.sub sU) ?_; simp only [pS]
            first | (refine rg_take (i := 12) rfl kR kR kR (Yld.ldr rfl rfl agg67 size67 rfl mR sZ) (H.sub sU) ?_; simp only [pS]) | (refine rg_take (i := 12) rfl kR kR kR (Yld.ldl rfl rfl agg67 size67 rfl mR (by simp)) (H.sub sU) ?_; simp only [pS]; simp only [List.drop_succ_cons, List.drop_zero, List.take_succ_cons, List.take_zero]) | (refine rg_take (i := 12) rfl kR kR kR (Yld.ldor rfl rfl agg67 size67 rfl (by assumption) sZ (by assumption)) (H.sub sU) ?_; simp only [pS])
            refine rg_take (i := 13) rfl kR kR kR (Yld.o rfl) (H.sub sU) ?_; simp only [pS]
            first | (refine rg_take (i := 14) rfl kR kR kR (Yld.ldr rfl rfl agg67 size67 rfl mR sZ) (H.sub sU) ?_; simp only [pS]) | (refine rg_take (i := 14) rfl kR kR kR (Yld.ldl rfl rfl agg67 size67 rfl mR (by simp)) (H.sub sU) ?_; simp only [pS]; simp only [List.drop_succ_cons, List.drop_zero, List.take_succ_cons, List.take_zero]) | (refine rg_take (i := 14) rfl kR kR kR (Yld.ldor rfl rfl agg67 size67 rfl (by assumption) sZ (by assumption)) (H.sub sU) ?_; simp only [pS])
            refine rg_one (i := 15) (by kernel_rfl) rfl rfl (fun K hK => ?_)
            refine wp_callf rfl ent33 (rbefore_ok un ma false HBF.out _) rfl (fun v w1 hr => ?_)
            obtain ⟨rfl, hb1⟩ := hr
            replace H := H.grow hb1
            clear hb1
            clear HS
            have HS := H
            refine hK.out _ _ (H.sub sU) ?_
            clear hK K
            simp only [pS]
            refine rg_take (i := 16) rfl kR kR kR (Yld.pick rfl rfl rfl) (H.sub sU) ?_; simp only [pS, pE]
            refine rg_take (i := 17) rfl kR kR kR (Yld.pick rfl rfl rfl) (H.sub sU) ?_; simp only [pS, pE]
            refine rg_done (by kernel_rfl) ?_
            go_wp2_with fail
            refine rg_begin 12 rfl (S := fun W => St _ _ W (row 69 gx #[.int .u16 (se.1 : Int), .int .u32 (se.2 : Int), .int .u32 (sn.r : Int), .int .u16 (sn.w.1 : Int), .int .u32 (sn.w.2 : Int), .int .u32 (bl.r : Int), .int .u16 (bl.w.1 : Int), .int .u32 (bl.w.2 : Int), .int .i64 ph, .slice la ld.length lc, .int .u64 (sl : Int), .bool true, .int .u32 (un.r : Int), .int .u16 (un.w.1 : Int), .int .u32 (un.w.2 : Int), .int .i64 c.kind, .int .u16 (c.fr.1 : Int), .int .u32 (c.fr.2 : Int), .int .u64 (c.num : Int), .int .u64 (c.vw : Int), .slice hd.ba c.data.length hd.bc, .int .u64 (c.v.id : Int), .slice hd.ma c.v.mem.length hd.mc, .slice hd.la c.v.lvs.length hd.lc, .slice hd.da c.v.ldr.length hd.dc, .slice aa1 N ac1] :: [])) (by kernel_rfl) (H.drew.sub sU) ?_
            replace H := H.drew
            have HS := H
            refine rg_take (i := 0) rfl kR kR kR (Yld.move rfl rfl) (H.sub sU) ?_; simp only [pS, pE]
            refine rg_take (i := 1) rfl kR kR kR (Yld.o rfl) (H.sub sU) ?_; simp only [pS]
            refine rg_take (i := 2) rfl kR kR kR (Yld.o rfl) (H.sub sU) ?_; simp only [pS]
            first | (refine rg_take (i := 3) rfl kR kR kR (Yld.ldc rfl rfl agg23 rfl mR cE) (H.sub sU) ?_; simp only [pS]) | (refine rg_take (i := 3) rfl kR kR kR (Yld.ldo rfl rfl agg23 rfl (by assumption) (by assumption)) (H.sub sU) ?_; simp only [pS])
            refine rg_take (i := 4) rfl kR kR kR (Yld.o rfl) (H.sub sU) ?_; simp only [pS]
            refine rg_take (i := 5) rfl kR kR kR (Yld.of (v := .int .i64 ((2 * N : Nat) : Int)) rfl (fun W _ => by go_simp; first | done | exact HW2.out | (rw [HW2.out]))) (H.sub sU) ?_; simp only [pS, pE]
            refine rg_take (i := 6) rfl kR kR kR (Yld.move rfl rfl) (H.sub sU) ?_; simp only [pS, pE]
            refine rg_take (i := 7) rfl kR kR kR (Yld.o rfl) (H.sub sU) ?_; simp only [pS]
            refine rg_take (i := 8) rfl kR kR kR (Yld.o rfl) (H.sub sU) ?_; simp only [pS]
            first | (refine rg_take (i := 9) rfl kR kR kR (Yld.ldc rfl rfl agg23 rfl mR cE) (H.sub sU) ?_; simp only [pS]) | (refine rg_take (i := 9) rfl kR kR kR (Yld.ldo rfl rfl agg23 rfl (by assumption) (by assumption)) (H.sub sU) ?_; simp only [pS])
            refine rg_take (i := 10) rfl kR kR kR (Yld.o rfl) (H.sub sU) ?_; simp only [pS]
            refine rg_take (i := 11) rfl kR kR kR (Yld.of (v := .bool false) rfl (fun W _ => by go_simp; first | done | exact HLE.out | (rw [HLE.out]) | (simpa using HLE.out) | (have hq := HLE.out; omega) | (have hq := HLE.out; simp at hq ⊢; omega))) (H.sub sU) ?_; simp only [pS, pE]
            refine rg_done (by kernel_rfl) ?_
            go_wp2_with (first | (with_reducible refine wpl rfl (Stp.stc rfl size3 rfl rfl rfl rfl H uP (by first | omega | (simp; done) | (simp; omega)) ?_); clear H; intro w1 H; simp only [pS]; simp only [pE, nC, pS] at H))
            go_ret
            exact ⟨_, rfl, true, rfl, XS.of gx se sn bl 2 la lc ld sl true un c hd aa1 ac1 (an ++ [q]) hNl (HI.out.ca HNM.out)  (((H.pull (r := slc 36 2 (.slice aa1 N ac1) N (pv (an ++ [q]))) pU).pull (r := row 69 gx _) pU).sub sU)⟩
        · have HBF := Lib.hid hbf
          clear hbf
          by_cases hle : 2 * N ≤ ld.length
          · have HLE : Hid (decide (((2 * N : Nat) : Int) ≤ (ld.length : Int)) = true) := Lib.hid (decide_eq_true (by omega))
            clear hle
            go_enter Try.func71, Try.ntmps71
            go_wp2_with (first | (go_at_call 109; (with_reducible refine (ransw_yes gx se sn bl ph la lc ld sl true un c hd aa ac an 1 5 q kd m1 m2 m3 m5 m6 ms mb ma true mc me mv mx my m7 mz hn (HL.out _) HR.out N HN.out _ ((H.pull (r := slc 36 2 (.slice aa an.length ac) an.length (pv an)) pU).pull (r := row 69 gx #[.int .u16 (se.1 : Int), .int .u32 (se.2 : Int), .int .u32 (sn.r : Int), .int .u16 (sn.w.1 : Int), .int .u32 (sn.w.2 : Int), .int .u32 (bl.r : Int), .int .u16 (bl.w.1 : Int), .int .u32 (bl.w.2 : Int), .int .i64 ph, .slice la ld.length lc, .int .u64 (sl : Int), .bool true, .int .u32 (un.r : Int), .int .u16 (un.w.1 : Int), .int .u32 (un.w.2 : Int), .int .i64 c.kind, .int .u16 (c.fr.1 : Int), .int .u32 (c.fr.2 : Int), .int .u64 (c.num : Int), .int .u64 (c.vw : Int), .slice hd.ba c.data.length hd.bc, .int .u64 (c.v.id : Int), .slice hd.ma c.v.mem.length hd.mc, .slice hd.la c.v.lvs.length hd.lc, .slice hd.da c.v.ldr.length hd.dc, .slice aa an.length ac]) pU)).mono ?_); rintro e w1 ⟨v, rfl, hr⟩; obtain ⟨aa1, ac1, rfl, H2⟩ := hr; clear H; have H := H2; clear H2) | (with_reducible refine wpl rfl (Stp.box 4 rfl rfl rfl H ?_); clear H; intro g4 w1 H; simp only [pS]; simp only [pE, nC, pS] at H) | (with_reducible refine wpl rfl (Stp.box 5 rfl rfl rfl H ?_); clear H; intro g5 w1 H; simp only [pS]; simp only [pE, nC, pS] at H) | (with_reducible refine wpl rfl (Stp.ldr rfl agg36 size36 rfl H mR sZ ?_); simp only [pS]) | (with_reducible refine wpl rfl (Stp.ldr rfl agg74 size74 rfl H mR sZ ?_); simp only [pS]))
            refine rg_begin 18 rfl (S := fun W => St _ _ W (row 69 gx #[.int .u16 (se.1 : Int), .int .u32 (se.2 : Int), .int .u32 (sn.r : Int), .int .u16 (sn.w.1 : Int), .int .u32 (sn.w.2 : Int), .int .u32 (bl.r : Int), .int .u16 (bl.w.1 : Int), .int .u32 (bl.w.2 : Int), .int .i64 ph, .slice la ld.length lc, .int .u64 (sl : Int), .bool true, .int .u32 (un.r : Int), .int .u16 (un.w.1 : Int), .int .u32 (un.w.2 : Int), .int .i64 c.kind, .int .u16 (c.fr.1 : Int), .int .u32 (c.fr.2 : Int), .int .u64 (c.num : Int), .int .u64 (c.vw : Int), .slice hd.ba c.data.length hd.bc, .int .u64 (c.v.id : Int), .slice hd.ma c.v.mem.length hd.mc, .slice hd.la c.v.lvs.length hd.lc, .slice hd.da c.v.ldr.length hd.dc, .slice aa1 N ac1] :: row 74 g5 #[.int .i64 kd, .int .u16 m1, .int .u32 m2, .int .u64 m3, .int .u64 (ms : Int), .int .u64 m5, .int .i64 m6, .int .u32 (mb.r : Int), .int .u16 (mb.w.1 : Int), .int .u32 (mb.w.2 : Int), .int .u32 (ma.r : Int), .int .u16 (ma.w.1 : Int), .int .u32 (ma.w.2 : Int), .bool true, .int .i64 mc.kind, .int .u16 (mc.fr.1 : Int), .int .u32 (mc.fr.2 : Int), .int .u64 (mc.num : Int), .int .u64 (mc.vw : Int), .slice me.ba mc.data.length me.bc, .int .u64 (mc.v.id : Int), .slice me.ma mc.v.mem.length me.mc, .slice me.la mc.v.lvs.length me.lc, .slice me.da mc.v.ldr.length me.dc, .int .u64 (mv.id : Int), .slice mx.ma mv.mem.length mx.mc, .slice mx.la mv.lvs.length mx.lc, .slice mx.da mv.ldr.length mx.dc, .slice my m7 mz] :: [])) (by kernel_rfl) (H.drew.sub sU) ?_
            replace H := H.drew
            have HS := H
            refine rg_take (i := 0) rfl kR kR kR (Yld.o rfl) (H.sub sU) ?_; simp only [pS]
            first | (refine rg_take (i := 1) rfl kR kR kR (Yld.ldc rfl rfl agg4 rfl mR cE) (H.sub sU) ?_; simp only [pS]) | (refine rg_take (i := 1) rfl kR kR kR (Yld.ldo rfl rfl agg4 rfl (by assumption) (by assumption)) (H.sub sU) ?_; simp only [pS])
            refine rg_take (i := 2) rfl kR kR kR (Yld.move rfl rfl) (H.sub sU) ?_; simp only [pS, pE]
            refine rg_take (i := 3) rfl kR kR kR (Yld.move rfl rfl) (H.sub sU) ?_; simp only [pS, pE]
            refine rg_take (i := 4) rfl kR kR kR (Yld.o rfl) (H.sub sU) ?_; simp only [pS]
            refine rg_take (i := 5) rfl kR kR kR (Yld.o rfl) (H.sub sU) ?_; simp only [pS]
            first | (refine rg_take (i := 6) rfl kR kR kR (Yld.ldc rfl rfl agg4 rfl mR cE) (H.sub sU) ?_; simp only [pS]) | (refine rg_take (i := 6) rfl kR kR kR (Yld.ldo rfl rfl agg4 rfl (by assumption) (by assumption)) (H.sub sU) ?_; simp only [pS])
            refine rg_take (i := 7) rfl kR kR kR (Yld.o rfl) (H.sub sU) ?_; simp only [pS]
            refine rg_take (i := 8) rfl kR kR kR (Yld.move rfl rfl) (H.sub sU) ?_; simp only [pS, pE]
            refine rg_take (i := 9) rfl kR kR kR (Yld.move rfl rfl) (H.sub sU) ?_; simp only [pS, pE]
            refine rg_take (i := 10) rfl kR kR kR (Yld.o rfl) (H.sub sU) ?_; simp only [pS]
            refine rg_take (i := 11) rfl kR kR kR (Yld.o rfl) (H.sub sU) ?_; simp only [pS]
            first | (refine rg_take (i := 12) rfl kR kR kR (Yld.ldr rfl rfl agg67 size67 rfl mR sZ) (H.sub sU) ?_; simp only [pS]) | (refine rg_take (i := 12) rfl kR kR kR (Yld.ldl rfl rfl agg67 size67 rfl mR (by simp)) (H.sub sU) ?_; simp only [pS]; simp only [List.drop_succ_cons, List.drop_zero, List.take_succ_cons, List.take_zero]) | (refine rg_take (i := 12) rfl kR kR kR (Yld.ldor rfl rfl agg67 size67 rfl (by assumption) sZ (by assumption)) (H.sub sU) ?_; simp only [pS])
            refine rg_take (i := 13) rfl kR kR kR (Yld.o rfl) (H.sub sU) ?_; simp only [pS]
            first | (refine rg_take (i := 14) rfl kR kR kR (Yld.ldr rfl rfl agg67 size67 rfl mR sZ) (H.sub sU) ?_; simp only [pS]) | (refine rg_take (i := 14) rfl kR kR kR (Yld.ldl rfl rfl agg67 size67 rfl mR (by simp)) (H.sub sU) ?_; simp only [pS]; simp only [List.drop_succ_cons, List.drop_zero, List.take_succ_cons, List.take_zero]) | (refine rg_take (i := 14) rfl kR kR kR (Yld.ldor rfl rfl agg67 size67 rfl (by assumption) sZ (by assumption)) (H.sub sU) ?_; simp only [pS])
            refine rg_one (i := 15) (by kernel_rfl) rfl rfl (fun K hK => ?_)
            refine wp_callf rfl ent33 (rbefore_ok un ma true HBF.out _) rfl (fun v w1 hr => ?_)
            obtain ⟨rfl, hb1⟩ := hr
            replace H := H.grow hb1
            clear hb1
            clear HS
            have HS := H
            refine hK.out _ _ (H.sub sU) ?_
            clear hK K
            simp only [pS]
            refine rg_take (i := 16) rfl kR kR kR (Yld.pick rfl rfl rfl) (H.sub sU) ?_; simp only [pS, pE]
            refine rg_take (i := 17) rfl kR kR kR (Yld.pick rfl rfl rfl) (H.sub sU) ?_; simp only [pS, pE]
            refine rg_done (by kernel_rfl) ?_
            go_wp2_with (first | (with_reducible refine wpl rfl (Stp.stc rfl size4 rfl rfl rfl rfl H uP (by first | omega | (simp; done) | (simp; omega)) ?_); clear H; intro w1 H; simp only [pS]; simp only [pE, nC, pS] at H) | (with_reducible refine wpl rfl (Stp.ldl rfl agg67 size67 rfl H mR (by simp) ?_); simp only [pS]; simp only [List.drop_succ_cons, List.drop_zero, List.take_succ_cons, List.take_zero]) | (with_reducible refine wpl rfl (Stp.stl rfl size67 rfl rfl rfl rfl H uP (by simp) ?_); clear H; intro w1 H; simp only [pS]; simp only [List.drop_succ_cons, List.drop_zero, List.take_succ_cons, List.take_zero, List.nil_append, List.cons_append, Nat.reduceAdd] at H) | (with_reducible refine wpl rfl (Stp.ldl rfl agg43 size43 rfl H mR (by simp) ?_); simp only [pS]; simp only [List.drop_succ_cons, List.drop_zero, List.take_succ_cons, List.take_zero]) | (with_reducible refine wpl rfl (Stp.stl rfl size43 rfl rfl rfl rfl H uP (by simp) ?_); clear H; intro w1 H; simp only [pS]; simp only [List.drop_succ_cons, List.drop_zero, List.take_succ_cons, List.take_zero, List.nil_append, List.cons_append, Nat.reduceAdd] at H))
            refine rg_begin 12 rfl (S := fun W => St _ _ W (row 69 gx #[.int .u16 (se.1 : Int), .int .u32 (se.2 : Int), .int .u32 (sn.r : Int), .int .u16 (sn.w.1 : Int), .int .u32 (sn.w.2 : Int), .int .u32 (bl.r : Int), .int .u16 (bl.w.1 : Int), .int .u32 (bl.w.2 : Int), .int .i64 ph, .slice la ld.length lc, .int .u64 (sl : Int), .bool true, .int .u32 (ma.r : Int), .int .u16 (ma.w.1 : Int), .int .u32 (ma.w.2 : Int), .int .i64 mc.kind, .int .u16 (mc.fr.1 : Int), .int .u32 (mc.fr.2 : Int), .int .u64 (mc.num : Int), .int .u64 (mc.vw : Int), .slice me.ba mc.data.length me.bc, .int .u64 (mc.v.id : Int), .slice me.ma mc.v.mem.length me.mc, .slice me.la mc.v.lvs.length me.lc, .slice me.da mc.v.ldr.length me.dc, .slice aa1 N ac1] :: [])) (by kernel_rfl) (H.drew.sub sU) ?_
            replace H := H.drew
            have HS := H
            refine rg_take (i := 0) rfl kR kR kR (Yld.move rfl rfl) (H.sub sU) ?_; simp only [pS, pE]
            refine rg_take (i := 1) rfl kR kR kR (Yld.o rfl) (H.sub sU) ?_; simp only [pS]
            refine rg_take (i := 2) rfl kR kR kR (Yld.o rfl) (H.sub sU) ?_; simp only [pS]
            first | (refine rg_take (i := 3) rfl kR kR kR (Yld.ldc rfl rfl agg23 rfl mR cE) (H.sub sU) ?_; simp only [pS]) | (refine rg_take (i := 3) rfl kR kR kR (Yld.ldo rfl rfl agg23 rfl (by assumption) (by assumption)) (H.sub sU) ?_; simp only [pS])
            refine rg_take (i := 4) rfl kR kR kR (Yld.o rfl) (H.sub sU) ?_; simp only [pS]
            refine rg_take (i := 5) rfl kR kR kR (Yld.of (v := .int .i64 ((2 * N : Nat) : Int)) rfl (fun W _ => by go_simp; first | done | exact HW2.out | (rw [HW2.out]))) (H.sub sU) ?_; simp only [pS, pE]
            refine rg_take (i := 6) rfl kR kR kR (Yld.move rfl rfl) (H.sub sU) ?_; simp only [pS, pE]
            refine rg_take (i := 7) rfl kR kR kR (Yld.o rfl) (H.sub sU) ?_; simp only [pS]
            refine rg_take (i := 8) rfl kR kR kR (Yld.o rfl) (H.sub sU) ?_; simp only [pS]
            first | (refine rg_take (i := 9) rfl kR kR kR (Yld.ldc rfl rfl agg23 rfl mR cE) (H.sub sU) ?_; simp only [pS]) | (refine rg_take (i := 9) rfl kR kR kR (Yld.ldo rfl rfl agg23 rfl (by assumption) (by assumption)) (H.sub sU) ?_; simp only [pS])
            refine rg_take (i := 10) rfl kR kR kR (Yld.o rfl) (H.sub sU) ?_; simp only [pS]
            refine rg_take (i := 11) rfl kR kR kR (Yld.of (v := .bool true) rfl (fun W _ => by go_simp; first | done | exact HLE.out | (rw [HLE.out]) | (simpa using HLE.out) | (have hq := HLE.out; omega) | (have hq := HLE.out; simp at hq ⊢; omega))) (H.sub sU) ?_; simp only [pS, pE]
            refine rg_done (by kernel_rfl) ?_
            go_wp2_with fail
            go_ret
            exact ⟨_, rfl, false, rfl, XS.of gx se sn bl ph la lc ld sl true ma mc me aa1 ac1 (an ++ [q]) hNl ((HI.out.ca HNM.out).cc HMM.out HXM.out)  (((H.pull (r := slc 36 2 (.slice aa1 N ac1) N (pv (an ++ [q]))) pU).pull (r := row 69 gx _) pU).sub sU)⟩
          · have HLE : Hid (decide (((2 * N : Nat) : Int) ≤ (ld.length : Int)) = false) := Lib.hid (decide_eq_false (by omega))
            clear hle
            go_enter Try.func71, Try.ntmps71
            go_wp2_with (first | (go_at_call 109; (with_reducible refine (ransw_yes gx se sn bl ph la lc ld sl true un c hd aa ac an 1 5 q kd m1 m2 m3 m5 m6 ms mb ma true mc me mv mx my m7 mz hn (HL.out _) HR.out N HN.out _ ((H.pull (r := slc 36 2 (.slice aa an.length ac) an.length (pv an)) pU).pull (r := row 69 gx #[.int .u16 (se.1 : Int), .int .u32 (se.2 : Int), .int .u32 (sn.r : Int), .int .u16 (sn.w.1 : Int), .int .u32 (sn.w.2 : Int), .int .u32 (bl.r : Int), .int .u16 (bl.w.1 : Int), .int .u32 (bl.w.2 : Int), .int .i64 ph, .slice la ld.length lc, .int .u64 (sl : Int), .bool true, .int .u32 (un.r : Int), .int .u16 (un.w.1 : Int), .int .u32 (un.w.2 : Int), .int .i64 c.kind, .int .u16 (c.fr.1 : Int), .int .u32 (c.fr.2 : Int), .int .u64 (c.num : Int), .int .u64 (c.vw : Int), .slice hd.ba c.data.length hd.bc, .int .u64 (c.v.id : Int), .slice hd.ma c.v.mem.length hd.mc, .slice hd.la c.v.lvs.length hd.lc, .slice hd.da c.v.ldr.length hd.dc, .slice aa an.length ac]) pU)).mono ?_); rintro e w1 ⟨v, rfl, hr⟩; obtain ⟨aa1, ac1, rfl, H2⟩ := hr; clear H; have H := H2; clear H2) | (with_reducible refine wpl rfl (Stp.box 4 rfl rfl rfl H ?_); clear H; intro g4 w1 H; simp only [pS]; simp only [pE, nC, pS] at H) | (with_reducible refine wpl rfl (Stp.box 5 rfl rfl rfl H ?_); clear H; intro g5 w1 H; simp only [pS]; simp only [pE, nC, pS] at H) | (with_reducible refine wpl rfl (Stp.ldr rfl agg36 size36 rfl H mR sZ ?_); simp only [pS]) | (with_reducible refine wpl rfl (Stp.ldr rfl agg74 size74 rfl H mR sZ ?_); simp only [pS]))
            refine rg_begin 18 rfl (S := fun W => St _ _ W (row 69 gx #[.int .u16 (se.1 : Int), .int .u32 (se.2 : Int), .int .u32 (sn.r : Int), .int .u16 (sn.w.1 : Int), .int .u32 (sn.w.2 : Int), .int .u32 (bl.r : Int), .int .u16 (bl.w.1 : Int), .int .u32 (bl.w.2 : Int), .int .i64 ph, .slice la ld.length lc, .int .u64 (sl : Int), .bool true, .int .u32 (un.r : Int), .int .u16 (un.w.1 : Int), .int .u32 (un.w.2 : Int), .int .i64 c.kind, .int .u16 (c.fr.1 : Int), .int .u32 (c.fr.2 : Int), .int .u64 (c.num : Int), .int .u64 (c.vw : Int), .slice hd.ba c.data.length hd.bc, .int .u64 (c.v.id : Int), .slice hd.ma c.v.mem.length hd.mc, .slice hd.la c.v.lvs.length hd.lc, .slice hd.da c.v.ldr.length hd.dc, .slice aa1 N ac1] :: row 74 g5 #[.int .i64 kd, .int .u16 m1, .int .u32 m2, .int .u64 m3, .int .u64 (ms : Int), .int .u64 m5, .int .i64 m6, .int .u32 (mb.r : Int), .int .u16 (mb.w.1 : Int), .int .u32 (mb.w.2 : Int), .int .u32 (ma.r : Int), .int .u16 (ma.w.1 : Int), .int .u32 (ma.w.2 : Int), .bool true, .int .i64 mc.kind, .int .u16 (mc.fr.1 : Int), .int .u32 (mc.fr.2 : Int), .int .u64 (mc.num : Int), .int .u64 (mc.vw : Int), .slice me.ba mc.data.length me.bc, .int .u64 (mc.v.id : Int), .slice me.ma mc.v.mem.length me.mc, .slice me.la mc.v.lvs.length me.lc, .slice me.da mc.v.ldr.length me.dc, .int .u64 (mv.id : Int), .slice mx.ma mv.mem.length mx.mc, .slice mx.la mv.lvs.length mx.lc, .slice mx.da mv.ldr.length mx.dc, .slice my m7 mz] :: [])) (by kernel_rfl) (H.drew.sub sU) ?_
            replace H := H.drew
            have HS := H
            refine rg_take (i := 0) rfl kR kR kR (Yld.o rfl) (H.sub sU) ?_; simp only [pS]
            first | (refine rg_take (i := 1) rfl kR kR kR (Yld.ldc rfl rfl agg4 rfl mR cE) (H.sub sU) ?_; simp only [pS]) | (refine rg_take (i := 1) rfl kR kR kR (Yld.ldo rfl rfl agg4 rfl (by assumption) (by assumption)) (H.sub sU) ?_; simp only [pS])
            refine rg_take (i := 2) rfl kR kR kR (Yld.move rfl rfl) (H.sub sU) ?_; simp only [pS, pE]
            refine rg_take (i := 3) rfl kR kR kR (Yld.move rfl rfl) (H.sub sU) ?_; simp only [pS, pE]
            refine rg_take (i := 4) rfl kR kR kR (Yld.o rfl) (H.sub sU) ?_; simp only [pS]
            refine rg_take (i := 5) rfl kR kR kR (Yld.o rfl) (H.sub sU) ?_; simp only [pS]
            first | (refine rg_take (i := 6) rfl kR kR kR (Yld.ldc rfl rfl agg4 rfl mR cE) (H.sub sU) ?_; simp only [pS]) | (refine rg_take (i := 6) rfl kR kR kR (Yld.ldo rfl rfl agg4 rfl (by assumption) (by assumption)) (H.sub sU) ?_; simp only [pS])
            refine rg_take (i := 7) rfl kR kR kR (Yld.o rfl) (H.sub sU) ?_; simp only [pS]
            refine rg_take (i := 8) rfl kR kR kR (Yld.move rfl rfl) (H.sub sU) ?_; simp only [pS, pE]
            refine rg_take (i := 9) rfl kR kR kR (Yld.move rfl rfl) (H.sub sU) ?_; simp only [pS, pE]
            refine rg_take (i := 10) rfl kR kR kR (Yld.o rfl) (H.sub sU) ?_; simp only [pS]
            refine rg_take (i := 11) rfl kR kR kR (Yld.o rfl) (H.sub sU) ?_; simp only [pS]
            first | (refine rg_take (i := 12) rfl kR kR kR (Yld.ldr rfl rfl agg67 size67 rfl mR sZ) (H.sub sU) ?_; simp only [pS]) | (refine rg_take (i := 12) rfl kR kR kR (Yld.ldl rfl rfl agg67 size67 rfl mR (by simp)) (H.sub sU) ?_; simp only [pS]; simp only [List.drop_succ_cons, List.drop_zero, List.take_succ_cons, List.take_zero]) | (refine rg_take (i := 12) rfl kR kR kR (Yld.ldor rfl rfl agg67 size67 rfl (by assumption) sZ (by assumption)) (H.sub sU) ?_; simp only [pS])
            refine rg_take (i := 13) rfl kR kR kR (Yld.o rfl) (H.sub sU) ?_; simp only [pS]
            first | (refine rg_take (i := 14) rfl kR kR kR (Yld.ldr rfl rfl agg67 size67 rfl mR sZ) (H.sub sU) ?_; simp only [pS]) | (refine rg_take (i := 14) rfl kR kR kR (Yld.ldl rfl rfl agg67 size67 rfl mR (by simp)) (H.sub sU) ?_; simp only [pS]; simp only [List.drop_succ_cons, List.drop_zero, List.take_succ_cons, List.take_zero]) | (refine rg_take (i := 14) rfl kR kR kR (Yld.ldor rfl rfl agg67 size67 rfl (by assumption) sZ (by assumption)) (H.sub sU) ?_; simp only [pS])
            refine rg_one (i := 15) (by kernel_rfl) rfl rfl (fun K hK => ?_)
            refine wp_callf rfl ent33 (rbefore_ok un ma true HBF.out _) rfl (fun v w1 hr => ?_)
            obtain ⟨rfl, hb1⟩ := hr
            replace H := H.grow hb1
            clear hb1
            clear HS
            have HS := H
            refine hK.out _ _ (H.sub sU) ?_
            clear hK K
            simp only [pS]
            refine rg_take (i := 16) rfl kR kR kR (Yld.pick rfl rfl rfl) (H.sub sU) ?_; simp only [pS, pE]
            refine rg_take (i := 17) rfl kR kR kR (Yld.pick rfl rfl rfl) (H.sub sU) ?_; simp only [pS, pE]
            refine rg_done (by kernel_rfl) ?_
            go_wp2_with (first | (with_reducible refine wpl rfl (Stp.stc rfl size4 rfl rfl rfl rfl H uP (by first | omega | (simp; done) | (simp; omega)) ?_); clear H; intro w1 H; simp only [pS]; simp only [pE, nC, pS] at H) | (with_reducible refine wpl rfl (Stp.ldl rfl agg67 size67 rfl H mR (by simp) ?_); simp only [pS]; simp only [List.drop_succ_cons, List.drop_zero, List.take_succ_cons, List.take_zero]) | (with_reducible refine wpl rfl (Stp.stl rfl size67 rfl rfl rfl rfl H uP (by simp) ?_); clear H; intro w1 H; simp only [pS]; simp only [List.drop_succ_cons, List.drop_zero, List.take_succ_cons, List.take_zero, List.nil_append, List.cons_append, Nat.reduceAdd] at H) | (with_reducible refine wpl rfl (Stp.ldl rfl agg43 size43 rfl H mR (by simp) ?_); simp only [pS]; simp only [List.drop_succ_cons, List.drop_zero, List.take_succ_cons, List.take_zero]) | (with_reducible refine wpl rfl (Stp.stl rfl size43 rfl rfl rfl rfl H uP (by simp) ?_); clear H; intro w1 H; simp only [pS]; simp only [List.drop_succ_cons, List.drop_zero, List.take_succ_cons, List.take_zero, List.nil_append, List.cons_append, Nat.reduceAdd] at H))
            refine rg_begin 12 rfl (S := fun W => St _ _ W (row 69 gx #[.int .u16 (se.1 : Int), .int .u32 (se.2 : Int), .int .u32 (sn.r : Int), .int .u16 (sn.w.1 : Int), .int .u32 (sn.w.2 : Int), .int .u32 (bl.r : Int), .int .u16 (bl.w.1 : Int), .int .u32 (bl.w.2 : Int), .int .i64 ph, .slice la ld.length lc, .int .u64 (sl : Int), .bool true, .int .u32 (ma.r : Int), .int .u16 (ma.w.1 : Int), .int .u32 (ma.w.2 : Int), .int .i64 mc.kind, .int .u16 (mc.fr.1 : Int), .int .u32 (mc.fr.2 : Int), .int .u64 (mc.num : Int), .int .u64 (mc.vw : Int), .slice me.ba mc.data.length me.bc, .int .u64 (mc.v.id : Int), .slice me.ma mc.v.mem.length me.mc, .slice me.la mc.v.lvs.length me.lc, .slice me.da mc.v.ldr.length me.dc, .slice aa1 N ac1] :: [])) (by kernel_rfl) (H.drew.sub sU) ?_
            replace H := H.drew
            have HS := H
            refine rg_take (i := 0) rfl kR kR kR (Yld.move rfl rfl) (H.sub sU) ?_; simp only [pS, pE]
            refine rg_take (i := 1) rfl kR kR kR (Yld.o rfl) (H.sub sU) ?_; simp only [pS]
            refine rg_take (i := 2) rfl kR kR kR (Yld.o rfl) (H.sub sU) ?_; simp only [pS]
            first | (refine rg_take (i := 3) rfl kR kR kR (Yld.ldc rfl rfl agg23 rfl mR cE) (H.sub sU) ?_; simp only [pS]) | (refine rg_take (i := 3) rfl kR kR kR (Yld.ldo rfl rfl agg23 rfl (by assumption) (by assumption)) (H.sub sU) ?_; simp only [pS])
            refine rg_take (i := 4) rfl kR kR kR (Yld.o rfl) (H.sub sU) ?_; simp only [pS]
            refine rg_take (i := 5) rfl kR kR kR (Yld.of (v := .int .i64 ((2 * N : Nat) : Int)) rfl (fun W _ => by go_simp; first | done | exact HW2.out | (rw [HW2.out]))) (H.sub sU) ?_; simp only [pS, pE]
            refine rg_take (i := 6) rfl kR kR kR (Yld.move rfl rfl) (H.sub sU) ?_; simp only [pS, pE]
            refine rg_take (i := 7) rfl kR kR kR (Yld.o rfl) (H.sub sU) ?_; simp only [pS]
            refine rg_take (i := 8) rfl kR kR kR (Yld.o rfl) (H.sub sU) ?_; simp only [pS]
            first | (refine rg_take (i := 9) rfl kR kR kR (Yld.ldc rfl rfl agg23 rfl mR cE) (H.sub sU) ?_; simp only [pS]) | (refine rg_take (i := 9) rfl kR kR kR (Yld.ldo rfl rfl agg23 rfl (by assumption) (by assumption)) (H.sub sU) ?_; simp only [pS])
            refine rg_take (i := 10) rfl kR kR kR (Yld.o rfl) (H.sub sU) ?_; simp only [pS]
            refine rg_take (i := 11) rfl kR kR kR (Yld.of (v := .bool false) rfl (fun W _ => by go_simp; first | done | exact HLE.out | (rw [HLE.out]) | (simpa using HLE.out) | (have hq := HLE.out; omega) | (have hq := HLE.out; simp at hq ⊢; omega))) (H.sub sU) ?_; simp only [pS, pE]
            refine rg_done (by kernel_rfl) ?_
            go_wp2_with (first | (with_reducible refine wpl rfl (Stp.stc rfl size3 rfl rfl rfl rfl H uP (by first | omega | (simp; done) | (simp; omega)) ?_); clear H; intro w1 H; simp only [pS]; simp only [pE, nC, pS] at H))
            go_ret
            exact ⟨_, rfl, true, rfl, XS.of gx se sn bl 2 la lc ld sl true ma mc me aa1 ac1 (an ++ [q]) hNl ((HI.out.ca HNM.out).cc HMM.out HXM.out)  (((H.pull (r := slc 36 2 (.slice aa1 N ac1) N (pv (an ++ [q]))) pU).pull (r := row 69 gx _) pU).sub sU)⟩
  · have HR := Lib.hid h
    have HNM : Hid (an.length ≤ m + 1) := Lib.hid (Nat.le_succ_of_le HAN.out)
    clear h
    go_enter Try.func71, Try.ntmps71
    go_wp2_with (first | (go_at_call 109; (with_reducible refine (ransw_no gx se sn bl ph la lc ld sl hs un c hd aa ac an 1 5 q kd m1 m2 m3 m5 m6 ms mb ma mh mc me mv mx my m7 mz hn (HL.out _) HR.out _ ((H.pull (r := slc 36 2 (.slice aa an.length ac) an.length (pv an)) pU).pull (r := row 69 gx #[.int .u16 (se.1 : Int), .int .u32 (se.2 : Int), .int .u32 (sn.r : Int), .int .u16 (sn.w.1 : Int), .int .u32 (sn.w.2 : Int), .int .u32 (bl.r : Int), .int .u16 (bl.w.1 : Int), .int .u32 (bl.w.2 : Int), .int .i64 ph, .slice la ld.length lc, .int .u64 (sl : Int), .bool hs, .int .u32 (un.r : Int), .int .u16 (un.w.1 : Int), .int .u32 (un.w.2 : Int), .int .i64 c.kind, .int .u16 (c.fr.1 : Int), .int .u32 (c.fr.2 : Int), .int .u64 (c.num : Int), .int .u64 (c.vw : Int), .slice hd.ba c.data.length hd.bc, .int .u64 (c.v.id : Int), .slice hd.ma c.v.mem.length hd.mc, .slice hd.la c.v.lvs.length hd.lc, .slice hd.da c.v.ldr.length hd.dc, .slice aa an.length ac]) pU)).mono ?_); rintro e w1 ⟨v, rfl, hr⟩; obtain ⟨aa1, ac1, rfl, H2⟩ := hr; clear H; have H := H2; clear H2) | (with_reducible refine wpl rfl (Stp.box 4 rfl rfl rfl H ?_); clear H; intro g4 w1 H; simp only [pS]; simp only [pE, nC, pS] at H) | (with_reducible refine wpl rfl (Stp.box 5 rfl rfl rfl H ?_); clear H; intro g5 w1 H; simp only [pS]; simp only [pE, nC, pS] at H) | (with_reducible refine wpl rfl (Stp.ldr rfl agg36 size36 rfl H mR sZ ?_); simp only [pS]) | (with_reducible refine wpl rfl (Stp.ldr rfl agg74 size74 rfl H mR sZ ?_); simp only [pS]))
    go_ret
    exact ⟨_, rfl, false, rfl, XS.of gx se sn bl ph la lc ld sl hs un c hd aa1 ac1 an rfl (HI.out.ca HNM.out)  (((H.pull (r := slc 36 2 (.slice aa1 an.length ac1) an.length (pv an)) pU).pull (r := row 69 gx _) pU).sub sU)⟩
theorem xacc_ok {B : Nat} {w0 : World} {L : List Res} {G1 : Nat → Prop} (gx m : Nat) (q : Pr) (kd m1 m2 m3 m5 m6 : Int) (ms : Nat) (mb ma : Bl) (mh : Bool) (mc : Cm) (me : Hd) (mv : Vw) (mx : Hd) (my : Option Addr) (m7 mz : Nat) (hmm : m ≤ 1000) (X : Res) (hX : XaR B w0 G1 gx m X) (w : World) (H : St B w0 w (X :: L)) :
    Calls Try.prog 77 #[.pointer (some ⟨gx, 0, none⟩), .agg #[.int .u16 (q.1 : Int), .int .u32 (q.2 : Int)], .agg #[.int .i64 kd, .int .u16 m1, .int .u32 m2, .int .u64 m3, .int .u64 (ms : Int), .int .u64 m5, .int .i64 m6, .int .u32 (mb.r : Int), .int .u16 (mb.w.1 : Int), .int .u32 (mb.w.2 : Int), .int .u32 (ma.r : Int), .int .u16 (ma.w.1 : Int), .int .u32 (ma.w.2 : Int), .bool mh, .int .i64 mc.kind, .int .u16 (mc.fr.1 : Int), .int .u32 (mc.fr.2 : Int), .int .u64 (mc.num : Int), .int .u64 (mc.vw : Int), .slice me.ba mc.data.length me.bc, .int .u64 (mc.v.id : Int), .slice me.ma mc.v.mem.length me.mc, .slice me.la mc.v.lvs.length me.lc, .slice me.da mc.v.ldr.length me.dc, .int .u64 (mv.id : Int), .slice mx.ma mv.mem.length mx.mc, .slice mx.la mv.lvs.length mx.lc, .slice mx.da mv.ldr.length mx.dc, .slice my m7 mz]] w (Ret fun v w' => ∃ e : Bool, v = .bool e ∧ XS B w0 G1 w' gx (m + 1) L) := by
  obtain ⟨se, sn, bl, ph, la, lc, ld, sl, hs, un, c, hd, aa, ac, an, hI, rfl⟩ := hX
  replace H := H.part
  have hn : an.length ≤ 1000 := Nat.le_trans hI.an hmm
  have HL : Hid (∀ L', Rd B w0 L' fun W => Sl W 2 ld.length (.slice la ld.length lc) (elQ ld)) := Lib.hid (fun L' => hI.l.mono fun r hr => absurd hr List.not_mem_nil)
  have HI := Lib.hid hI
  have HAN := Lib.hid hI.an
  clear hI hmm
  by_cases h : ph = 3 ∧ kd = 7 ∧ ms = sl ∧ mb = bl ∧ q ∈ ld ∧ q ∉ an
  · have HR := Lib.hid h
    obtain ⟨N, hN⟩ : ∃ N, an.length + 1 = N := ⟨_, rfl⟩
    have HN := Lib.hid hN
    have hNl : (an ++ [q]).length = N := by rw [List.length_append]; exact hN
    have HNM : Hid ((an ++ [q]).length ≤ m + 1) := Lib.hid (by have := HAN.out; omega)
    have hN1 : N ≤ 1001 := by omega
    have HW2 : Hid (IntKind.i64.wrap (2 * (N : Int)) = ((2 * N : Nat) : Int)) := Lib.hid (by rw [IntKind.wrap_i64]; omega)
    obtain ⟨s2, hs2⟩ : ∃ s2 : Nat, IntKind.u64.wrap ((sl : Int) + 1) = (s2 : Int) := ⟨(IntKind.u64.wrap ((sl : Int) + 1)).toNat, by rw [IntKind.wrap_u64]; omega⟩
    have HS2 := Lib.hid hs2
    clear h hN
    by_cases hle : 2 * N ≤ ld.length
    · have HLE : Hid (decide (((2 * N : Nat) : Int) ≤ (ld.length : Int)) = true) := Lib.hid (decide_eq_true (by omega))
      clear hle
      go_enter Try.func77, Try.ntmps77
      go_wp2_with (first | (with_reducible refine wpl rfl (Stp.box 4 rfl rfl rfl H ?_); clear H; intro g4 w1 H; simp only [pS]; simp only [pE, nC, pS] at H) | (with_reducible refine wpl rfl (Stp.box 5 rfl rfl rfl H ?_); clear H; intro g5 w1 H; simp only [pS]; simp only [pE, nC, pS] at H))
      refine rg_begin 19 rfl (S := fun W => St _ _ W (row 74 g5 #[.int .i64 kd, .int .u16 m1, .int .u32 m2, .int .u64 m3, .int .u64 (ms : Int), .int .u64 m5, .int .i64 m6, .int .u32 (mb.r : Int), .int .u16 (mb.w.1 : Int), .int .u32 (mb.w.2 : Int), .int .u32 (ma.r : Int), .int .u16 (ma.w.1 : Int), .int .u32 (ma.w.2 : Int), .bool mh, .int .i64 mc.kind, .int .u16 (mc.fr.1 : Int), .int .u32 (mc.fr.2 : Int), .int .u64 (mc.num : Int), .int .u64 (mc.vw : Int), .slice me.ba mc.data.length me.bc, .int .u64 (mc.v.id : Int), .slice me.ma mc.v.mem.length me.mc, .slice me.la mc.v.lvs.length me.lc, .slice me.da mc.v.ldr.length me.dc, .int .u64 (mv.id : Int), .slice mx.ma mv.mem.length mx.mc, .slice mx.la mv.lvs.length mx.lc, .slice mx.da mv.ldr.length mx.dc, .slice my m7 mz] :: row 36 g4 #[.int .u16 (q.1 : Int), .int .u32 (q.2 : Int)] :: [])) (by kernel_rfl) (H.drew.sub sU) ?_
      replace H := H.drew
      have HS := H
      refine rg_take (i := 0) rfl kR kR kR (Yld.move rfl rfl) (H.sub sU) ?_; simp only [pS, pE]
      first | (refine rg_take (i := 1) rfl kR kR kR (Yld.ldr rfl rfl agg36 size36 rfl mR sZ) (H.sub sU) ?_; simp only [pS]) | (refine rg_take (i := 1) rfl kR kR kR (Yld.ldl rfl rfl agg36 size36 rfl mR (by simp)) (H.sub sU) ?_; simp only [pS]; simp only [List.drop_succ_cons, List.drop_zero, List.take_succ_cons, List.take_zero]) | (refine rg_take (i := 1) rfl kR kR kR (Yld.ldor rfl rfl agg36 size36 rfl (by assumption) sZ (by assumption)) (H.sub sU) ?_; simp only [pS])
      first | (refine rg_take (i := 2) rfl kR kR kR (Yld.ldr rfl rfl agg74 size74 rfl mR sZ) (H.sub sU) ?_; simp only [pS]) | (refine rg_take (i := 2) rfl kR kR kR (Yld.ldl rfl rfl agg74 size74 rfl mR (by simp)) (H.sub sU) ?_; simp only [pS]; simp only [List.drop_succ_cons, List.drop_zero, List.take_succ_cons, List.take_zero]) | (refine rg_take (i := 2) rfl kR kR kR (Yld.ldor rfl rfl agg74 size74 rfl (by assumption) sZ (by assumption)) (H.sub sU) ?_; simp only [pS])
      refine rg_one (i := 3) (by kernel_rfl) rfl rfl (fun K hK => ?_)
      refine wp_callf rfl ent109 (ransw_yes gx se sn bl ph la lc ld sl hs un c hd aa ac an 3 7 q kd m1 m2 m3 m5 m6 ms mb ma mh mc me mv mx my m7 mz hn (HL.out _) HR.out N HN.out _ ((H.pull (r := slc 36 2 (.slice aa an.length ac) an.length (pv an)) pU).pull (r := row 69 gx #[.int .u16 (se.1 : Int), .int .u32 (se.2 : Int), .int .u32 (sn.r : Int), .int .u16 (sn.w.1 : Int), .int .u32 (sn.w.2 : Int), .int .u32 (bl.r : Int), .int .u16 (bl.w.1 : Int), .int .u32 (bl.w.2 : Int), .int .i64 ph, .slice la ld.length lc, .int .u64 (sl : Int), .bool hs, .int .u32 (un.r : Int), .int .u16 (un.w.1 : Int), .int .u32 (un.w.2 : Int), .int .i64 c.kind, .int .u16 (c.fr.1 : Int), .int .u32 (c.fr.2 : Int), .int .u64 (c.num : Int), .int .u64 (c.vw : Int), .slice hd.ba c.data.length hd.bc, .int .u64 (c.v.id : Int), .slice hd.ma c.v.mem.length hd.mc, .slice hd.la c.v.lvs.length hd.lc, .slice hd.da c.v.ldr.length hd.dc, .slice aa an.length ac]) pU)) rfl (fun v w1 hr => ?_)
      obtain ⟨aa1, ac1, rfl, H2⟩ := hr
      clear H
      have H := H2
      clear H2
      clear HS
      have HS := H
      refine hK.out _ _ (H.sub sU) ?_
      clear hK K
      simp only [pS]
      refine rg_on (fun W => St B w0 W (row 69 gx #[.int .u16 (se.1 : Int), .int .u32 (se.2 : Int), .int .u32 (sn.r : Int), .int .u16 (sn.w.1 : Int), .int .u32 (sn.w.2 : Int), .int .u32 (bl.r : Int), .int .u16 (bl.w.1 : Int), .int .u32 (bl.w.2 : Int), .int .i64 ph, .slice la ld.length lc, .int .u64 (sl : Int), .bool hs, .int .u32 (un.r : Int), .int .u16 (un.w.1 : Int), .int .u32 (un.w.2 : Int), .int .i64 c.kind, .int .u16 (c.fr.1 : Int), .int .u32 (c.fr.2 : Int), .int .u64 (c.num : Int), .int .u64 (c.vw : Int), .slice hd.ba c.data.length hd.bc, .int .u64 (c.v.id : Int), .slice hd.ma c.v.mem.length hd.mc, .slice hd.la c.v.lvs.length hd.lc, .slice hd.da c.v.ldr.length hd.dc, .slice aa1 N ac1] :: row 74 g5 #[.int .i64 kd, .int .u16 m1, .int .u32 m2, .int .u64 m3, .int .u64 (ms : Int), .int .u64 m5, .int .i64 m6, .int .u32 (mb.r : Int), .int .u16 (mb.w.1 : Int), .int .u32 (mb.w.2 : Int), .int .u32 (ma.r : Int), .int .u16 (ma.w.1 : Int), .int .u32 (ma.w.2 : Int), .bool mh, .int .i64 mc.kind, .int .u16 (mc.fr.1 : Int), .int .u32 (mc.fr.2 : Int), .int .u64 (mc.num : Int), .int .u64 (mc.vw : Int), .slice me.ba mc.data.length me.bc, .int .u64 (mc.v.id : Int), .slice me.ma mc.v.mem.length me.mc, .slice me.la mc.v.lvs.length me.lc, .slice me.da mc.v.ldr.length me.dc, .int .u64 (mv.id : Int), .slice mx.ma mv.mem.length mx.mc, .slice mx.la mv.lvs.length mx.lc, .slice mx.da mv.ldr.length mx.dc, .slice my m7 mz] :: row 36 g4 #[.int .u16 (q.1 : Int), .int .u32 (q.2 : Int)] :: [])) (fun _ h => h.sub sU) ?_
      refine rg_take (i := 4) rfl kR kR kR (Yld.o rfl) (H.sub sU) ?_; simp only [pS]
      refine rg_take (i := 5) rfl kR kR kR (Yld.move rfl rfl) (H.sub sU) ?_; simp only [pS, pE]
      refine rg_take (i := 6) rfl kR kR kR (Yld.move rfl rfl) (H.sub sU) ?_; simp only [pS, pE]
      refine rg_take (i := 7) rfl kR kR kR (Yld.o rfl) (H.sub sU) ?_; simp only [pS]
      refine rg_take (i := 8) rfl kR kR kR (Yld.o rfl) (H.sub sU) ?_; simp only [pS]
      first | (refine rg_take (i := 9) rfl kR kR kR (Yld.ldc rfl rfl agg23 rfl mR cE) (H.sub sU) ?_; simp only [pS]) | (refine rg_take (i := 9) rfl kR kR kR (Yld.ldo rfl rfl agg23 rfl (by assumption) (by assumption)) (H.sub sU) ?_; simp only [pS])
      refine rg_take (i := 10) rfl kR kR kR (Yld.o rfl) (H.sub sU) ?_; simp only [pS]
      refine rg_take (i := 11) rfl kR kR kR (Yld.of (v := .int .i64 ((2 * N : Nat) : Int)) rfl (fun W _ => by go_simp; first | done | exact HW2.out | (rw [HW2.out]))) (H.sub sU) ?_; simp only [pS, pE]
      refine rg_take (i := 12) rfl kR kR kR (Yld.move rfl rfl) (H.sub sU) ?_; simp only [pS, pE]
      refine rg_take (i := 13) rfl kR kR kR (Yld.o rfl) (H.sub sU) ?_; simp only [pS]
      refine rg_take (i := 14) rfl kR kR kR (Yld.o rfl) (H.sub sU) ?_; simp only [pS]
      first | (refine rg_take (i := 15) rfl kR kR kR (Yld.ldc rfl rfl agg23 rfl mR cE) (H.sub sU) ?_; simp only [pS]) | (refine rg_take (i := 15) rfl kR kR kR (Yld.ldo rfl rfl agg23 rfl (by assumption) (by assumption)) (H.sub sU) ?_; simp only [pS])
      refine rg_take (i := 16) rfl kR kR kR (Yld.o rfl) (H.sub sU) ?_; simp only [pS]
      refine rg_take (i := 17) rfl kR kR kR (Yld.of (v := .bool true) rfl (fun W _ => by go_simp; first | done | exact HLE.out | (rw [HLE.out]) | (simpa using HLE.out) | (have hq := HLE.out; omega) | (have hq := HLE.out; simp at hq ⊢; omega))) (H.sub sU) ?_; simp only [pS, pE]
      refine rg_take (i := 18) rfl kR kR kR (Yld.pick rfl rfl rfl) (H.sub sU) ?_; simp only [pS, pE]
      refine rg_done (by kernel_rfl) ?_
      go_wp2_with fail
      go_ret
      exact ⟨_, rfl, false, rfl, XS.of gx se sn bl ph la lc ld sl hs un c hd aa1 ac1 (an ++ [q]) hNl (HI.out.ca HNM.out)  (((H.pull (r := slc 36 2 (.slice aa1 N ac1) N (pv (an ++ [q]))) pU).pull (r := row 69 gx _) pU).sub sU)⟩
    · have HLE : Hid (decide (((2 * N : Nat) : Int) ≤ (ld.length : Int)) = false) := Lib.hid (decide_eq_false (by omega))
      clear hle
      go_enter Try.func77, Try.ntmps77
      go_wp2_with (first | (with_reducible refine wpl rfl (Stp.box 4 rfl rfl rfl H ?_); clear H; intro g4 w1 H; simp only [pS]; simp only [pE, nC, pS] at H) | (with_reducible refine wpl rfl (Stp.box 5 rfl rfl rfl H ?_); clear H; intro g5 w1 H; simp only [pS]; simp only [pE, nC, pS] at H))
      refine rg_begin 19 rfl (S := fun W => St _ _ W (row 74 g5 #[.int .i64 kd, .int .u16 m1, .int .u32 m2, .int .u64 m3, .int .u64 (ms : Int), .int .u64 m5, .int .i64 m6, .int .u32 (mb.r : Int), .int .u16 (mb.w.1 : Int), .int .u32 (mb.w.2 : Int), .int .u32 (ma.r : Int), .int .u16 (ma.w.1 : Int), .int .u32 (ma.w.2 : Int), .bool mh, .int .i64 mc.kind, .int .u16 (mc.fr.1 : Int), .int .u32 (mc.fr.2 : Int), .int .u64 (mc.num : Int), .int .u64 (mc.vw : Int), .slice me.ba mc.data.length me.bc, .int .u64 (mc.v.id : Int), .slice me.ma mc.v.mem.length me.mc, .slice me.la mc.v.lvs.length me.lc, .slice me.da mc.v.ldr.length me.dc, .int .u64 (mv.id : Int), .slice mx.ma mv.mem.length mx.mc, .slice mx.la mv.lvs.length mx.lc, .slice mx.da mv.ldr.length mx.dc, .slice my m7 mz] :: row 36 g4 #[.int .u16 (q.1 : Int), .int .u32 (q.2 : Int)] :: [])) (by kernel_rfl) (H.drew.sub sU) ?_
      replace H := H.drew
      have HS := H
      refine rg_take (i := 0) rfl kR kR kR (Yld.move rfl rfl) (H.sub sU) ?_; simp only [pS, pE]
      first | (refine rg_take (i := 1) rfl kR kR kR (Yld.ldr rfl rfl agg36 size36 rfl mR sZ) (H.sub sU) ?_; simp only [pS]) | (refine rg_take (i := 1) rfl kR kR kR (Yld.ldl rfl rfl agg36 size36 rfl mR (by simp)) (H.sub sU) ?_; simp only [pS]; simp only [List.drop_succ_cons, List.drop_zero, List.take_succ_cons, List.take_zero]) | (refine rg_take (i := 1) rfl kR kR kR (Yld.ldor rfl rfl agg36 size36 rfl (by assumption) sZ (by assumption)) (H.sub sU) ?_; simp only [pS])
      first | (refine rg_take (i := 2) rfl kR kR kR (Yld.ldr rfl rfl agg74 size74 rfl mR sZ) (H.sub sU) ?_; simp only [pS]) | (refine rg_take (i := 2) rfl kR kR kR (Yld.ldl rfl rfl agg74 size74 rfl mR (by simp)) (H.sub sU) ?_; simp only [pS]; simp only [List.drop_succ_cons, List.drop_zero, List.take_succ_cons, List.take_zero]) | (refine rg_take (i := 2) rfl kR kR kR (Yld.ldor rfl rfl agg74 size74 rfl (by assumption) sZ (by assumption)) (H.sub sU) ?_; simp only [pS])
      refine rg_one (i := 3) (by kernel_rfl) rfl rfl (fun K hK => ?_)
      refine wp_callf rfl ent109 (ransw_yes gx se sn bl ph la lc ld sl hs un c hd aa ac an 3 7 q kd m1 m2 m3 m5 m6 ms mb ma mh mc me mv mx my m7 mz hn (HL.out _) HR.out N HN.out _ ((H.pull (r := slc 36 2 (.slice aa an.length ac) an.length (pv an)) pU).pull (r := row 69 gx #[.int .u16 (se.1 : Int), .int .u32 (se.2 : Int), .int .u32 (sn.r : Int), .int .u16 (sn.w.1 : Int), .int .u32 (sn.w.2 : Int), .int .u32 (bl.r : Int), .int .u16 (bl.w.1 : Int), .int .u32 (bl.w.2 : Int), .int .i64 ph, .slice la ld.length lc, .int .u64 (sl : Int), .bool hs, .int .u32 (un.r : Int), .int .u16 (un.w.1 : Int), .int .u32 (un.w.2 : Int), .int .i64 c.kind, .int .u16 (c.fr.1 : Int), .int .u32 (c.fr.2 : Int), .int .u64 (c.num : Int), .int .u64 (c.vw : Int), .slice hd.ba c.data.length hd.bc, .int .u64 (c.v.id : Int), .slice hd.ma c.v.mem.length hd.mc, .slice hd.la c.v.lvs.length hd.lc, .slice hd.da c.v.ldr.length hd.dc, .slice aa an.length ac]) pU)) rfl (fun v w1 hr => ?_)
      obtain ⟨aa1, ac1, rfl, H2⟩ := hr
      clear H
      have H := H2
      clear H2
      clear HS
      have HS := H
      refine hK.out _ _ (H.sub sU) ?_
      clear hK K
      simp only [pS]
      refine rg_on (fun W => St B w0 W (row 69 gx #[.int .u16 (se.1 : Int), .int .u32 (se.2 : Int), .int .u32 (sn.r : Int), .int .u16 (sn.w.1 : Int), .int .u32 (sn.w.2 : Int), .int .u32 (bl.r : Int), .int .u16 (bl.w.1 : Int), .int .u32 (bl.w.2 : Int), .int .i64 ph, .slice la ld.length lc, .int .u64 (sl : Int), .bool hs, .int .u32 (un.r : Int), .int .u16 (un.w.1 : Int), .int .u32 (un.w.2 : Int), .int .i64 c.kind, .int .u16 (c.fr.1 : Int), .int .u32 (c.fr.2 : Int), .int .u64 (c.num : Int), .int .u64 (c.vw : Int), .slice hd.ba c.data.length hd.bc, .int .u64 (c.v.id : Int), .slice hd.ma c.v.mem.length hd.mc, .slice hd.la c.v.lvs.length hd.lc, .slice hd.da c.v.ldr.length hd.dc, .slice aa1 N ac1] :: row 74 g5 #[.int .i64 kd, .int .u16 m1, .int .u32 m2, .int .u64 m3, .int .u64 (ms : Int), .int .u64 m5, .int .i64 m6, .int .u32 (mb.r : Int), .int .u16 (mb.w.1 : Int), .int .u32 (mb.w.2 : Int), .int .u32 (ma.r : Int), .int .u16 (ma.w.1 : Int), .int .u32 (ma.w.2 : Int), .bool mh, .int .i64 mc.kind, .int .u16 (mc.fr.1 : Int), .int .u32 (mc.fr.2 : Int), .int .u64 (mc.num : Int), .int .u64 (mc.vw : Int), .slice me.ba mc.data.length me.bc, .int .u64 (mc.v.id : Int), .slice me.ma mc.v.mem.length me.mc, .slice me.la mc.v.lvs.length me.lc, .slice me.da mc.v.ldr.length me.dc, .int .u64 (mv.id : Int), .slice mx.ma mv.mem.length mx.mc, .slice mx.la mv.lvs.length mx.lc, .slice mx.da mv.ldr.length mx.dc, .slice my m7 mz] :: row 36 g4 #[.int .u16 (q.1 : Int), .int .u32 (q.2 : Int)] :: [])) (fun _ h => h.sub sU) ?_
      refine rg_take (i := 4) rfl kR kR kR (Yld.o rfl) (H.sub sU) ?_; simp only [pS]
      refine rg_take (i := 5) rfl kR kR kR (Yld.move rfl rfl) (H.sub sU) ?_; simp only [pS, pE]
      refine rg_take (i := 6) rfl kR kR kR (Yld.move rfl rfl) (H.sub sU) ?_; simp only [pS, pE]
      refine rg_take (i := 7) rfl kR kR kR (Yld.o rfl) (H.sub sU) ?_; simp only [pS]
      refine rg_take (i := 8) rfl kR kR kR (Yld.o rfl) (H.sub sU) ?_; simp only [pS]
      first | (refine rg_take (i := 9) rfl kR kR kR (Yld.ldc rfl rfl agg23 rfl mR cE) (H.sub sU) ?_; simp only [pS]) | (refine rg_take (i := 9) rfl kR kR kR (Yld.ldo rfl rfl agg23 rfl (by assumption) (by assumption)) (H.sub sU) ?_; simp only [pS])
      refine rg_take (i := 10) rfl kR kR kR (Yld.o rfl) (H.sub sU) ?_; simp only [pS]
      refine rg_take (i := 11) rfl kR kR kR (Yld.of (v := .int .i64 ((2 * N : Nat) : Int)) rfl (fun W _ => by go_simp; first | done | exact HW2.out | (rw [HW2.out]))) (H.sub sU) ?_; simp only [pS, pE]
      refine rg_take (i := 12) rfl kR kR kR (Yld.move rfl rfl) (H.sub sU) ?_; simp only [pS, pE]
      refine rg_take (i := 13) rfl kR kR kR (Yld.o rfl) (H.sub sU) ?_; simp only [pS]
      refine rg_take (i := 14) rfl kR kR kR (Yld.o rfl) (H.sub sU) ?_; simp only [pS]
      first | (refine rg_take (i := 15) rfl kR kR kR (Yld.ldc rfl rfl agg23 rfl mR cE) (H.sub sU) ?_; simp only [pS]) | (refine rg_take (i := 15) rfl kR kR kR (Yld.ldo rfl rfl agg23 rfl (by assumption) (by assumption)) (H.sub sU) ?_; simp only [pS])
      refine rg_take (i := 16) rfl kR kR kR (Yld.o rfl) (H.sub sU) ?_; simp only [pS]
      refine rg_take (i := 17) rfl kR kR kR (Yld.of (v := .bool false) rfl (fun W _ => by go_simp; first | done | exact HLE.out | (rw [HLE.out]) | (simpa using HLE.out) | (have hq := HLE.out; omega) | (have hq := HLE.out; simp at hq ⊢; omega))) (H.sub sU) ?_; simp only [pS, pE]
      refine rg_take (i := 18) rfl kR kR kR (Yld.pick rfl rfl rfl) (H.sub sU) ?_; simp only [pS, pE]
      refine rg_done (by kernel_rfl) ?_
      have HNL := Lib.hid hNl
      clear hNl
      go_wp2_with (first | (go_at_call 108; (with_reducible refine (rclear_ok gx se sn bl 2 la lc ld s2 hs un c hd aa1 ac1 (an ++ [q]) _ (by rw [HNL.out]; exact (H.pull (r := row 69 gx #[.int .u16 (se.1 : Int), .int .u32 (se.2 : Int), .int .u32 (sn.r : Int), .int .u16 (sn.w.1 : Int), .int .u32 (sn.w.2 : Int), .int .u32 (bl.r : Int), .int .u16 (bl.w.1 : Int), .int .u32 (bl.w.2 : Int), .int .i64 2, .slice la ld.length lc, .int .u64 (s2 : Int), .bool hs, .int .u32 (un.r : Int), .int .u16 (un.w.1 : Int), .int .u32 (un.w.2 : Int), .int .i64 c.kind, .int .u16 (c.fr.1 : Int), .int .u32 (c.fr.2 : Int), .int .u64 (c.num : Int), .int .u64 (c.vw : Int), .slice hd.ba c.data.length hd.bc, .int .u64 (c.v.id : Int), .slice hd.ma c.v.mem.length hd.mc, .slice hd.la c.v.lvs.length hd.lc, .slice hd.da c.v.ldr.length hd.dc, .slice aa1 N ac1]) pU))).mono ?_); rintro e w1 ⟨v, rfl, hr⟩; obtain ⟨rfl, H2⟩ := hr; clear H; have H := H2; clear H2; rw [HNL.out] at H) | (with_reducible refine wpl rfl (Stp.stc rfl size3 rfl rfl rfl rfl H uP (by first | omega | (simp; done) | (simp; omega)) ?_); clear H; intro w1 H; simp only [pS]; simp only [pE, nC, pS] at H) | (with_reducible refine wpl rfl (Stp.ldc rfl agg22 rfl H mR cE ?_); simp only [pS]) | (with_reducible refine wpl rfl (Stp.stc rfl size22 rfl rfl rfl rfl H uP (by first | omega | (simp; done) | (simp; omega)) ?_); clear H; intro w1 H; simp only [pS]; simp only [pE, nC, pS] at H))
      go_ret
      have H3 := ((H.pull (r := slc 36 2 (.slice aa1 N ac1) N (pv (an ++ [q]))) pU).pull (r := row 69 gx _) pU).sub (L' := _ :: _ :: L) sU
      exact ⟨_, rfl, true, rfl, XS.of gx se sn bl 2 la lc ld s2 false bl0 cm0 hd0 aa1 ac1 (an ++ [q]) HNL.out ((HI.out.ca HNM.out).cm0 HI.out.sr)  H3⟩
  · have HR := Lib.hid h
    have HNM : Hid (an.length ≤ m + 1) := Lib.hid (Nat.le_succ_of_le HAN.out)
    clear h
    go_enter Try.func77, Try.ntmps77
    go_wp2_with (first | (with_reducible refine wpl rfl (Stp.box 4 rfl rfl rfl H ?_); clear H; intro g4 w1 H; simp only [pS]; simp only [pE, nC, pS] at H) | (with_reducible refine wpl rfl (Stp.box 5 rfl rfl rfl H ?_); clear H; intro g5 w1 H; simp only [pS]; simp only [pE, nC, pS] at H))
    refine rg_begin 19 rfl (S := fun W => St _ _ W (row 74 g5 #[.int .i64 kd, .int .u16 m1, .int .u32 m2, .int .u64 m3, .int .u64 (ms : Int), .int .u64 m5, .int .i64 m6, .int .u32 (mb.r : Int), .int .u16 (mb.w.1 : Int), .int .u32 (mb.w.2 : Int), .int .u32 (ma.r : Int), .int .u16 (ma.w.1 : Int), .int .u32 (ma.w.2 : Int), .bool mh, .int .i64 mc.kind, .int .u16 (mc.fr.1 : Int), .int .u32 (mc.fr.2 : Int), .int .u64 (mc.num : Int), .int .u64 (mc.vw : Int), .slice me.ba mc.data.length me.bc, .int .u64 (mc.v.id : Int), .slice me.ma mc.v.mem.length me.mc, .slice me.la mc.v.lvs.length me.lc, .slice me.da mc.v.ldr.length me.dc, .int .u64 (mv.id : Int), .slice mx.ma mv.mem.length mx.mc, .slice mx.la mv.lvs.length mx.lc, .slice mx.da mv.ldr.length mx.dc, .slice my m7 mz] :: row 36 g4 #[.int .u16 (q.1 : Int), .int .u32 (q.2 : Int)] :: [])) (by kernel_rfl) (H.drew.sub sU) ?_
    replace H := H.drew
    have HS := H
    refine rg_take (i := 0) rfl kR kR kR (Yld.move rfl rfl) (H.sub sU) ?_; simp only [pS, pE]
    first | (refine rg_take (i := 1) rfl kR kR kR (Yld.ldr rfl rfl agg36 size36 rfl mR sZ) (H.sub sU) ?_; simp only [pS]) | (refine rg_take (i := 1) rfl kR kR kR (Yld.ldl rfl rfl agg36 size36 rfl mR (by simp)) (H.sub sU) ?_; simp only [pS]; simp only [List.drop_succ_cons, List.drop_zero, List.take_succ_cons, List.take_zero]) | (refine rg_take (i := 1) rfl kR kR kR (Yld.ldor rfl rfl agg36 size36 rfl (by assumption) sZ (by assumption)) (H.sub sU) ?_; simp only [pS])
    first | (refine rg_take (i := 2) rfl kR kR kR (Yld.ldr rfl rfl agg74 size74 rfl mR sZ) (H.sub sU) ?_; simp only [pS]) | (refine rg_take (i := 2) rfl kR kR kR (Yld.ldl rfl rfl agg74 size74 rfl mR (by simp)) (H.sub sU) ?_; simp only [pS]; simp only [List.drop_succ_cons, List.drop_zero, List.take_succ_cons, List.take_zero]) | (refine rg_take (i := 2) rfl kR kR kR (Yld.ldor rfl rfl agg74 size74 rfl (by assumption) sZ (by assumption)) (H.sub sU) ?_; simp only [pS])
    refine rg_one (i := 3) (by kernel_rfl) rfl rfl (fun K hK => ?_)
    refine wp_callf rfl ent109 (ransw_no gx se sn bl ph la lc ld sl hs un c hd aa ac an 3 7 q kd m1 m2 m3 m5 m6 ms mb ma mh mc me mv mx my m7 mz hn (HL.out _) HR.out _ ((H.pull (r := slc 36 2 (.slice aa an.length ac) an.length (pv an)) pU).pull (r := row 69 gx #[.int .u16 (se.1 : Int), .int .u32 (se.2 : Int), .int .u32 (sn.r : Int), .int .u16 (sn.w.1 : Int), .int .u32 (sn.w.2 : Int), .int .u32 (bl.r : Int), .int .u16 (bl.w.1 : Int), .int .u32 (bl.w.2 : Int), .int .i64 ph, .slice la ld.length lc, .int .u64 (sl : Int), .bool hs, .int .u32 (un.r : Int), .int .u16 (un.w.1 : Int), .int .u32 (un.w.2 : Int), .int .i64 c.kind, .int .u16 (c.fr.1 : Int), .int .u32 (c.fr.2 : Int), .int .u64 (c.num : Int), .int .u64 (c.vw : Int), .slice hd.ba c.data.length hd.bc, .int .u64 (c.v.id : Int), .slice hd.ma c.v.mem.length hd.mc, .slice hd.la c.v.lvs.length hd.lc, .slice hd.da c.v.ldr.length hd.dc, .slice aa an.length ac]) pU)) rfl (fun v w1 hr => ?_)
    obtain ⟨aa1, ac1, rfl, H2⟩ := hr
    clear H
    have H := H2
    clear H2
    clear HS
    have HS := H
    refine hK.out _ _ (H.sub sU) ?_
    clear hK K
    simp only [pS]
    refine rg_take (i := 4) rfl kR kR kR (Yld.o rfl) (H.sub sU) ?_; simp only [pS]
    refine rg_take (i := 5) rfl kR kR kR (Yld.move rfl rfl) (H.sub sU) ?_; simp only [pS, pE]
    refine rg_take (i := 6) rfl kR kR kR (Yld.skip rfl) (H.sub sU) ?_; simp only [pS]
    refine rg_take (i := 7) rfl kR kR kR (Yld.skip rfl) (H.sub sU) ?_; simp only [pS]
    refine rg_take (i := 8) rfl kR kR kR (Yld.skip rfl) (H.sub sU) ?_; simp only [pS]
    refine rg_take (i := 9) rfl kR kR kR (Yld.skip rfl) (H.sub sU) ?_; simp only [pS]
    refine rg_take (i := 10) rfl kR kR kR (Yld.skip rfl) (H.sub sU) ?_; simp only [pS]
    refine rg_take (i := 11) rfl kR kR kR (Yld.skip rfl) (H.sub sU) ?_; simp only [pS]
    refine rg_take (i := 12) rfl kR kR kR (Yld.skip rfl) (H.sub sU) ?_; simp only [pS]
    refine rg_take (i := 13) rfl kR kR kR (Yld.skip rfl) (H.sub sU) ?_; simp only [pS]
    refine rg_take (i := 14) rfl kR kR kR (Yld.skip rfl) (H.sub sU) ?_; simp only [pS]
    refine rg_take (i := 15) rfl kR kR kR (Yld.skip rfl) (H.sub sU) ?_; simp only [pS]
    refine rg_take (i := 16) rfl kR kR kR (Yld.skip rfl) (H.sub sU) ?_; simp only [pS]
    refine rg_take (i := 17) rfl kR kR kR (Yld.skip rfl) (H.sub sU) ?_; simp only [pS]
    refine rg_take (i := 18) rfl kR kR kR (Yld.pick rfl rfl rfl) (H.sub sU) ?_; simp only [pS, pE]
    refine rg_done (by kernel_rfl) ?_
    go_wp2_with fail
    go_ret
    exact ⟨_, rfl, false, rfl, XS.of gx se sn bl ph la lc ld sl hs un c hd aa1 ac1 an rfl (HI.out.ca HNM.out)  (((H.pull (r := slc 36 2 (.slice aa1 an.length ac1) an.length (pv an)) pU).pull (r := row 69 gx _) pU).sub sU)⟩
end Go.Proofs.Ytjghcmejmdllbaa
