/- The statement ElectRises of layer 21 (elect): the law's do of any act, the law's walk; the bounds stand in it. -/
import Derived.Test.YtjghcmejmdllbaaEz29
namespace Go.Proofs.Ytjghcmejmdllbaa
open Go.ChangeShapes Go.WideShapes Go.ChangeAt Go.RowKit Go.Maps Go.Deep
set_option linter.unusedVariables false
set_option linter.unusedSimpArgs false
set_option linter.unusedSectionVars false
set_option maxRecDepth 100000
set_option maxHeartbeats 8000000
theorem gM_c {mc : Cm} {mv : Vw} {m7 : Nat} (h : gM mc mv m7 = false) : gC mc = false := by
  unfold gM at h
  simp only [Bool.or_eq_false_iff] at h
  exact h.1.2
theorem gV_sm2 {x : Vw} (h : gV x = false) : smV x ∧ x.ldr.length < 1000 := by
  unfold gV at h
  simp only [Bool.or_eq_false_iff, decide_eq_false_iff_not, List.any_eq_false] at h
  obtain ⟨⟨⟨h2, h3⟩, h4⟩, h5⟩ := h
  exact ⟨⟨by omega, by omega, fun l hl => by have := h5 l hl; simp at this; omega, by omega⟩, by omega⟩
theorem gC_sm2 {c : Cm} (h : gC c = false) : smC c := by
  unfold gC at h
  simp only [Bool.or_eq_false_iff, decide_eq_false_iff_not] at h
  exact ⟨by omega, (gV_sm2 h.2).1⟩
theorem gA_all {a : Ag} (h : gA a = false) : gV a.x = false ∧ gC a.mc = false ∧ gC a.c = false := by
  unfold gA at h
  simp only [Bool.or_eq_false_iff] at h
  exact ⟨h.1, gM_c h.2.1, h.2.2⟩
theorem St.unX {B : Nat} {w0 w : World} {L : List Res} {r s R : Res} (H : St B w0 w (R :: Go.Proofs.Ytjghcmejmdllbaa.sep r s :: L)) : St B w0 w (r :: s :: R :: L) := by
  have H2 := H.swap.part
  exact H2
/-- What the law's do makes, of any act. -/
theorem do21_ok {w0 : World} {L : List Res} (gp gx : Nat) (sf : Pr) (d : Pd) (R : Res) (hR : ProR gp sf d R) (hw : Pw d) (hf1 : sf.1 < 65536) (hf2 : sf.2 < 4294967296) (m : Nat) (hmm : m ≤ 1000) (X : Res) (hX : XaR w0.heap.size w0 (Old w0) gx m X)
    (a : Ag) (hwa : wfAg w0 a) (hg : gA a = false) (j : Nat) (hj : (a.kind % ((10 : Nat) : Int)).toNat = j) (w : World) (H : St w0.heap.size w0 w (R :: X :: L)) :
    Calls Try.prog 32 #[.pointer (some ⟨gp, 0, none⟩), .pointer (some ⟨gx, 0, none⟩), .agg (agC a)] w (Ret fun v w' => ∃ e : Bool, v = .bool e ∧ DX w0.heap.size w0 (Old w0) w' gp gx sf d (m + 1) a.mb j L) := by
  obtain ⟨se, sn, bl, ph, la, lc, ld, sl, hs, un, c0, hd, aa, ac, an, hI, rfl⟩ := hX
  replace H := H.unX
  obtain ⟨hg1, hg2, hg3⟩ := gA_all hg
  have hv := gV_sm2 hg1
  have hc1 := gC_sm2 hg2
  have hc2 := gC_sm2 hg3
  obtain ⟨kind, x, xh, s0, q, kd, m1, m2, m3, m5, m6, ms, mb, ma, mh, mc, me, mv, mx, my, m7, mz, ft, c, h⟩ := a
  obtain ⟨h1, h2, h3, h4, h5, h6, h7, h8⟩ := hwa
  simp only at h1 h2 h3 h6 h7 h8 hv hc1 hc2 hj
  have hj10 : j < 10 := by omega
  have hvx : ∀ L, Rd w0.heap.size w0 L fun W => VwG (Old w0) W (.slice xh.ma x.mem.length xh.mc) (.slice xh.la x.lvs.length xh.lc) (.slice xh.da x.ldr.length xh.dc) x := fun L W hW _ => h2.grow hW
  have hxm : ∀ L, Rd w0.heap.size w0 L fun W => CmG (Old w0) W (.slice me.ba mc.data.length me.bc) (.slice me.ma mc.v.mem.length me.mc) (.slice me.la mc.v.lvs.length me.lc) (.slice me.da mc.v.ldr.length me.dc) mc := fun L W hW _ => h6.x.grow hW
  have hxc : ∀ L, Rd w0.heap.size w0 L fun W => CmG (Old w0) W (.slice h.ba c.data.length h.bc) (.slice h.ma c.v.mem.length h.mc) (.slice h.la c.v.lvs.length h.lc) (.slice h.da c.v.ldr.length h.dc) c := fun L W hW _ => h8.grow hW
  have hjj : j = 0 ∨ (j = 1 ∨ j = 2) ∨ j = 3 ∨ (j = 4 ∨ j = 5) ∨ j = 6 ∨ j = 7 ∨ j = 8 ∨ j = 9 := by omega
  rcases hjj with hjj | hjj | hjj | hjj | hjj | hjj | hjj | hjj
  · cases ft
    · exact do21_start0 gp gx sf d R hR hw hf1 hf2 m hmm se sn bl ph la lc ld sl hs un c0 hd aa ac an hI kind x xh.ma xh.la xh.da xh.mc xh.lc xh.dc s0 q kd m1 m2 m3 m5 m6 ms mb ma mh mc me mv mx my m7 mz c h hv.1 h1 hv.2 hvx h3 h6.b0 h6.b1 h6.b2 h6.a1 h6.a2 hc1 hxm hc2 h7 hxc j hj hjj w H
    · exact do21_start1 gp gx sf d R hR hw hf1 hf2 m hmm se sn bl ph la lc ld sl hs un c0 hd aa ac an hI kind x xh.ma xh.la xh.da xh.mc xh.lc xh.dc s0 q kd m1 m2 m3 m5 m6 ms mb ma mh mc me mv mx my m7 mz c h hv.1 h1 hv.2 hvx h3 h6.b0 h6.b1 h6.b2 h6.a1 h6.a2 hc1 hxm hc2 h7 hxc j hj hjj w H
  · cases ft
    · exact do21_prom0 gp gx sf d R hR hw hf1 hf2 m hmm se sn bl ph la lc ld sl hs un c0 hd aa ac an hI kind x xh.ma xh.la xh.da xh.mc xh.lc xh.dc s0 q kd m1 m2 m3 m5 m6 ms mb ma mh mc me mv mx my m7 mz c h hv.1 h1 hv.2 hvx h3 h6.b0 h6.b1 h6.b2 h6.a1 h6.a2 hc1 hxm hc2 h7 hxc j hj hjj w H
    · exact do21_prom1 gp gx sf d R hR hw hf1 hf2 m hmm se sn bl ph la lc ld sl hs un c0 hd aa ac an hI kind x xh.ma xh.la xh.da xh.mc xh.lc xh.dc s0 q kd m1 m2 m3 m5 m6 ms mb ma mh mc me mv mx my m7 mz c h hv.1 h1 hv.2 hvx h3 h6.b0 h6.b1 h6.b2 h6.a1 h6.a2 hc1 hxm hc2 h7 hxc j hj hjj w H
  · cases ft
    · exact do21_prop0 gp gx sf d R hR hw hf1 hf2 m hmm se sn bl ph la lc ld sl hs un c0 hd aa ac an hI kind x xh.ma xh.la xh.da xh.mc xh.lc xh.dc s0 q kd m1 m2 m3 m5 m6 ms mb ma mh mc me mv mx my m7 mz c h hv.1 h1 hv.2 hvx h3 h6.b0 h6.b1 h6.b2 h6.a1 h6.a2 hc1 hxm hc2 h7 hxc j hj hjj w H
    · exact do21_prop1 gp gx sf d R hR hw hf1 hf2 m hmm se sn bl ph la lc ld sl hs un c0 hd aa ac an hI kind x xh.ma xh.la xh.da xh.mc xh.lc xh.dc s0 q kd m1 m2 m3 m5 m6 ms mb ma mh mc me mv mx my m7 mz c h hv.1 h1 hv.2 hvx h3 h6.b0 h6.b1 h6.b2 h6.a1 h6.a2 hc1 hxm hc2 h7 hxc j hj hjj w H
  · cases ft
    · exact do21_acc0 gp gx sf d R hR hw hf1 hf2 m hmm se sn bl ph la lc ld sl hs un c0 hd aa ac an hI kind x xh.ma xh.la xh.da xh.mc xh.lc xh.dc s0 q kd m1 m2 m3 m5 m6 ms mb ma mh mc me mv mx my m7 mz c h hv.1 h1 hv.2 hvx h3 h6.b0 h6.b1 h6.b2 h6.a1 h6.a2 hc1 hxm hc2 h7 hxc j hj hjj w H
    · exact do21_acc1 gp gx sf d R hR hw hf1 hf2 m hmm se sn bl ph la lc ld sl hs un c0 hd aa ac an hI kind x xh.ma xh.la xh.da xh.mc xh.lc xh.dc s0 q kd m1 m2 m3 m5 m6 ms mb ma mh mc me mv mx my m7 mz c h hv.1 h1 hv.2 hvx h3 h6.b0 h6.b1 h6.b2 h6.a1 h6.a2 hc1 hxm hc2 h7 hxc j hj hjj w H
  · cases ft
    · exact do21_nack0 gp gx sf d R hR hw hf1 hf2 m hmm se sn bl ph la lc ld sl hs un c0 hd aa ac an hI kind x xh.ma xh.la xh.da xh.mc xh.lc xh.dc s0 q kd m1 m2 m3 m5 m6 ms mb ma mh mc me mv mx my m7 mz c h hv.1 h1 hv.2 hvx h3 h6.b0 h6.b1 h6.b2 h6.a1 h6.a2 hc1 hxm hc2 h7 hxc j hj hjj w H
    · exact do21_nack1 gp gx sf d R hR hw hf1 hf2 m hmm se sn bl ph la lc ld sl hs un c0 hd aa ac an hI kind x xh.ma xh.la xh.da xh.mc xh.lc xh.dc s0 q kd m1 m2 m3 m5 m6 ms mb ma mh mc me mv mx my m7 mz c h hv.1 h1 hv.2 hvx h3 h6.b0 h6.b1 h6.b2 h6.a1 h6.a2 hc1 hxm hc2 h7 hxc j hj hjj w H
  · cases ft
    · exact do21_see0 gp gx sf d R hR hw hf1 hf2 m hmm se sn bl ph la lc ld sl hs un c0 hd aa ac an hI kind x xh.ma xh.la xh.da xh.mc xh.lc xh.dc s0 q kd m1 m2 m3 m5 m6 ms mb ma mh mc me mv mx my m7 mz c h hv.1 h1 hv.2 hvx h3 h6.b0 h6.b1 h6.b2 h6.a1 h6.a2 hc1 hxm hc2 h7 hxc j hj hjj w H
    · exact do21_see1 gp gx sf d R hR hw hf1 hf2 m hmm se sn bl ph la lc ld sl hs un c0 hd aa ac an hI kind x xh.ma xh.la xh.da xh.mc xh.lc xh.dc s0 q kd m1 m2 m3 m5 m6 ms mb ma mh mc me mv mx my m7 mz c h hv.1 h1 hv.2 hvx h3 h6.b0 h6.b1 h6.b2 h6.a1 h6.a2 hc1 hxm hc2 h7 hxc j hj hjj w H
  · cases ft
    · exact do21_move0 gp gx sf d R hR hw hf1 hf2 m hmm se sn bl ph la lc ld sl hs un c0 hd aa ac an hI kind x xh.ma xh.la xh.da xh.mc xh.lc xh.dc s0 q kd m1 m2 m3 m5 m6 ms mb ma mh mc me mv mx my m7 mz c h hv.1 h1 hv.2 hvx h3 h6.b0 h6.b1 h6.b2 h6.a1 h6.a2 hc1 hxm hc2 h7 hxc j hj hjj w H
    · exact do21_move1 gp gx sf d R hR hw hf1 hf2 m hmm se sn bl ph la lc ld sl hs un c0 hd aa ac an hI kind x xh.ma xh.la xh.da xh.mc xh.lc xh.dc s0 q kd m1 m2 m3 m5 m6 ms mb ma mh mc me mv mx my m7 mz c h hv.1 h1 hv.2 hvx h3 h6.b0 h6.b1 h6.b2 h6.a1 h6.a2 hc1 hxm hc2 h7 hxc j hj hjj w H
  · cases ft
    · exact do21_stop0 gp gx sf d R hR hw hf1 hf2 m hmm se sn bl ph la lc ld sl hs un c0 hd aa ac an hI kind x xh.ma xh.la xh.da xh.mc xh.lc xh.dc s0 q kd m1 m2 m3 m5 m6 ms mb ma mh mc me mv mx my m7 mz c h hv.1 h1 hv.2 hvx h3 h6.b0 h6.b1 h6.b2 h6.a1 h6.a2 hc1 hxm hc2 h7 hxc j hj hjj w H
    · exact do21_stop1 gp gx sf d R hR hw hf1 hf2 m hmm se sn bl ph la lc ld sl hs un c0 hd aa ac an hI kind x xh.ma xh.la xh.da xh.mc xh.lc xh.dc s0 q kd m1 m2 m3 m5 m6 ms mb ma mh mc me mv mx my m7 mz c h hv.1 h1 hv.2 hvx h3 h6.b0 h6.b1 h6.b2 h6.a1 h6.a2 hc1 hxm hc2 h7 hxc j hj hjj w H
theorem wfM.grow {w w' : World} {ms : Nat} {mb ma : Bl} {mc : Cm} {me : Hd} {mv : Vw} {mx : Hd} {m7 mz : Nat} (h : wfM w ms mb ma mc me mv mx m7 mz) (hb : Below w.heap.size w w') : wfM w' ms mb ma mc me mv mx m7 mz :=
  ⟨h.s, h.b0, h.b1, h.b2, h.a0, h.a1, h.a2, h.c, (h.x.grow hb).mono (fun g hg => Nat.lt_of_lt_of_le hg hb.size), h.v, (h.y.grow hb).mono (fun g hg => Nat.lt_of_lt_of_le hg hb.size), h.cap⟩
theorem wfAg.grow {w w' : World} {a : Ag} (h : wfAg w a) (hb : Below w.heap.size w w') : wfAg w' a :=
  ⟨h.v, (h.vx.grow hb).mono (fun g hg => Nat.lt_of_lt_of_le hg hb.size), h.s0, h.q1, h.q2, h.m.grow hb, h.c, (h.cx.grow hb).mono (fun g hg => Nat.lt_of_lt_of_le hg hb.size)⟩
theorem blc_one (b : Bl) : ∀ u ∈ (#[.int .u32 (b.r : Int), .int .u16 (b.w.1 : Int), .int .u32 (b.w.2 : Int)] : Array Value).toList, u.oneCell' = true := by
  intro u hu
  simp only [List.mem_cons, List.not_mem_nil, or_false] at hu
  rcases hu with rfl | rfl | rfl <;> rfl
theorem blt_of_lt {a b : Bl} (h : a.r < b.r) : blt a b = true := by
  unfold blt
  rw [if_neg (by omega)]
  exact decide_eq_true h
section
variable {a : Act} {w : World} {o : Oper} {N : Act → World → Prop} {x y : Operand} {b1 b2 : Bl} {r : Bool}
theorem Stp.neqBl (ho : o.op = .binOp .neq 67 x y 67) (hx : a.eval x = .agg (blC b1)) (hy : a.eval y = .agg (blC b2)) (h0 : (!(decide (b1 = b2))) = r) (h : N (a.put o.dst (.bool r)) w) : Stp Try.prog o a w N := by
  refine ⟨w, .inl ⟨_, ?_, h⟩⟩
  unfold execOp; simp only [ho, hx, hy]
  simp [run_neq_bl b1 b2 r h0, eqGuard, eqg_BT]
end
def pd0 : Pd := ⟨bl0, 0, [], 0, bl0, 0, 0, none⟩
theorem St.init21 {w0 w : World} {L : List Res} {gp gx : Nat} {sf : Pr} (H : St w0.heap.size w0 w (row 69 gx #[.int .u16 (sf.1 : Int), .int .u32 (sf.2 : Int), .int .u32 0, .int .u16 0, .int .u32 0, .int .u32 0, .int .u16 0, .int .u32 0, .int .i64 0, .slice none 0 0, .int .u64 0, .bool false, .int .u32 0, .int .u16 0, .int .u32 0, .int .i64 0, .int .u16 0, .int .u32 0, .int .u64 0, .int .u64 0, .slice none 0 0, .int .u64 0, .slice none 0 0, .slice none 0 0, .slice none 0 0, .slice none 0 0] :: row 129 gp #[.int .u16 (sf.1 : Int), .int .u32 (sf.2 : Int), .int .u32 0, .int .u16 0, .int .u32 0, .int .i64 0, .slice none 0 0, .int .u64 0, .int .u32 0, .int .u16 0, .int .u32 0, .pointer none, .int .u64 0, .int .u64 0] :: L)) : ∃ R X : Res, ProR gp sf pd0 R ∧ XaR w0.heap.size w0 (Old w0) gx 0 X ∧ St w0.heap.size w0 w (R :: X :: L) := by
  have H1 := ((H.nil 36 2).pull (r := row 69 gx _) pU).sep
  have H2 := ((((H1.nil 36 2).empR.pull (r := slc 36 2 _ _ _) pU).pull (r := row 129 gp _) pU)).mkR
  refine ⟨_, _, ⟨none, 0, none, Go.Proofs.Ytjghcmejmdllbaa.empR, ⟨rfl, rfl⟩, rfl⟩, XaR.mk sf bl0 bl0 0 none 0 [] 0 false bl0 cm0 hd0 none 0 [] ⟨Nat.zero_le _, cm0_sm, by show (0 : Nat) < 4294967296; decide, fun W _ _ => ⟨none, 0, rfl, by simp [maxLen], fun h => absurd h (Nat.lt_irrefl _)⟩, fun W _ _ => CmG.nil _ _ 0⟩, H2⟩
attribute [local irreducible] gA blt fv
theorem law_erises (sf : Pr) (hf1 : sf.1 < 65536) (hf2 : sf.2 < 4294967296) (va : Option Addr) (vc : Nat) (l : List Ag) (w : World) (hs : Sl w 48 l.length (.slice va l.length vc) (elG l)) (hx : ∀ a ∈ l, wfAg w a) :
    Calls Try.prog 8 #[.agg #[.int .u16 (sf.1 : Int), .int .u32 (sf.2 : Int)], .slice va l.length vc] w (Ret fun v w' => v = .bool true ∧ Below w.heap.size w w') := by
  have H := St.init w
  have HXX := Lib.hid hx
  clear hx
  obtain ⟨e, he⟩ : ∃ e, ((l.take 60).any fun a => gA a) = e := ⟨_, rfl⟩
  have HE := Lib.hid he
  obtain ⟨n, hn⟩ : ∃ n, l.length = n := ⟨_, rfl⟩
  have HN := Lib.hid hn
  have hs0 := hs
  rw [hn] at hs0 ⊢
  clear hs hn
  cases e
  case true =>
    clear he
    go_enter Try.func8, Try.ntmps8
    go_wp2_with (first | (go_at_call 28; (with_reducible refine (great21_n va vc l n HN.out _ (hs0.grow H.below) (fun a ha => (HXX.out a ha).grow H.below)).mono ?_); rintro e w1 ⟨v, rfl, hr⟩; obtain ⟨rfl, hb1⟩ := hr; replace H := H.grow hb1; clear hb1; rw [HE.out]) | (go_at_call 29; (with_reducible refine (aw21_ok _).mono ?_); rintro e w1 ⟨v, rfl, hr⟩; obtain ⟨rfl, hb1⟩ := hr; replace H := H.grow hb1; clear hb1) | (with_reducible refine wpl rfl (Stp.box 2 rfl rfl rfl H ?_); clear H; intro g2 w1 H; simp only [pS]; simp only [pE, nC, pS] at H))
    go_ret
    exact ⟨_, rfl, rfl, H.below⟩
  obtain ⟨_, _, _, hmx, _⟩ := id hs0
  unfold maxLen at hmx
  clear he
  go_enter Try.func8, Try.ntmps8
  go_upto_region 3 with (first | (go_at_call 28; (with_reducible refine (great21_n va vc l n HN.out _ (hs0.grow H.below) (fun a ha => (HXX.out a ha).grow H.below)).mono ?_); rintro e w1 ⟨v, rfl, hr⟩; obtain ⟨rfl, hb1⟩ := hr; replace H := H.grow hb1; clear hb1; rw [HE.out]) | (with_reducible refine wpl rfl (Stp.box 2 rfl rfl rfl H ?_); clear H; intro g2 w1 H; simp only [pS]; simp only [pE, nC, pS] at H))
  go_cut [5, 6] from 12 (fun s5 s6 w' => ∃ gp gx, s5 = .pointer (some ⟨gp, 0, none⟩) ∧ s6 = .pointer (some ⟨gx, 0, none⟩) ∧ St w.heap.size w w' (row 69 gx #[.int .u16 (sf.1 : Int), .int .u32 (sf.2 : Int), .int .u32 0, .int .u16 0, .int .u32 0, .int .u32 0, .int .u16 0, .int .u32 0, .int .i64 0, .slice none 0 0, .int .u64 0, .bool false, .int .u32 0, .int .u16 0, .int .u32 0, .int .i64 0, .int .u16 0, .int .u32 0, .int .u64 0, .int .u64 0, .slice none 0 0, .int .u64 0, .slice none 0 0, .slice none 0 0, .slice none 0 0, .slice none 0 0] :: row 129 gp #[.int .u16 (sf.1 : Int), .int .u32 (sf.2 : Int), .int .u32 0, .int .u16 0, .int .u32 0, .int .i64 0, .slice none 0 0, .int .u64 0, .int .u32 0, .int .u16 0, .int .u32 0, .pointer none, .int .u64 0, .int .u64 0] :: row 36 g2 #[.int .u16 (sf.1 : Int), .int .u32 (sf.2 : Int)] :: []))
  case first =>
    refine rg_begin 7 rfl (S := fun W => St _ _ W (row 36 g2 #[.int .u16 (sf.1 : Int), .int .u32 (sf.2 : Int)] :: [])) (by kernel_rfl) (H.drew.sub sU) ?_
    replace H := H.drew
    have HS := H
    first | (refine rg_take (i := 0) rfl kR kR kR (Yld.ldr rfl rfl agg36 size36 rfl mR sZ) (H.sub sU) ?_; simp only [pS]) | (refine rg_take (i := 0) rfl kR kR kR (Yld.ldl rfl rfl agg36 size36 rfl mR (by simp)) (H.sub sU) ?_; simp only [pS]; simp only [List.drop_succ_cons, List.drop_zero, List.take_succ_cons, List.take_zero]) | (refine rg_take (i := 0) rfl kR kR kR (Yld.ldor rfl rfl agg36 size36 rfl (by assumption) sZ (by assumption)) (H.sub sU) ?_; simp only [pS])
    first | (refine rg_take (i := 2) rfl kR kR kR (Yld.ldr rfl rfl agg36 size36 rfl mR sZ) (H.sub sU) ?_; simp only [pS]) | (refine rg_take (i := 2) rfl kR kR kR (Yld.ldl rfl rfl agg36 size36 rfl mR (by simp)) (H.sub sU) ?_; simp only [pS]; simp only [List.drop_succ_cons, List.drop_zero, List.take_succ_cons, List.take_zero]) | (refine rg_take (i := 2) rfl kR kR kR (Yld.ldor rfl rfl agg36 size36 rfl (by assumption) sZ (by assumption)) (H.sub sU) ?_; simp only [pS])
    refine rg_take (i := 3) rfl kR kR kR (Yld.of (v := (.agg #[.int .u16 (sf.1 : Int), .int .u32 (sf.2 : Int), .int .u32 0, .int .u16 0, .int .u32 0, .int .u32 0, .int .u16 0, .int .u32 0, .int .i64 0, .slice none 0 0, .int .u64 0, .bool false, .int .u32 0, .int .u16 0, .int .u32 0, .int .i64 0, .int .u16 0, .int .u32 0, .int .u64 0, .int .u64 0, .slice none 0 0, .int .u64 0, .slice none 0 0, .slice none 0 0, .slice none 0 0, .slice none 0 0])) rfl (fun W _ => by kernel_rfl)) (H.sub sU) ?_; simp only [pS, pE]
    refine rg_all (rs := [1, 4]) (by kernel_rfl) (by simp) ?_
    refine rg_cons (i := 1) rfl rfl (fun K hK => ?_) ?_
    · -- 1
      refine wp_callf rfl ent30 (enew_ok sf _ H) rfl (fun v w1 hr => ?_)
      obtain ⟨gp, rfl, H2⟩ := hr
      clear H
      have H := H2
      clear H2
      clear HS
      have HS := H
      refine hK.out _ _ (H.sub sU) ?_
      clear hK K
      simp only [pS]
      refine rg_take (i := 5) rfl kR kR kR (Yld.assign rfl rfl) (H.sub sU) ?_; simp only [pS, pE]
      refine rg_one (i := 4) (by kernel_rfl) rfl rfl (fun K hK => ?_)
      refine Stp.wp (Stp.box (v := (.agg #[.int .u16 (sf.1 : Int), .int .u32 (sf.2 : Int), .int .u32 0, .int .u16 0, .int .u32 0, .int .u32 0, .int .u16 0, .int .u32 0, .int .i64 0, .slice none 0 0, .int .u64 0, .bool false, .int .u32 0, .int .u16 0, .int .u32 0, .int .i64 0, .int .u16 0, .int .u32 0, .int .u64 0, .int .u64 0, .slice none 0 0, .int .u64 0, .slice none 0 0, .slice none 0 0, .slice none 0 0, .slice none 0 0])) 19 rfl rfl rfl H ?_)
      clear H
      intro g19 w1 H
      simp only [cells_agg] at H
      clear HS
      have HS := H
      refine hK.out _ _ (H.sub sU) ?_
      clear hK K
      simp only [pS]
      refine rg_take (i := 6) rfl kR kR kR (Yld.assign rfl rfl) (H.sub sU) ?_; simp only [pS, pE]
      refine rg_done (by kernel_rfl) ?_
      go_wp2_with fail
      go_meet
      exact ⟨gp, g19, rfl, rfl, ((H.pull (r := row 129 gp #[.int .u16 (sf.1 : Int), .int .u32 (sf.2 : Int), .int .u32 0, .int .u16 0, .int .u32 0, .int .i64 0, .slice none 0 0, .int .u64 0, .int .u32 0, .int .u16 0, .int .u32 0, .pointer none, .int .u64 0, .int .u64 0]) pU).pull (r := row 69 g19 #[.int .u16 (sf.1 : Int), .int .u32 (sf.2 : Int), .int .u32 0, .int .u16 0, .int .u32 0, .int .u32 0, .int .u16 0, .int .u32 0, .int .i64 0, .slice none 0 0, .int .u64 0, .bool false, .int .u32 0, .int .u16 0, .int .u32 0, .int .i64 0, .int .u16 0, .int .u32 0, .int .u64 0, .int .u64 0, .slice none 0 0, .int .u64 0, .slice none 0 0, .slice none 0 0, .slice none 0 0, .slice none 0 0]) pU).sub (L' := _ :: _ :: row 36 g2 #[.int .u16 (sf.1 : Int), .int .u32 (sf.2 : Int)] :: []) sU⟩
    refine rg_cons (i := 4) rfl rfl (fun K hK => ?_) ?_
    · -- 4
      refine Stp.wp (Stp.box (v := (.agg #[.int .u16 (sf.1 : Int), .int .u32 (sf.2 : Int), .int .u32 0, .int .u16 0, .int .u32 0, .int .u32 0, .int .u16 0, .int .u32 0, .int .i64 0, .slice none 0 0, .int .u64 0, .bool false, .int .u32 0, .int .u16 0, .int .u32 0, .int .i64 0, .int .u16 0, .int .u32 0, .int .u64 0, .int .u64 0, .slice none 0 0, .int .u64 0, .slice none 0 0, .slice none 0 0, .slice none 0 0, .slice none 0 0])) 19 rfl rfl rfl H ?_)
      clear H
      intro g19 w1 H
      simp only [cells_agg] at H
      clear HS
      have HS := H
      refine hK.out _ _ (H.sub sU) ?_
      clear hK K
      simp only [pS]
      refine rg_one (i := 1) (by kernel_rfl) rfl rfl (fun K hK => ?_)
      refine wp_callf rfl ent30 (enew_ok sf _ H) rfl (fun v w1 hr => ?_)
      obtain ⟨gp, rfl, H2⟩ := hr
      clear H
      have H := H2
      clear H2
      clear HS
      have HS := H
      refine hK.out _ _ (H.sub sU) ?_
      clear hK K
      simp only [pS]
      refine rg_take (i := 5) rfl kR kR kR (Yld.assign rfl rfl) (H.sub sU) ?_; simp only [pS, pE]
      refine rg_take (i := 6) rfl kR kR kR (Yld.assign rfl rfl) (H.sub sU) ?_; simp only [pS, pE]
      refine rg_done (by kernel_rfl) ?_
      go_wp2_with fail
      go_meet
      exact ⟨gp, g19, rfl, rfl, ((H.pull (r := row 129 gp #[.int .u16 (sf.1 : Int), .int .u32 (sf.2 : Int), .int .u32 0, .int .u16 0, .int .u32 0, .int .i64 0, .slice none 0 0, .int .u64 0, .int .u32 0, .int .u16 0, .int .u32 0, .pointer none, .int .u64 0, .int .u64 0]) pU).pull (r := row 69 g19 #[.int .u16 (sf.1 : Int), .int .u32 (sf.2 : Int), .int .u32 0, .int .u16 0, .int .u32 0, .int .u32 0, .int .u16 0, .int .u32 0, .int .i64 0, .slice none 0 0, .int .u64 0, .bool false, .int .u32 0, .int .u16 0, .int .u32 0, .int .i64 0, .int .u16 0, .int .u32 0, .int .u64 0, .int .u64 0, .slice none 0 0, .int .u64 0, .slice none 0 0, .slice none 0 0, .slice none 0 0, .slice none 0 0]) pU).sub (L' := _ :: _ :: row 36 g2 #[.int .u16 (sf.1 : Int), .int .u32 (sf.2 : Int)] :: []) sU⟩
    exact AllReadyH.nil
  case rest =>
  obtain ⟨gp, gx, rfl, rfl, H2⟩ := hcut
  clear H
  obtain ⟨R0, X0, hR0, hX0, H⟩ := H2.init21
  have HR0 := Lib.hid hR0
  have HX0 := Lib.hid hX0
  clear H2 hR0 hX0
  replace H := H.nil 67 3
  go_wp2_with fail
  go_loopw [7, 8] (fun s7 i wr => ∃ (q : Nat) (d : Pd) (R X : Res) (ss : List Bl) (sl : Nat) (sa : Option Addr) (sc : Nat), q ≤ n ∧ q ≤ 60 ∧ i = .int .i64 (q : Int) ∧ Hid (ProR gp sf d R) ∧ Hid (Pw d) ∧ Hid (XaR w.heap.size w (Old w) gx q X) ∧ Hid (∀ s ∈ ss, s.r ≤ d.sn.r) ∧ Hid (ss.length = sl) ∧ sl ≤ 2 * q ∧ s7 = .slice sa sl sc ∧ St w.heap.size w wr (slc 67 3 (.slice sa sl sc) sl (fv blC ss) :: R :: X :: row 36 g2 #[.int .u16 (sf.1 : Int), .int .u32 (sf.2 : Int)] :: [])) (fun _ i _ => 60 - (intOf i).toNat)
  case atStart => exact ⟨0, pd0, R0, X0, [], 0, none, 0, Nat.zero_le _, Nat.zero_le _, rfl, HR0, Lib.hid (Pw.new sf), HX0, Lib.hid (fun s hs => absurd hs List.not_mem_nil), Lib.hid rfl, Nat.zero_le _, rfl, (by have := H; unfold fv; exact this)⟩
  case round =>
    clear H HR0 HX0
    obtain ⟨q, d, R, X, ss, sl, sa, sc, hq, hq60, rfl, HR, HPW, HX, HSS, HSL, hsl, rfl, H⟩ := hrel
    by_cases hlt : q < n
    · have qli : (q : Int) < (n : Int) := by omega
      by_cases h60 : q < 60
      · have q60i : (q : Int) < 60 := by omega
        have hq1000 : q ≤ 1000 := by omega
        have hl1 : q < l.length := by rw [HN.out]; exact hlt
        obtain ⟨b1, o1, rfl, hbl1⟩ := hs0.addr (by omega)
        have hc1 := hs0.cell hlt
        unfold elG at hc1
        rw [getD_at hl1] at hc1
        have hmm := List.getElem_mem hl1
        have hgs := any_take HE.out hl1 h60
        obtain ⟨a, ha⟩ : ∃ a, l[q] = a := ⟨_, rfl⟩
        rw [ha] at hc1 hmm hgs
        have HWA : Hid (wfAg w a) := Lib.hid (HXX.out _ hmm)
        have HGA := Lib.hid hgs
        have hk0 : w.cell? ⟨b1, o1 + q * 48, none⟩ = some (.int .i64 a.kind) := by have := hc1 0 (by omega); rw [Nat.add_zero] at this; rw [this]; rfl
        have hkb : ∀ j, j < 3 → w.cell? ⟨b1, o1 + q * 48 + 8 + 7 + j, none⟩ = (#[.int .u32 (a.mb.r : Int), .int .u16 (a.mb.w.1 : Int), .int .u32 (a.mb.w.2 : Int)] : Array Value)[j]? := fun j hj => by
          rw [Nat.add_assoc, Nat.add_assoc, hc1 (8 + (7 + j)) (by omega)]
          have hj' : j = 0 ∨ j = 1 ∨ j = 2 := by omega
          rcases hj' with rfl | rfl | rfl <;> rfl
        obtain ⟨j, hj⟩ : ∃ j, (a.kind % ((10 : Nat) : Int)).toNat = j := ⟨_, rfl⟩
        have HJ := Lib.hid hj
        have hq2 : w.heap.size = w.heap.size := rfl
        clear hgs hmm ha hl1 hj
        go_upto_region 10 with (first | (go_at_call 31; (with_reducible refine (rballot_ok gp sf d R HR.out HPW.out _ (H.pull (r := R) pU)).mono ?_); rintro e w1 ⟨v, rfl, hr⟩; obtain ⟨rfl, H2⟩ := hr; clear H; have H := H2; clear H2) | (go_at_call 32; (with_reducible refine (do21_ok gp gx sf d R HR.out HPW.out hf1 hf2 q hq1000 X HX.out a HWA.out HGA.out j HJ.out _ ((H.pull (r := X) pU).pull (r := R) pU)).mono ?_); rintro e w1 ⟨v, rfl, hr⟩; obtain ⟨e1, rfl, d1, hd1, R1, hR1, X1, hX1, H2⟩ := hr; clear H; have H := H2; have HPW1 := Lib.hid hd1.1; have HMV := Lib.hid hd1.2.1; have HSE := Lib.hid hd1.2.2; have HR1 := Lib.hid hR1; have HX1 := Lib.hid hX1; clear H2 hR1 hX1 hd1) | (with_reducible refine wpl rfl (Stp.alloc 9 rfl rfl zero67 H ?_); clear H; intro g9 w1 H; simp only [pS]; simp only [nC] at H) | (with_reducible refine wpl rfl (Stp.str rfl size67 rfl rfl (by first | rfl | (simp [Value.oneCell']; done) | assumption) H uP sZ sZ ?_); clear H; intro w1 H; simp only [pS]) | (with_reducible refine wpl rfl (Stp.ldor rfl agg76 size76 rfl H (by assumption) sZ (by assumption) ?_); simp only [pS]))
        clear hc1
        by_cases hbl : d1.bl = d.bl
        · have HNE : Hid ((!(decide (d1.bl = d.bl))) = false) := Lib.hid (by simp [hbl])
          have HSS1 : Hid (∀ s ∈ ss, s.r ≤ d1.sn.r) := Lib.hid (fun s hs => Nat.le_trans (HSS.out s hs) HMV.out.1)
          clear hbl
          by_cases hj7 : j = 7
          · have hji : ((j : Int) == 7) = true := by simp; omega
            have HSS2 : Hid (∀ s ∈ ss ++ [a.mb], s.r ≤ d1.sn.r) := Lib.hid (by
              intro s hs
              rcases List.mem_append.1 hs with h1 | h1
              · exact HSS1.out s h1
              · obtain rfl := List.mem_singleton.1 h1; exact HSE.out hj7)
            have HSL2 : Hid ((ss ++ [a.mb]).length = sl + 1) := Lib.hid (by rw [List.length_append, HSL.out]; rfl)
            have HFV2 : Hid (fv blC ss ++ (blC a.mb).toList = fv blC (ss ++ [a.mb])) := Lib.hid (by rw [fv_app ss [a.mb], fv_one])
            clear hj7
            go_wp2_with (first | (go_at_call 31; (with_reducible refine (rballot_ok gp sf d1 R1 HR1.out HPW1.out _ (H.pull (r := R1) pU)).mono ?_); rintro e w1 ⟨v, rfl, hr⟩; obtain ⟨rfl, H2⟩ := hr; clear H; have H := H2; clear H2) | (with_reducible refine wpl rfl (Stp.neqBl rfl rfl rfl HNE.out ?_); simp only [pS]) | (go_at_call 34; (with_reducible refine (pick_mod _ _ 10 (by omega) (by omega) (by omega) _).mono ?_); rintro e w1 ⟨v, rfl, hr⟩; obtain ⟨rfl, hb1⟩ := hr; replace H := H.grow hb1; clear hb1; rw [HJ.out]) | (with_reducible refine wpl rfl (Stp.bsl (e := 67) (cs := #[.int .u32 (a.mb.r : Int), .int .u16 (a.mb.w.1 : Int), .int .u32 (a.mb.w.2 : Int)]) 79 rfl rfl (fun W => by kernel_rfl) H ?_); clear H; intro g79 w1 H; simp only [pS]) | (with_reducible refine wpl rfl (Stp.app 80 rfl rfl Try.underlying70 info67 rfl (by decide) rfl rfl H (fun _ => uP) (show ((#[.int .u32 (a.mb.r : Int), .int .u16 (a.mb.w.1 : Int), .int .u32 (a.mb.w.2 : Int)] : Array Value).toList).length = 1 * 3 from rfl) (newN (H.gr 67)) (blc_one a.mb) (by unfold maxLen; omega) (by omega) ?_); clear H; intro a80 c80 w1 H; simp only [pS]) | (with_reducible refine wpl rfl (Stp.str rfl size67 rfl rfl (by first | rfl | (simp [Value.oneCell']; done) | assumption) H uP sZ sZ ?_); clear H; intro w1 H; simp only [pS]) | (with_reducible refine wpl rfl (Stp.alloc 10 rfl rfl zero67 H ?_); clear H; intro g10 w1 H; simp only [pS]; simp only [nC] at H) | (with_reducible refine wpl rfl (Stp.ldr rfl agg67 size67 rfl H mR sZ ?_); simp only [pS]) | (with_reducible refine wpl rfl (Stp.ldor rfl agg67 size67 rfl H (by assumption) sZ (by assumption) ?_); simp only [pS]) | (with_reducible refine wpl rfl (Stp.ldo rfl agg3 rfl H (by assumption) (by assumption) ?_); simp only [pS]))
            go_roundw
            case rel =>
              have H4 := (((H.pull (r := X1) pU).pull (r := R1) pU).pull (r := slc 67 3 _ _ _) pU).sub (L' := _ :: _ :: _ :: row 36 g2 #[.int .u16 (sf.1 : Int), .int .u32 (sf.2 : Int)] :: []) sU
              rw [HFV2.out] at H4
              exact ⟨q + 1, d1, R1, X1, ss ++ [a.mb], sl + 1, a80, c80, by omega, by omega, by go_num, HR1, HPW1, HX1, HSS2, HSL2, by omega, rfl, H4⟩
            case measure => simp [intOf]; omega
          · have hji : ((j : Int) == 7) = false := by simp; omega
            clear hj7
            go_wp2_with (first | (go_at_call 31; (with_reducible refine (rballot_ok gp sf d1 R1 HR1.out HPW1.out _ (H.pull (r := R1) pU)).mono ?_); rintro e w1 ⟨v, rfl, hr⟩; obtain ⟨rfl, H2⟩ := hr; clear H; have H := H2; clear H2) | (with_reducible refine wpl rfl (Stp.neqBl rfl rfl rfl HNE.out ?_); simp only [pS]) | (go_at_call 34; (with_reducible refine (pick_mod _ _ 10 (by omega) (by omega) (by omega) _).mono ?_); rintro e w1 ⟨v, rfl, hr⟩; obtain ⟨rfl, hb1⟩ := hr; replace H := H.grow hb1; clear hb1; rw [HJ.out]) | (with_reducible refine wpl rfl (Stp.str rfl size67 rfl rfl (by first | rfl | (simp [Value.oneCell']; done) | assumption) H uP sZ sZ ?_); clear H; intro w1 H; simp only [pS]) | (with_reducible refine wpl rfl (Stp.alloc 10 rfl rfl zero67 H ?_); clear H; intro g10 w1 H; simp only [pS]; simp only [nC] at H) | (with_reducible refine wpl rfl (Stp.ldr rfl agg67 size67 rfl H mR sZ ?_); simp only [pS]) | (with_reducible refine wpl rfl (Stp.ldo rfl agg3 rfl H (by assumption) (by assumption) ?_); simp only [pS]))
            go_roundw
            case rel => exact ⟨q + 1, d1, R1, X1, ss, sl, sa, sc, by omega, by omega, by go_num, HR1, HPW1, HX1, HSS1, HSL, by omega, rfl, (((H.pull (r := X1) pU).pull (r := R1) pU).pull (r := slc 67 3 _ _ _) pU).sub (L' := _ :: _ :: _ :: row 36 g2 #[.int .u16 (sf.1 : Int), .int .u32 (sf.2 : Int)] :: []) sU⟩
            case measure => simp [intOf]; omega
        · have HNE : Hid ((!(decide (d1.bl = d.bl))) = true) := Lib.hid (by simp [hbl])
          have hnew := HMV.out.2.resolve_left hbl
          have HBR : Hid (d1.bl.r = d.sn.r + 1) := Lib.hid (by rw [hnew.1])
          have he := eqPD_is d1.bl.w.1 d1.bl.w.2 sf.1 sf.2 true (by rw [hnew.1]; simp)
          have HSS1 : Hid (∀ s ∈ ss ++ [d1.bl], s.r ≤ d1.sn.r) := Lib.hid (by
            intro s hs
            rcases List.mem_append.1 hs with h1 | h1
            · exact Nat.le_trans (HSS.out s h1) HMV.out.1
            · obtain rfl := List.mem_singleton.1 h1; rw [hnew.2]; exact Nat.le_refl _)
          have HSL1 : Hid ((ss ++ [d1.bl]).length = sl + 1) := Lib.hid (by rw [List.length_append, HSL.out]; rfl)
          have HFV1 : Hid (fv blC ss ++ (blC d1.bl).toList = fv blC (ss ++ [d1.bl])) := Lib.hid (by rw [fv_app, fv_one])
          clear hbl hnew
          go_wp2_with (first | (go_at_call 31; (with_reducible refine (rballot_ok gp sf d1 R1 HR1.out HPW1.out _ (H.pull (r := R1) pU)).mono ?_); rintro e w1 ⟨v, rfl, hr⟩; obtain ⟨rfl, H2⟩ := hr; clear H; have H := H2; clear H2) | (with_reducible refine wpl rfl (Stp.neqBl rfl rfl rfl HNE.out ?_); simp only [pS]) | (with_reducible refine wpl rfl (Stp.str rfl size67 rfl rfl (by first | rfl | (simp [Value.oneCell']; done) | assumption) H uP sZ sZ ?_); clear H; intro w1 H; simp only [pS]) | (with_reducible refine wpl rfl (Stp.alloc 10 rfl rfl zero67 H ?_); clear H; intro g10 w1 H; simp only [pS]; simp only [nC] at H) | (with_reducible refine wpl rfl (Stp.ldr rfl agg67 size67 rfl H mR sZ ?_); simp only [pS]))
          have H3 : ∃ L3, L3 = R1 :: X1 :: row 36 g2 #[.int .u16 (sf.1 : Int), .int .u32 (sf.2 : Int)] :: [] ∧ St w.heap.size w _ (row 67 g10 #[.int .u32 (d1.bl.r : Int), .int .u16 (d1.bl.w.1 : Int), .int .u32 (d1.bl.w.2 : Int)] :: slc 67 3 (.slice sa sl sc) sl (fv blC ss) :: L3) := ⟨_, rfl, ((((H.pull (r := X1) pU).pull (r := R1) pU).pull (r := slc 67 3 _ _ _) pU).pull (r := row 67 g10 _) pU).sub sU⟩
          clear H
          obtain ⟨L3, HL3, H⟩ := H3
          go_loopw [11] (fun i wr => ∃ kk : Nat, kk ≤ sl ∧ i = .int .i64 (kk : Int) ∧ St w.heap.size w wr (row 67 g10 #[.int .u32 (d1.bl.r : Int), .int .u16 (d1.bl.w.1 : Int), .int .u32 (d1.bl.w.2 : Int)] :: slc 67 3 (.slice sa sl sc) sl (fv blC ss) :: L3)) (fun i _ => sl - (intOf i).toNat)
          case atStart => exact ⟨0, Nat.zero_le _, rfl, H⟩
          case round =>
            clear H
            obtain ⟨kk, hkk, rfl, H⟩ := hrel
            by_cases hkl : kk < sl
            · have hk1 : kk < ss.length := by rw [HSL.out]; exact hkl
              obtain ⟨gs, rfl⟩ := H.own_addr (e := 67) mE (by omega)
              have hmu := List.getElem_mem hk1
              obtain ⟨u, hu⟩ : ∃ u, ss[kk] = u := ⟨_, rfl⟩
              rw [hu] at hmu
              have HCU : Hid (∀ j, j < 3 → (fv blC ss)[kk * 3 + j]? = (#[.int .u32 (u.r : Int), .int .u16 (u.w.1 : Int), .int .u32 (u.w.2 : Int)] : Array Value)[j]?) := Lib.hid (fun j hj => fv_get (f := blC) (s := 3) (fun _ => rfl) ss kk u (by rw [List.getElem?_eq_getElem hk1, hu]) j hj)
              have HBF : Hid (blt u d1.bl = true) := Lib.hid (blt_of_lt (by rw [HBR.out]; have := HSS.out u hmu; omega))
              have kki : (kk : Int) < (sl : Int) := by omega
              clear hmu hu hk1
              go_wp2_with fail
              refine rg_begin 7 rfl (S := fun W => St _ _ W (row 67 g10 #[.int .u32 (d1.bl.r : Int), .int .u16 (d1.bl.w.1 : Int), .int .u32 (d1.bl.w.2 : Int)] :: slc 67 3 (.slice (some ⟨gs, 0, none⟩) sl sc) sl (fv blC ss) :: [])) (by kernel_rfl) (H.drew.sub sU) ?_
              replace H := H.drew
              have HS := H
              refine rg_take (i := 0) rfl kR kR kR (Yld.move rfl rfl) (H.sub sU) ?_; simp only [pS, pE]
              refine rg_take (i := 1) rfl kR kR kR (Yld.move rfl rfl) (H.sub sU) ?_; simp only [pS, pE]
              refine rg_take (i := 2) rfl kR kR kR (Yld.o rfl) (H.sub sU) ?_; simp only [pS]
              refine rg_take (i := 3) rfl kR kR kR (Yld.lsa (cs := #[.int .u32 (u.r : Int), .int .u16 (u.w.1 : Int), .int .u32 (u.w.2 : Int)]) rfl rfl agg67 size67 rfl mE HCU.out rfl) (H.sub sU) ?_; simp only [pS, pE]
              first | (refine rg_take (i := 4) rfl kR kR kR (Yld.ldr rfl rfl agg67 size67 rfl mR sZ) (H.sub sU) ?_; simp only [pS]) | (refine rg_take (i := 4) rfl kR kR kR (Yld.ldl rfl rfl agg67 size67 rfl mR (by simp)) (H.sub sU) ?_; simp only [pS]; simp only [List.drop_succ_cons, List.drop_zero, List.take_succ_cons, List.take_zero]) | (refine rg_take (i := 4) rfl kR kR kR (Yld.ldor rfl rfl agg67 size67 rfl (by assumption) sZ (by assumption)) (H.sub sU) ?_; simp only [pS])
              refine rg_one (i := 5) (by kernel_rfl) rfl rfl (fun K hK => ?_)
              refine wp_callf rfl ent33 (rbefore_ok u d1.bl true HBF.out _) rfl (fun v w1 hr => ?_)
              obtain ⟨rfl, hb1⟩ := hr
              replace H := H.grow hb1
              clear hb1
              clear HS
              have HS := H
              refine hK.out _ _ (H.sub sU) ?_
              clear hK K
              simp only [pS]
              refine rg_take (i := 6) rfl kR kR kR (Yld.o rfl) (H.sub sU) ?_; simp only [pS]
              refine rg_done (by kernel_rfl) ?_
              go_wp2_with fail
              go_roundw
              case rel => exact ⟨kk + 1, by omega, by go_num, H.sub sU⟩
              case measure => simp [intOf]; omega
            · obtain rfl : sl = kk := by omega
              subst HL3
              have hg := eqg_PD
              by_cases hj7 : j = 7
              · have hji : ((j : Int) == 7) = true := by simp; omega
                have HSS2 : Hid (∀ s ∈ (ss ++ [d1.bl]) ++ [a.mb], s.r ≤ d1.sn.r) := Lib.hid (by
                  intro s hs
                  rcases List.mem_append.1 hs with h1 | h1
                  · exact HSS1.out s h1
                  · obtain rfl := List.mem_singleton.1 h1; exact HSE.out hj7)
                have HSL2 : Hid (((ss ++ [d1.bl]) ++ [a.mb]).length = (sl + 1) + 1) := Lib.hid (by rw [List.length_append, HSL1.out]; rfl)
                have HFV2 : Hid (fv blC (ss ++ [d1.bl]) ++ (blC a.mb).toList = fv blC ((ss ++ [d1.bl]) ++ [a.mb])) := Lib.hid (by rw [fv_app (ss ++ [d1.bl]) [a.mb], fv_one])
                clear hj7
                go_wp2_with (first | (with_reducible refine wpl rfl (Stp.bsl (e := 67) (cs := #[.int .u32 (d1.bl.r : Int), .int .u16 (d1.bl.w.1 : Int), .int .u32 (d1.bl.w.2 : Int)]) 63 rfl rfl (fun W => by kernel_rfl) H ?_); clear H; intro g63 w1 H; simp only [pS]) | (with_reducible refine wpl rfl (Stp.app 64 rfl rfl Try.underlying70 info67 rfl (by decide) rfl rfl H (fun _ => uP) (show ((#[.int .u32 (d1.bl.r : Int), .int .u16 (d1.bl.w.1 : Int), .int .u32 (d1.bl.w.2 : Int)] : Array Value).toList).length = 1 * 3 from rfl) (newN (H.gr 67)) (blc_one d1.bl) (by unfold maxLen; omega) (by omega) ?_); clear H; intro a64 c64 w1 H; simp only [pS]; rw [HFV1.out] at H) | (go_at_call 34; (with_reducible refine (pick_mod _ _ 10 (by omega) (by omega) (by omega) _).mono ?_); rintro e w1 ⟨v, rfl, hr⟩; obtain ⟨rfl, hb1⟩ := hr; replace H := H.grow hb1; clear hb1; rw [HJ.out]) | (with_reducible refine wpl rfl (Stp.bsl (e := 67) (cs := #[.int .u32 (a.mb.r : Int), .int .u16 (a.mb.w.1 : Int), .int .u32 (a.mb.w.2 : Int)]) 79 rfl rfl (fun W => by kernel_rfl) H ?_); clear H; intro g79 w1 H; simp only [pS]) | (with_reducible refine wpl rfl (Stp.app 80 rfl rfl Try.underlying70 info67 rfl (by decide) rfl rfl H (fun _ => uP) (show ((#[.int .u32 (a.mb.r : Int), .int .u16 (a.mb.w.1 : Int), .int .u32 (a.mb.w.2 : Int)] : Array Value).toList).length = 1 * 3 from rfl) (newN (H.gr 67)) (blc_one a.mb) (by unfold maxLen; omega) (by omega) ?_); clear H; intro a80 c80 w1 H; simp only [pS]) | (with_reducible refine wpl rfl (Stp.ldr rfl agg67 size67 rfl H mR sZ ?_); simp only [pS]) | (with_reducible refine wpl rfl (Stp.ldor rfl agg67 size67 rfl H (by assumption) sZ (by assumption) ?_); simp only [pS]) | (with_reducible refine wpl rfl (Stp.ldr rfl agg36 size36 rfl H mR sZ ?_); simp only [pS]) | (with_reducible refine wpl rfl (Stp.ldl rfl agg36 size36 rfl H mR (by simp) ?_); simp only [pS]; simp only [List.drop_succ_cons, List.drop_zero, List.take_succ_cons, List.take_zero]) | (with_reducible refine wpl rfl (Stp.ldo rfl agg3 rfl H (by assumption) (by assumption) ?_); simp only [pS]))
                go_roundw
                case rel =>
                  have H4 := (((H.pull (r := X1) pU).pull (r := R1) pU).pull (r := slc 67 3 _ _ _) pU).sub (L' := _ :: _ :: _ :: row 36 g2 #[.int .u16 (sf.1 : Int), .int .u32 (sf.2 : Int)] :: []) sU
                  rw [HFV2.out] at H4
                  exact ⟨q + 1, d1, R1, X1, (ss ++ [d1.bl]) ++ [a.mb], (sl + 1) + 1, a80, c80, by omega, by omega, by go_num, HR1, HPW1, HX1, HSS2, HSL2, by omega, rfl, H4⟩
                case measure => simp [intOf]; omega
              · have hji : ((j : Int) == 7) = false := by simp; omega
                clear hj7
                go_wp2_with (first | (with_reducible refine wpl rfl (Stp.bsl (e := 67) (cs := #[.int .u32 (d1.bl.r : Int), .int .u16 (d1.bl.w.1 : Int), .int .u32 (d1.bl.w.2 : Int)]) 63 rfl rfl (fun W => by kernel_rfl) H ?_); clear H; intro g63 w1 H; simp only [pS]) | (with_reducible refine wpl rfl (Stp.app 64 rfl rfl Try.underlying70 info67 rfl (by decide) rfl rfl H (fun _ => uP) (show ((#[.int .u32 (d1.bl.r : Int), .int .u16 (d1.bl.w.1 : Int), .int .u32 (d1.bl.w.2 : Int)] : Array Value).toList).length = 1 * 3 from rfl) (newN (H.gr 67)) (blc_one d1.bl) (by unfold maxLen; omega) (by omega) ?_); clear H; intro a64 c64 w1 H; simp only [pS]; rw [HFV1.out] at H) | (go_at_call 34; (with_reducible refine (pick_mod _ _ 10 (by omega) (by omega) (by omega) _).mono ?_); rintro e w1 ⟨v, rfl, hr⟩; obtain ⟨rfl, hb1⟩ := hr; replace H := H.grow hb1; clear hb1; rw [HJ.out]) | (with_reducible refine wpl rfl (Stp.ldr rfl agg67 size67 rfl H mR sZ ?_); simp only [pS]) | (with_reducible refine wpl rfl (Stp.ldr rfl agg36 size36 rfl H mR sZ ?_); simp only [pS]) | (with_reducible refine wpl rfl (Stp.ldl rfl agg36 size36 rfl H mR (by simp) ?_); simp only [pS]; simp only [List.drop_succ_cons, List.drop_zero, List.take_succ_cons, List.take_zero]) | (with_reducible refine wpl rfl (Stp.ldo rfl agg3 rfl H (by assumption) (by assumption) ?_); simp only [pS]))
                go_roundw
                case rel => exact ⟨q + 1, d1, R1, X1, (ss ++ [d1.bl]), (sl + 1), a64, c64, by omega, by omega, by go_num, HR1, HPW1, HX1, HSS1, HSL1, by omega, rfl, (((H.pull (r := X1) pU).pull (r := R1) pU).pull (r := slc 67 3 _ _ _) pU).sub (L' := _ :: _ :: _ :: row 36 g2 #[.int .u16 (sf.1 : Int), .int .u32 (sf.2 : Int)] :: []) sU⟩
                case measure => simp [intOf]; omega
      · have q60i : ¬ (q : Int) < 60 := by omega
        go_wp2_with (first | (go_at_call 29; (with_reducible refine (aw21_ok _).mono ?_); rintro e w1 ⟨v, rfl, hr⟩; obtain ⟨rfl, hb1⟩ := hr; replace H := H.grow hb1; clear hb1))
        go_ret
        exact ⟨_, rfl, rfl, H.below⟩
    · have qli : ¬ (q : Int) < (n : Int) := by omega
      go_wp2_with (first | (go_at_call 29; (with_reducible refine (aw21_ok _).mono ?_); rintro e w1 ⟨v, rfl, hr⟩; obtain ⟨rfl, hb1⟩ := hr; replace H := H.grow hb1; clear hb1))
      go_ret
      exact ⟨_, rfl, rfl, H.below⟩
set_option maxRecDepth 100000 in
theorem electRises_lifted (os : Os) (started : os.Started) (H : Type) (enc : TypeId × Value → H) :
    ReturnsInHanded {} Try.checked os 8 .any (Rows.electRisesSpec.pre6 enc Try.prog Try.f8 Rows.electRisesRow.domain false) (Rows.electRisesSpec.post enc Try.prog Try.f8 false true false false) := by
  refine law_lifted (C := Try.checked) own started (by kernel_rfl) Try.func8 laidOut rfl Try.underlying4 rfl (by kernel_rfl) (fun ds hd => ?_)
    (ChangeSpec.witness6 (enc := enc) (C := Try.checked) false ⟨#[], #[.agg #[.int .u16 0, .int .u32 0], .slice none 0 0], []⟩ 8 (by kernel_rfl) (by kernel_rfl) (by kernel_rfl) (by kernel_rfl)) ?_
  · match ds, hd with
    | [d0, d1], _ => exact ⟨rfl, rfl, rfl⟩
  intro W base args ds p hval hA
  rw [Try.params8] at hA hval
  obtain ⟨v0, vs0, d0, ds0, p0, q0, hargs, rfl, rfl, h0, r0⟩ := trodAll_cons hA
  obtain ⟨v1, vs1, d1, ds1, p1, q1, rfl, rfl, rfl, h1, r1⟩ := trodAll_cons r0
  obtain ⟨rfl, rfl, rfl⟩ := trodAll_nil r1
  obtain rfl : args = #[v0, v1] := by cases args; simp_all
  obtain ⟨sf, rfl, hq1, hq2⟩ := open_pe (hval 0 36 v0 rfl rfl) h0
  obtain ⟨l, va, vc, rfl, hs, hx⟩ := open_ags (hval 1 61 v1 rfl rfl) h1
  exact law_erises sf hq1 hq2 va vc l W hs hx
theorem electRises_over : Rows.electRisesRow.holds Try.pinned (OpenSpec.ofChange Rows.electRisesSpec) :=
  OpenClaim.holds_of_wide 8 Try.f8 rfl rfl rfl rfl rfl rfl rfl ⟨rfl, rfl, rfl, rfl, rfl⟩ rfl rfl rfl rfl rfl (by kernel_rfl) Try.func8 (by kernel_rfl)
    (of_decide_eq_true (by kernel_rfl)) (by unfold Func.isWrapper; first | (rw [if_pos (by decide +kernel)]; kernel_rfl) | (rw [if_neg (by decide +kernel)]; exact ⟨rfl, rfl⟩))
    (fun os started H enc _ => electRises_lifted os started H enc)
theorem electRises_holds : Rows.ElectRisesSaid := electRises_over
#print axioms electRises_holds
end Go.Proofs.Ytjghcmejmdllbaa
