/- The statement StatePlays of layer 19 (state): the law's walk; the bounds stand in it. -/
import Derived.Test.YtjghcmejmdllbaaSta9
import Derived.Test.YtjghcmejmdllbaaRg2
import Derived.Deep.Cut
namespace Go.Proofs.Ytjghcmejmdllbaa
open Go.ChangeShapes Go.WideShapes Go.ChangeAt Go.RowKit Go.Maps Go.Deep
set_option linter.unusedVariables false
set_option linter.unusedSimpArgs false
set_option linter.unusedSectionVars false
set_option maxRecDepth 100000
set_option maxHeartbeats 8000000
theorem St.getVw {B : Nat} {w0 w : World} {L : List Res} {G : Nat → Prop} {va vl vd : Value} {x : Vw} (H : St B w0 w L) (hm : vwr G va vl vd x ∈ L) : VwG G w va vl vd x := H.get hm
section
variable {ops : Array Oper} {a : Act} {o : Oper} {S : World → Prop} {x y : Operand} {s0 s1 s2 s3 s4 s5 s6 s7 : ByteArray}
theorem Yld.neqB (hw : Region.wanted o (yielded ops a.tmps) = true) (ho : o.op = .binOp .neq 46 x y 46) (hx : a.eval x = .agg #[.string s0, .string s1, .string s2, .string s3, .string s4, .string s5, .string s6, .string s7]) (hy : a.eval y = .agg #[.string s0, .string s1, .string s2, .string s3, .string s4, .string s5, .string s6, .string s7]) : YieldsIf Try.prog ops S o (.bool false) a :=
  .inl ⟨hw, fun W _ => by
    unfold execOp; simp only [ho, hx, hy]
    simp [neqBD, eqGuard, eqg_BD]⟩
end
section
variable {H : Type} {enc : TypeId × Value → H}
theorem open_pp {W : World} {base : Nat} {v : Value} {d : DataW H} {p : List MemPlace} (hv : Value.okWide Try.prog W .any base 36 v) (h : DataW.Trod enc Try.prog W 0 (fun _ => true) true 36 v d p) :
    ∃ q : Pr, v = .agg #[.int .u16 (q.1 : Int), .int .u32 (q.2 : Int)] ∧ q.1 < 65536 ∧ q.2 < 4294967296 := by
  unfold Value.okWide at hv
  simp only [Try.underlying36] at hv
  obtain ⟨cs, rfl, hs, _⟩ := hv
  obtain ⟨fuel, hf⟩ := h
  obtain ⟨i, c, e, h1, h2⟩ := cells_pid hf
  exact ⟨(i, c), congrArg Value.agg (Array.toList_inj.1 e), h1, h2⟩
end
attribute [local irreducible] gC gV gS cntS nxV nxM nxB evO nxQ nxH evH lastN rl
theorem law_splays (x0 : Vw) (ma la da : Option Addr) (mc lc dc : Nat) (va : Option Addr) (vc : Nat) (l : List (Cm × Hd)) (p : Pr) (hp1 : p.1 < 65536) (hp2 : p.2 < 4294967296) (w : World) (hv : VwG (Old w) w (.slice ma x0.mem.length mc) (.slice la x0.lvs.length lc) (.slice da x0.ldr.length dc) x0) (hs : Sl w 10 l.length (.slice va l.length vc) (elK l)) (hx : ∀ a ∈ l, wfK w a) :
    Calls Try.prog 4 #[.agg (vwC x0 ma la da mc lc dc), .slice va l.length vc, .agg #[.int .u16 (p.1 : Int), .int .u32 (p.2 : Int)]] w (Ret fun v w' => v = .bool true ∧ Below w.heap.size w w') := by
  have H := St.init w
  have HXX := Lib.hid hx
  clear hx
  obtain ⟨e, he⟩ : ∃ e, gS x0 l = e := ⟨_, rfl⟩
  have HE := Lib.hid he
  obtain ⟨n, hn⟩ : ∃ n, l.length = n := ⟨_, rfl⟩
  have HN := Lib.hid hn
  have hs0 := hs
  rw [hn] at hs0 ⊢
  clear hs hn
  simp only [vwC]
  cases e
  case true =>
    clear he
    go_enter Try.func4, Try.ntmps4
    go_wp2_with (first | (go_at_call 12; (with_reducible refine (great19_n x0 ma la da mc lc dc va vc l n HN.out _ (hs0.grow H.below) (fun a ha => (HXX.out a ha).grow H.below) (VwG.mono (fun g hg => Nat.lt_of_lt_of_le hg H.below.size) (hv.grow H.below))).mono ?_); rintro e w1 ⟨v, rfl, hr⟩; obtain ⟨rfl, hb1⟩ := hr; replace H := H.grow hb1; clear hb1; rw [HE.out]) | (go_at_call 13; (with_reducible refine (aw19_ok _).mono ?_); rintro e w1 ⟨v, rfl, hr⟩; obtain ⟨rfl, hb1⟩ := hr; replace H := H.grow hb1; clear hb1) | (with_reducible refine wpl rfl (Stp.box 3 rfl rfl rfl H ?_); clear H; intro g3 w1 H; simp only [pS]; simp only [pE, nC, pS] at H) | (with_reducible refine wpl rfl (Stp.box 5 rfl rfl rfl H ?_); clear H; intro g5 w1 H; simp only [pS]; simp only [pE, nC, pS] at H) | (with_reducible refine wpl rfl (Stp.ldr rfl agg26 size26 rfl H mR sZ ?_); simp only [pS]) | (with_reducible refine wpl rfl (Stp.ldl rfl agg26 size26 rfl H mR (by simp) ?_); simp only [pS]; simp only [List.drop_succ_cons, List.drop_zero, List.take_succ_cons, List.take_zero]) | (with_reducible refine wpl rfl (Stp.ldor rfl agg26 size26 rfl H (by assumption) sZ (by assumption) ?_); simp only [pS]) | (with_reducible refine wpl rfl (Stp.ldr rfl agg43 size43 rfl H mR sZ ?_); simp only [pS]) | (with_reducible refine wpl rfl (Stp.ldl rfl agg43 size43 rfl H mR (by simp) ?_); simp only [pS]; simp only [List.drop_succ_cons, List.drop_zero, List.take_succ_cons, List.take_zero]) | (with_reducible refine wpl rfl (Stp.ldor rfl agg43 size43 rfl H (by assumption) sZ (by assumption) ?_); simp only [pS]) | (with_reducible refine wpl rfl (Stp.alloc 10 rfl rfl zero39 H ?_); clear H; intro g10 w1 H; simp only [pS]; simp only [nC] at H) | (with_reducible refine wpl rfl (Stp.str rfl size39 rfl rfl (by first | rfl | (simp [Value.oneCell']; done) | assumption) H uP sZ sZ ?_); clear H; intro w1 H; simp only [pS]) | (with_reducible refine wpl rfl (Stp.stl rfl size39 rfl rfl rfl rfl H uP (by simp) ?_); clear H; intro w1 H; simp only [pS]; simp only [List.drop_succ_cons, List.drop_zero, List.take_succ_cons, List.take_zero, List.nil_append, List.cons_append, Nat.reduceAdd] at H) | (with_reducible refine wpl rfl (Stp.alloc 12 rfl rfl zero39 H ?_); clear H; intro g12 w1 H; simp only [pS]; simp only [nC] at H))
    go_ret
    exact ⟨_, rfl, rfl, H.below⟩
  have HGS : Hid (((l.take 80).any fun a => gC a.1) = false) := Lib.hid (by unfold gS at he; simp only [Bool.or_eq_false_iff] at he; exact he.1)
  have HSM0 : Hid (smV x0) := Lib.hid (gV_sm (by unfold gS at he; simp only [Bool.or_eq_false_iff] at he; exact he.2))
  obtain ⟨_, _, _, hmx, _⟩ := id hs0
  unfold maxLen at hmx
  clear he
  go_enter Try.func4, Try.ntmps4
  go_upto_region 3 with (first | (go_at_call 12; (with_reducible refine (great19_n x0 ma la da mc lc dc va vc l n HN.out _ (hs0.grow H.below) (fun a ha => (HXX.out a ha).grow H.below) (VwG.mono (fun g hg => Nat.lt_of_lt_of_le hg H.below.size) (hv.grow H.below))).mono ?_); rintro e w1 ⟨v, rfl, hr⟩; obtain ⟨rfl, hb1⟩ := hr; replace H := H.grow hb1; clear hb1; rw [HE.out]) | (with_reducible refine wpl rfl (Stp.box 3 rfl rfl rfl H ?_); clear H; intro g3 w1 H; simp only [pS]; simp only [pE, nC, pS] at H) | (with_reducible refine wpl rfl (Stp.box 5 rfl rfl rfl H ?_); clear H; intro g5 w1 H; simp only [pS]; simp only [pE, nC, pS] at H) | (with_reducible refine wpl rfl (Stp.ldr rfl agg26 size26 rfl H mR sZ ?_); simp only [pS]) | (with_reducible refine wpl rfl (Stp.ldl rfl agg26 size26 rfl H mR (by simp) ?_); simp only [pS]; simp only [List.drop_succ_cons, List.drop_zero, List.take_succ_cons, List.take_zero]) | (with_reducible refine wpl rfl (Stp.ldor rfl agg26 size26 rfl H (by assumption) sZ (by assumption) ?_); simp only [pS]) | (with_reducible refine wpl rfl (Stp.ldr rfl agg43 size43 rfl H mR sZ ?_); simp only [pS]) | (with_reducible refine wpl rfl (Stp.ldl rfl agg43 size43 rfl H mR (by simp) ?_); simp only [pS]; simp only [List.drop_succ_cons, List.drop_zero, List.take_succ_cons, List.take_zero]) | (with_reducible refine wpl rfl (Stp.ldor rfl agg43 size43 rfl H (by assumption) sZ (by assumption) ?_); simp only [pS]) | (with_reducible refine wpl rfl (Stp.alloc 10 rfl rfl zero39 H ?_); clear H; intro g10 w1 H; simp only [pS]; simp only [nC] at H) | (with_reducible refine wpl rfl (Stp.str rfl size39 rfl rfl (by first | rfl | (simp [Value.oneCell']; done) | assumption) H uP sZ sZ ?_); clear H; intro w1 H; simp only [pS]) | (with_reducible refine wpl rfl (Stp.stl rfl size39 rfl rfl rfl rfl H uP (by simp) ?_); clear H; intro w1 H; simp only [pS]; simp only [List.drop_succ_cons, List.drop_zero, List.take_succ_cons, List.take_zero, List.nil_append, List.cons_append, Nat.reduceAdd] at H) | (with_reducible refine wpl rfl (Stp.alloc 12 rfl rfl zero39 H ?_); clear H; intro g12 w1 H; simp only [pS]; simp only [nC] at H))
  go_cut [7, 8] from 14 (fun s7 s8 w' => ∃ g0 gx R, s7 = .pointer (some ⟨g0, 0, none⟩) ∧ s8 = .pointer (some ⟨gx, 0, none⟩) ∧ Hid (StaR g0 x0 [] bd0 R) ∧ St w.heap.size w w' (row 48 gx (xsC x0 ⟨none, ma, la, da, 0, mc, lc, dc⟩ none 0 0 bd0) :: R :: row 26 g3 #[.int .u64 (x0.id : Int), .slice ma x0.mem.length mc, .slice la x0.lvs.length lc, .slice da x0.ldr.length dc] :: row 36 g5 #[.int .u16 (p.1 : Int), .int .u32 (p.2 : Int)] :: []))
  case first =>
    refine rg_begin 7 rfl (S := fun W => St _ _ W (row 26 g3 #[.int .u64 (x0.id : Int), .slice ma x0.mem.length mc, .slice la x0.lvs.length lc, .slice da x0.ldr.length dc] :: [])) (by kernel_rfl) (H.drew.sub sU) ?_
    replace H := H.drew
    have HS := H
    first | (refine rg_take (i := 0) rfl kR kR kR (Yld.ldr rfl rfl agg26 size26 rfl mR sZ) (H.sub sU) ?_; simp only [pS]) | (refine rg_take (i := 0) rfl kR kR kR (Yld.ldl rfl rfl agg26 size26 rfl mR (by simp)) (H.sub sU) ?_; simp only [pS]; simp only [List.drop_succ_cons, List.drop_zero, List.take_succ_cons, List.take_zero]) | (refine rg_take (i := 0) rfl kR kR kR (Yld.ldor rfl rfl agg26 size26 rfl (by assumption) sZ (by assumption)) (H.sub sU) ?_; simp only [pS])
    first | (refine rg_take (i := 2) rfl kR kR kR (Yld.ldr rfl rfl agg26 size26 rfl mR sZ) (H.sub sU) ?_; simp only [pS]) | (refine rg_take (i := 2) rfl kR kR kR (Yld.ldl rfl rfl agg26 size26 rfl mR (by simp)) (H.sub sU) ?_; simp only [pS]; simp only [List.drop_succ_cons, List.drop_zero, List.take_succ_cons, List.take_zero]) | (refine rg_take (i := 2) rfl kR kR kR (Yld.ldor rfl rfl agg26 size26 rfl (by assumption) sZ (by assumption)) (H.sub sU) ?_; simp only [pS])
    refine rg_take (i := 3) rfl kR kR kR (Yld.of (v := .agg (xsC x0 ⟨none, ma, la, da, 0, mc, lc, dc⟩ none 0 0 bd0)) rfl (fun W _ => by kernel_rfl)) (H.sub sU) ?_; simp only [pS, pE]
    refine rg_all (rs := [1, 4]) (by kernel_rfl) (by simp) ?_
    refine rg_cons (i := 1) rfl rfl (fun K hK => ?_) ?_
    · -- 1
      refine wp_callf rfl ent14 (snew_ok (G1 := Old w) x0 ma la da mc lc dc HSM0.out _ (fun W hW _ => hv.grow hW) H) rfl (fun v w1 hr => ?_)
      obtain ⟨g0, R, rfl, hR, H2⟩ := hr
      clear H
      have H := H2
      have HR := Lib.hid hR
      clear H2 hR
      clear HS
      have HS := H
      refine hK.out _ _ (H.sub sU) ?_
      clear hK K
      simp only [pS]
      refine rg_take (i := 5) rfl kR kR kR (Yld.assign rfl rfl) (H.sub sU) ?_; simp only [pS, pE]
      refine rg_one (i := 4) (by kernel_rfl) rfl rfl (fun K hK => ?_)
      refine Stp.wp (Stp.box (v := .agg (xsC x0 ⟨none, ma, la, da, 0, mc, lc, dc⟩ none 0 0 bd0)) 22 rfl rfl rfl H ?_)
      clear H
      intro g22 w1 H
      simp only [cells_agg] at H
      clear HS
      have HS := H
      refine hK.out _ _ (H.sub sU) ?_
      clear hK K
      simp only [pS]
      refine rg_take (i := 6) rfl kR kR kR (Yld.assign rfl rfl) (H.sub sU) ?_; simp only [pS, pE]
      refine rg_done (by kernel_rfl) ?_
      go_wp2_with fail
      go_meet
      exact ⟨g0, g22, R, rfl, rfl, HR, ((((H.pull (r := row 36 g5 #[.int .u16 (p.1 : Int), .int .u32 (p.2 : Int)]) pU).pull (r := row 26 g3 #[.int .u64 (x0.id : Int), .slice ma x0.mem.length mc, .slice la x0.lvs.length lc, .slice da x0.ldr.length dc]) pU).pull (r := R) pU).pull (r := row 48 g22 (xsC x0 ⟨none, ma, la, da, 0, mc, lc, dc⟩ none 0 0 bd0)) pU)⟩
    refine rg_cons (i := 4) rfl rfl (fun K hK => ?_) ?_
    · -- 4
      refine Stp.wp (Stp.box (v := .agg (xsC x0 ⟨none, ma, la, da, 0, mc, lc, dc⟩ none 0 0 bd0)) 22 rfl rfl rfl H ?_)
      clear H
      intro g22 w1 H
      simp only [cells_agg] at H
      clear HS
      have HS := H
      refine hK.out _ _ (H.sub sU) ?_
      clear hK K
      simp only [pS]
      refine rg_one (i := 1) (by kernel_rfl) rfl rfl (fun K hK => ?_)
      refine wp_callf rfl ent14 (snew_ok (G1 := Old w) x0 ma la da mc lc dc HSM0.out _ (fun W hW _ => hv.grow hW) H) rfl (fun v w1 hr => ?_)
      obtain ⟨g0, R, rfl, hR, H2⟩ := hr
      clear H
      have H := H2
      have HR := Lib.hid hR
      clear H2 hR
      clear HS
      have HS := H
      refine hK.out _ _ (H.sub sU) ?_
      clear hK K
      simp only [pS]
      refine rg_take (i := 5) rfl kR kR kR (Yld.assign rfl rfl) (H.sub sU) ?_; simp only [pS, pE]
      refine rg_take (i := 6) rfl kR kR kR (Yld.assign rfl rfl) (H.sub sU) ?_; simp only [pS, pE]
      refine rg_done (by kernel_rfl) ?_
      go_wp2_with fail
      go_meet
      exact ⟨g0, g22, R, rfl, rfl, HR, ((((H.pull (r := row 36 g5 #[.int .u16 (p.1 : Int), .int .u32 (p.2 : Int)]) pU).pull (r := row 26 g3 #[.int .u64 (x0.id : Int), .slice ma x0.mem.length mc, .slice la x0.lvs.length lc, .slice da x0.ldr.length dc]) pU).pull (r := R) pU).pull (r := row 48 g22 (xsC x0 ⟨none, ma, la, da, 0, mc, lc, dc⟩ none 0 0 bd0)) pU)⟩
    exact AllReadyH.nil
  case rest =>
  obtain ⟨g0, gx, R, rfl, rfl, HR, H2⟩ := hcut
  clear H
  replace H2 := (H2.nil 43 10).pull (r := row 48 gx _) pU
  have H := H2.sep
  clear H2
  have HX : Hid (XsR gx x0 ⟨none, ma, la, da, 0, mc, lc, dc⟩ [] bd0 (sep (row 48 gx (xsC x0 ⟨none, ma, la, da, 0, mc, lc, dc⟩ none 0 0 bd0)) (slc 43 10 (.slice none 0 0) 0 []))) := Lib.hid ⟨none, 0, rfl⟩
  have HVR : Hid (Rd w.heap.size w [] fun W => VwG (Old w) W (.slice (⟨none, ma, la, da, 0, mc, lc, dc⟩ : Hd).ma x0.mem.length mc) (.slice (⟨none, ma, la, da, 0, mc, lc, dc⟩ : Hd).la x0.lvs.length lc) (.slice (⟨none, ma, la, da, 0, mc, lc, dc⟩ : Hd).da x0.ldr.length dc) x0) := Lib.hid (fun W hW _ => hv.grow hW)
  go_wp2_with (first | (with_reducible refine wpl rfl (Stp.box 3 rfl rfl rfl H ?_); clear H; intro g3 w1 H; simp only [pS]; simp only [pE, nC, pS] at H) | (with_reducible refine wpl rfl (Stp.box 5 rfl rfl rfl H ?_); clear H; intro g5 w1 H; simp only [pS]; simp only [pE, nC, pS] at H) | (with_reducible refine wpl rfl (Stp.ldr rfl agg26 size26 rfl H mR sZ ?_); simp only [pS]) | (with_reducible refine wpl rfl (Stp.ldl rfl agg26 size26 rfl H mR (by simp) ?_); simp only [pS]; simp only [List.drop_succ_cons, List.drop_zero, List.take_succ_cons, List.take_zero]) | (with_reducible refine wpl rfl (Stp.ldor rfl agg26 size26 rfl H (by assumption) sZ (by assumption) ?_); simp only [pS]) | (with_reducible refine wpl rfl (Stp.ldr rfl agg43 size43 rfl H mR sZ ?_); simp only [pS]) | (with_reducible refine wpl rfl (Stp.ldl rfl agg43 size43 rfl H mR (by simp) ?_); simp only [pS]; simp only [List.drop_succ_cons, List.drop_zero, List.take_succ_cons, List.take_zero]) | (with_reducible refine wpl rfl (Stp.ldor rfl agg43 size43 rfl H (by assumption) sZ (by assumption) ?_); simp only [pS]) | (with_reducible refine wpl rfl (Stp.alloc 10 rfl rfl zero39 H ?_); clear H; intro g10 w1 H; simp only [pS]; simp only [nC] at H) | (with_reducible refine wpl rfl (Stp.str rfl size39 rfl rfl (by first | rfl | (simp [Value.oneCell']; done) | assumption) H uP sZ sZ ?_); clear H; intro w1 H; simp only [pS]) | (with_reducible refine wpl rfl (Stp.stl rfl size39 rfl rfl rfl rfl H uP (by simp) ?_); clear H; intro w1 H; simp only [pS]; simp only [List.drop_succ_cons, List.drop_zero, List.take_succ_cons, List.take_zero, List.nil_append, List.cons_append, Nat.reduceAdd] at H) | (with_reducible refine wpl rfl (Stp.alloc 12 rfl rfl zero39 H ?_); clear H; intro g12 w1 H; simp only [pS]; simp only [nC] at H))
  go_loopw [9] (fun i wr => ∃ (q : Nat) (x : Vw) (h : Hd) (M : List (Pr × Nat)) (qs : List (Cm × Hd)) (b : Nat → ByteArray) (R X : Res), q ≤ n ∧ q ≤ 80 ∧ i = .int .i64 (q : Int) ∧ Hid (StaR g0 x M b R) ∧ Hid (XsR gx x h qs b X) ∧ Hid (∀ p, lastN M p = rl qs p) ∧ Hid (smV x) ∧ Hid (qs.length ≤ q) ∧ Hid (Rd w.heap.size w [] fun W => VwG (Old w) W (.slice h.ma x.mem.length h.mc) (.slice h.la x.lvs.length h.lc) (.slice h.da x.ldr.length h.dc) x) ∧ St w.heap.size w wr (X :: R :: row 26 g3 #[.int .u64 (x0.id : Int), .slice ma x0.mem.length mc, .slice la x0.lvs.length lc, .slice da x0.ldr.length dc] :: row 36 g5 #[.int .u16 (p.1 : Int), .int .u32 (p.2 : Int)] :: [])) (fun i _ => 80 - (intOf i).toNat)
  case atStart => exact ⟨0, x0, _, [], [], bd0, R, _, Nat.zero_le _, Nat.zero_le _, rfl, HR, HX, Lib.hid (fun p => by unfold lastN rl; rfl), HSM0, Lib.hid (Nat.zero_le _), HVR, H⟩
  case round =>
    clear H HR HX HVR HSM0
    obtain ⟨q, x, h, M, qs, b, R, X, hq, hq80, rfl, HR, HX, HREL, HSX, HQQ, HVR, H⟩ := hrel
    by_cases hlt : q < n
    · have qli : (q : Int) < (n : Int) := by omega
      by_cases h80 : q < 80
      · have q80i : (q : Int) < 80 := by omega
        have hl1 : q < l.length := by rw [HN.out]; exact hlt
        obtain ⟨b1, o1, rfl, hbl1⟩ := hs0.addr (by omega)
        have hc1 := hs0.cell hlt
        rw [elK_at hl1] at hc1
        have hmm := List.getElem_mem hl1
        have hgs := any_take HGS.out hl1 h80
        obtain ⟨⟨c, e⟩, ha⟩ : ∃ a, l[q] = a := ⟨_, rfl⟩
        rw [ha] at hc1 hmm hgs
        have HWK : Hid (wfK w (c, e)) := Lib.hid (HXX.out _ hmm)
        have HSMC : Hid (smC c) := Lib.hid (gC_sm hgs)
        have HXR : Hid (∀ L, Rd w.heap.size w L fun W => CmG (Old w) W (.slice e.ba c.data.length e.bc) (.slice e.ma c.v.mem.length e.mc) (.slice e.la c.v.lvs.length e.lc) (.slice e.da c.v.ldr.length e.dc) c) := Lib.hid (fun L W hW _ => HWK.out.x.grow hW)
        have hcf : ∀ j, j < 2 → w.cell? ⟨b1, o1 + q * 10 + 1 + j, none⟩ = (#[.int .u16 (c.fr.1 : Int), .int .u32 (c.fr.2 : Int)] : Array Value)[j]? := fun j hj => by
          have := hc1 (1 + j) (by omega)
          rw [show o1 + q * 10 + 1 + j = o1 + q * 10 + (1 + j) by omega, this]
          have hj' : j = 0 ∨ j = 1 := by omega
          rcases hj' with rfl | rfl <;> rfl
        obtain ⟨r, hr⟩ : ∃ r, cntS x (lastN M c.fr) c = r := ⟨_, rfl⟩
        have HRES := Lib.hid hr
        have HRES2 : Hid (cntS x (rl qs c.fr) c = r) := Lib.hid (by rw [← HREL.out]; exact hr)
        obtain ⟨V, hV⟩ : ∃ V, evO r c = V := ⟨_, rfl⟩
        obtain ⟨E2, hE2⟩ : ∃ V, evH r c e = V := ⟨_, rfl⟩
        obtain ⟨x2, hx2⟩ : ∃ V, nxV r x c = V := ⟨_, rfl⟩
        obtain ⟨h2, hh2⟩ : ∃ V, nxH r h c e = V := ⟨_, rfl⟩
        obtain ⟨M2, hM2⟩ : ∃ V, nxM r M c = V := ⟨_, rfl⟩
        obtain ⟨qs2, hq2⟩ : ∃ V, nxQ r qs c e = V := ⟨_, rfl⟩
        obtain ⟨b2, hb2⟩ : ∃ V, nxB r b c = V := ⟨_, rfl⟩
        have HREL2 : Hid (∀ p, lastN M2 p = rl qs2 p) := Lib.hid (by rw [← hM2, ← hq2]; exact nx_rel c e HREL.out)
        have HSX2 : Hid (smV x2) := Lib.hid (by rw [← hx2]; exact nxV_sm HSX.out HSMC.out.v)
        have HVR2 : Hid (Rd w.heap.size w [] fun W => VwG (Old w) W (.slice h2.ma x2.mem.length h2.mc) (.slice h2.la x2.lvs.length h2.lc) (.slice h2.da x2.ldr.length h2.dc) x2) := Lib.hid (by rw [← hx2, ← hh2]; exact nx_rd HVR.out (HXR.out []))
        have HEV2 : Hid (Rd w.heap.size w [] fun W => EvG (Old w) W V E2) := Lib.hid (by rw [← hV, ← hE2]; exact ev_rd (HXR.out []))
        have HQQ2 : Hid (qs2.length ≤ q + 1) := Lib.hid (by rw [← hq2]; have := nxQ_len r qs c e; have := HQQ.out; omega)
        have HQL : Hid (qs.length ≤ 1000) := Lib.hid (by have := HQQ.out; omega)
        have HQ2L : Hid (qs2.length ≤ 1000000) := Lib.hid (by have := HQQ2.out; omega)
        have hql : qs.length ≤ 1000000 := by have := HQQ.out; omega
        obtain ⟨n2, hn2⟩ : ∃ n2, lastN M2 p = n2 := ⟨_, rfl⟩
        obtain ⟨n3, hn3⟩ : ∃ n3, lastN M2 c.fr = n3 := ⟨_, rfl⟩
        have HN2 := Lib.hid hn2
        have HN3 := Lib.hid hn3
        have HN2r : Hid (rl qs2 p = n2) := Lib.hid (by rw [← HREL2.out]; exact hn2)
        have HN3r : Hid (rl qs2 c.fr = n3) := Lib.hid (by rw [← HREL2.out]; exact hn3)
        have HV := Lib.hid hV
        have HE2 := Lib.hid hE2
        have HX2 := Lib.hid hx2
        have HH2 := Lib.hid hh2
        have HM2 := Lib.hid hM2
        have HQ2 := Lib.hid hq2
        have HB2 := Lib.hid hb2
        have HRR : Hid ((r != r) = false) := Lib.hid (by simp)
        simp only [cmH, cmC] at hc1
        clear hgs hmm ha hl1 hr hV hE2 hx2 hh2 hM2 hq2 hb2 hn2 hn3
        go_wp2_with (first | (with_reducible refine wpl rfl (Stp.box 3 rfl rfl rfl H ?_); clear H; intro g3 w1 H; simp only [pS]; simp only [pE, nC, pS] at H) | (with_reducible refine wpl rfl (Stp.box 5 rfl rfl rfl H ?_); clear H; intro g5 w1 H; simp only [pS]; simp only [pE, nC, pS] at H) | (with_reducible refine wpl rfl (Stp.ldr rfl agg26 size26 rfl H mR sZ ?_); simp only [pS]) | (with_reducible refine wpl rfl (Stp.ldl rfl agg26 size26 rfl H mR (by simp) ?_); simp only [pS]; simp only [List.drop_succ_cons, List.drop_zero, List.take_succ_cons, List.take_zero]) | (with_reducible refine wpl rfl (Stp.ldor rfl agg26 size26 rfl H (by assumption) sZ (by assumption) ?_); simp only [pS]) | (with_reducible refine wpl rfl (Stp.ldr rfl agg43 size43 rfl H mR sZ ?_); simp only [pS]) | (with_reducible refine wpl rfl (Stp.ldl rfl agg43 size43 rfl H mR (by simp) ?_); simp only [pS]; simp only [List.drop_succ_cons, List.drop_zero, List.take_succ_cons, List.take_zero]) | (with_reducible refine wpl rfl (Stp.ldor rfl agg43 size43 rfl H (by assumption) sZ (by assumption) ?_); simp only [pS]) | (with_reducible refine wpl rfl (Stp.alloc 10 rfl rfl zero39 H ?_); clear H; intro g10 w1 H; simp only [pS]; simp only [nC] at H) | (with_reducible refine wpl rfl (Stp.str rfl size39 rfl rfl (by first | rfl | (simp [Value.oneCell']; done) | assumption) H uP sZ sZ ?_); clear H; intro w1 H; simp only [pS]) | (with_reducible refine wpl rfl (Stp.stl rfl size39 rfl rfl rfl rfl H uP (by simp) ?_); clear H; intro w1 H; simp only [pS]; simp only [List.drop_succ_cons, List.drop_zero, List.take_succ_cons, List.take_zero, List.nil_append, List.cons_append, Nat.reduceAdd] at H) | (with_reducible refine wpl rfl (Stp.alloc 12 rfl rfl zero39 H ?_); clear H; intro g12 w1 H; simp only [pS]; simp only [nC] at H))
        refine rg_begin 13 rfl (S := fun W => St _ _ W ([] : List Res)) (by kernel_rfl) (H.drew.sub sU) ?_
        replace H := H.drew
        have HS := H
        refine rg_take (i := 0) rfl kR kR kR (Yld.move rfl rfl) (H.sub sU) ?_; simp only [pS, pE]
        refine rg_take (i := 1) rfl kR kR kR (Yld.move rfl rfl) (H.sub sU) ?_; simp only [pS, pE]
        refine rg_take (i := 2) rfl kR kR kR (Yld.move rfl rfl) (H.sub sU) ?_; simp only [pS, pE]
        refine rg_take (i := 3) rfl kR kR kR (Yld.o rfl) (H.sub sU) ?_; simp only [pS]
        first | (refine rg_take (i := 4) rfl kR kR kR (Yld.ldr rfl rfl agg43 size43 rfl mR sZ) (H.sub sU) ?_; simp only [pS]) | (refine rg_take (i := 4) rfl kR kR kR (Yld.ldl rfl rfl agg43 size43 rfl mR (by simp)) (H.sub sU) ?_; simp only [pS]; simp only [List.drop_succ_cons, List.drop_zero, List.take_succ_cons, List.take_zero]) | (refine rg_take (i := 4) rfl kR kR kR (Yld.ldor rfl rfl agg43 size43 rfl (by assumption) sZ (by assumption)) (H.sub sU) ?_; simp only [pS])
        refine rg_take (i := 6) rfl kR kR kR (Yld.move rfl rfl) (H.sub sU) ?_; simp only [pS, pE]
        refine rg_take (i := 7) rfl kR kR kR (Yld.move rfl rfl) (H.sub sU) ?_; simp only [pS, pE]
        refine rg_take (i := 8) rfl kR kR kR (Yld.move rfl rfl) (H.sub sU) ?_; simp only [pS, pE]
        refine rg_take (i := 9) rfl kR kR kR (Yld.o rfl) (H.sub sU) ?_; simp only [pS]
        first | (refine rg_take (i := 10) rfl kR kR kR (Yld.ldr rfl rfl agg43 size43 rfl mR sZ) (H.sub sU) ?_; simp only [pS]) | (refine rg_take (i := 10) rfl kR kR kR (Yld.ldl rfl rfl agg43 size43 rfl mR (by simp)) (H.sub sU) ?_; simp only [pS]; simp only [List.drop_succ_cons, List.drop_zero, List.take_succ_cons, List.take_zero]) | (refine rg_take (i := 10) rfl kR kR kR (Yld.ldor rfl rfl agg43 size43 rfl (by assumption) sZ (by assumption)) (H.sub sU) ?_; simp only [pS])
        refine rg_one (i := 5) (by kernel_rfl) rfl rfl (fun K hK => ?_)
        refine wp_callf rfl ent16 (scounts_is g0 x M b c e.ba e.ma e.la e.da e.bc e.mc e.lc e.dc HSMC.out.v HWK.out.c _ HRES.out _ (HR.out.at H mE) (HWK.out.x.grow H.below)) rfl (fun v w1 hr => ?_)
        obtain ⟨rfl, hb1⟩ := hr
        replace H := H.grow hb1
        clear hb1
        clear HS
        have HS := H
        refine hK.out _ _ (H.sub sU) ?_
        clear hK K
        simp only [pS]
        refine rg_one (i := 11) (by kernel_rfl) rfl rfl (fun K hK => ?_)
        refine wp_callf rfl ent17 (rcounts_is gx x h qs b c e HSMC.out.v _ HRES2.out _ (HX.out.at H mE (by omega)) ((HVR.out.at H (List.nil_sublist _)).1.sl) (HWK.out.x.grow H.below)) rfl (fun v w1 hr => ?_)
        obtain ⟨rfl, hb1⟩ := hr
        replace H := H.grow hb1
        clear hb1
        clear HS
        have HS := H
        refine hK.out _ _ (H.sub sU) ?_
        clear hK K
        simp only [pS]
        refine rg_take (i := 12) rfl kR kR kR (Yld.of (v := .bool false) rfl (fun W _ => by go_simp; first | done | exact HRR.out | (rw [HRR.out]) | (simp [HRR.out]))) (H.sub sU) ?_; simp only [pS, pE]
        refine rg_done (by kernel_rfl) ?_
        go_wp2_with (first | (go_at_call 15; (with_reducible refine (sapply_all g0 x M b c e HSMC.out HWK.out.c HWK.out.cap _ HRES.out V HV.out x2 HX2.out M2 HM2.out b2 HB2.out R HR.out (HXR.out _) _ (H.pull (r := R) pU)).mono ?_); rintro e w1 ⟨v, rfl, hr⟩; obtain ⟨h1, G1e, R2, rfl, hR2, H2⟩ := hr; clear H; have H := H2; have HR2 := Lib.hid hR2; clear H2 hR2) | (go_at_call 18; (with_reducible refine (xapply_all gx x h qs b c e HSMC.out HWK.out.c HWK.out.cap HQL.out _ HRES2.out V HV.out E2 HE2.out x2 HX2.out h2 HH2.out qs2 HQ2.out b2 HB2.out X HX.out (HXR.out _) (HVR.out.mono (fun r hr => absurd hr List.not_mem_nil)) _ (H.pull (r := X) pU)).mono ?_); rintro e w1 ⟨v, rfl, hr⟩; obtain ⟨rfl, X2, ⟨sa, sc, rfl⟩, H2⟩ := hr; clear H; have H := H2.part; clear H2) | (with_reducible refine wpl rfl (Stp.box 3 rfl rfl rfl H ?_); clear H; intro g3 w1 H; simp only [pS]; simp only [pE, nC, pS] at H) | (with_reducible refine wpl rfl (Stp.box 5 rfl rfl rfl H ?_); clear H; intro g5 w1 H; simp only [pS]; simp only [pE, nC, pS] at H) | (with_reducible refine wpl rfl (Stp.ldr rfl agg26 size26 rfl H mR sZ ?_); simp only [pS]) | (with_reducible refine wpl rfl (Stp.ldl rfl agg26 size26 rfl H mR (by simp) ?_); simp only [pS]; simp only [List.drop_succ_cons, List.drop_zero, List.take_succ_cons, List.take_zero]) | (with_reducible refine wpl rfl (Stp.ldor rfl agg26 size26 rfl H (by assumption) sZ (by assumption) ?_); simp only [pS]) | (with_reducible refine wpl rfl (Stp.ldr rfl agg43 size43 rfl H mR sZ ?_); simp only [pS]) | (with_reducible refine wpl rfl (Stp.ldl rfl agg43 size43 rfl H mR (by simp) ?_); simp only [pS]; simp only [List.drop_succ_cons, List.drop_zero, List.take_succ_cons, List.take_zero]) | (with_reducible refine wpl rfl (Stp.ldor rfl agg43 size43 rfl H (by assumption) sZ (by assumption) ?_); simp only [pS]) | (with_reducible refine wpl rfl (Stp.alloc 10 rfl rfl zero39 H ?_); clear H; intro g10 w1 H; simp only [pS]; simp only [nC] at H) | (with_reducible refine wpl rfl (Stp.str rfl size39 rfl rfl (by first | rfl | (simp [Value.oneCell']; done) | assumption) H uP sZ sZ ?_); clear H; intro w1 H; simp only [pS]) | (with_reducible refine wpl rfl (Stp.stl rfl size39 rfl rfl rfl rfl H uP (by simp) ?_); clear H; intro w1 H; simp only [pS]; simp only [List.drop_succ_cons, List.drop_zero, List.take_succ_cons, List.take_zero, List.nil_append, List.cons_append, Nat.reduceAdd] at H) | (with_reducible refine wpl rfl (Stp.alloc 12 rfl rfl zero39 H ?_); clear H; intro g12 w1 H; simp only [pS]; simp only [nC] at H))
        simp only [xsC, evA] at H
        refine rg_begin 54 rfl (S := fun W => St _ _ W (row 39 g12 #[.int .i64 V.kd, .int .u64 (V.x.id : Int), .slice E2.ma V.x.mem.length E2.mc, .slice E2.la V.x.lvs.length E2.lc, .slice E2.da V.x.ldr.length E2.dc, .int .u16 (V.p.1 : Int), .int .u32 (V.p.2 : Int), .int .u64 (V.n : Int), .slice E2.ba V.data.length E2.bc] :: row 48 gx #[.int .u64 (x2.id : Int), .slice h2.ma x2.mem.length h2.mc, .slice h2.la x2.lvs.length h2.lc, .slice h2.da x2.ldr.length h2.dc, .slice sa qs2.length sc, .string (b2 0), .string (b2 1), .string (b2 2), .string (b2 3), .string (b2 4), .string (b2 5), .string (b2 6), .string (b2 7)] :: row 39 g10 #[.int .i64 V.kd, .int .u64 (V.x.id : Int), .slice h1.ma V.x.mem.length h1.mc, .slice h1.la V.x.lvs.length h1.lc, .slice h1.da V.x.ldr.length h1.dc, .int .u16 (V.p.1 : Int), .int .u32 (V.p.2 : Int), .int .u64 (V.n : Int), .slice h1.ba V.data.length h1.bc] :: row 36 g5 #[.int .u16 (p.1 : Int), .int .u32 (p.2 : Int)] :: [])) (by kernel_rfl) (H.drew.sub sU) ?_
        replace H := H.drew
        have HS := H
        refine rg_take (i := 0) rfl kR kR kR (Yld.move rfl rfl) (H.sub sU) ?_; simp only [pS, pE]
        refine rg_take (i := 1) rfl kR kR kR (Yld.move rfl rfl) (H.sub sU) ?_; simp only [pS, pE]
        refine rg_take (i := 2) rfl kR kR kR (Yld.of (v := .bool false) rfl (fun W _ => by go_simp; first | done | exact HRR.out | (rw [HRR.out]) | (simp [HRR.out]))) (H.sub sU) ?_; simp only [pS, pE]
        refine rg_take (i := 3) rfl kR kR kR (Yld.move rfl rfl) (H.sub sU) ?_; simp only [pS, pE]
        first | (refine rg_take (i := 4) rfl kR kR kR (Yld.ldr rfl rfl agg39 size39 rfl mR sZ) (H.sub sU) ?_; simp only [pS]) | (refine rg_take (i := 4) rfl kR kR kR (Yld.ldl rfl rfl agg39 size39 rfl mR (by simp)) (H.sub sU) ?_; simp only [pS]; simp only [List.drop_succ_cons, List.drop_zero, List.take_succ_cons, List.take_zero]) | (refine rg_take (i := 4) rfl kR kR kR (Yld.ldor rfl rfl agg39 size39 rfl (by assumption) sZ (by assumption)) (H.sub sU) ?_; simp only [pS])
        first | (refine rg_take (i := 5) rfl kR kR kR (Yld.ldr rfl rfl agg39 size39 rfl mR sZ) (H.sub sU) ?_; simp only [pS]) | (refine rg_take (i := 5) rfl kR kR kR (Yld.ldl rfl rfl agg39 size39 rfl mR (by simp)) (H.sub sU) ?_; simp only [pS]; simp only [List.drop_succ_cons, List.drop_zero, List.take_succ_cons, List.take_zero]) | (refine rg_take (i := 5) rfl kR kR kR (Yld.ldor rfl rfl agg39 size39 rfl (by assumption) sZ (by assumption)) (H.sub sU) ?_; simp only [pS])
        refine rg_one (i := 6) (by kernel_rfl) rfl rfl (fun K hK => ?_)
        refine wp_callf rfl ent19 (sevent_is V h1 E2 _ (H.getEv (G := G1e) mE) (HEV2.out.at H (List.nil_sublist _))) rfl (fun v w1 hr => ?_)
        obtain ⟨rfl, hb1⟩ := hr
        replace H := H.grow hb1
        clear hb1
        clear HS
        have HS := H
        refine hK.out _ _ (H.sub sU) ?_
        clear hK K
        simp only [pS]
        refine rg_take (i := 7) rfl kR kR kR (Yld.o rfl) (H.sub sU) ?_; simp only [pS]
        refine rg_take (i := 8) rfl kR kR kR (Yld.pick rfl rfl rfl) (H.sub sU) ?_; simp only [pS, pE]
        refine rg_take (i := 9) rfl kR kR kR (Yld.move rfl rfl) (H.sub sU) ?_; simp only [pS, pE]
        refine rg_take (i := 10) rfl kR kR kR (Yld.move rfl rfl) (H.sub sU) ?_; simp only [pS, pE]
        refine rg_take (i := 12) rfl kR kR kR (Yld.move rfl rfl) (H.sub sU) ?_; simp only [pS, pE]
        refine rg_take (i := 13) rfl kR kR kR (Yld.o rfl) (H.sub sU) ?_; simp only [pS]
        refine rg_take (i := 14) rfl kR kR kR (Yld.o rfl) (H.sub sU) ?_; simp only [pS]
        first | (refine rg_take (i := 15) rfl kR kR kR (Yld.ldr rfl rfl agg26 size26 rfl mR sZ) (H.sub sU) ?_; simp only [pS]) | (refine rg_take (i := 15) rfl kR kR kR (Yld.ldl rfl rfl agg26 size26 rfl mR (by simp)) (H.sub sU) ?_; simp only [pS]; simp only [List.drop_succ_cons, List.drop_zero, List.take_succ_cons, List.take_zero]) | (refine rg_take (i := 15) rfl kR kR kR (Yld.ldor rfl rfl agg26 size26 rfl (by assumption) sZ (by assumption)) (H.sub sU) ?_; simp only [pS])
        refine rg_one (i := 11) (by kernel_rfl) rfl rfl (fun K hK => ?_)
        refine wp_callf rfl ent21 (sview_ok g0 x2 M2 b2 HSX2.out.mem HSX2.out.lvs HSX2.out.each HSX2.out.ldr _ (HR2.out.at H mE)) rfl (fun v w1 hr => ?_)
        obtain ⟨G3, am, al, ad, cm, cl, cd, rfl, hG, hv2, hbw⟩ := hr
        replace H := H.new hbw (vwr_sound hG hv2) (fun g hg => (hG g hg).1)
        clear hbw hG hv2
        clear HS
        have HS := H
        refine hK.out _ _ (H.sub sU) ?_
        clear hK K
        simp only [pS]
        refine rg_one (i := 16) (by kernel_rfl) rfl rfl (fun K hK => ?_)
        refine wp_callf rfl ent20 (rvsame_is x2 x2 _ _ _ _ _ _ _ _ _ _ _ _ _ true (H.getVw (G := G3) mE) (HVR2.out.at H (List.nil_sublist _)) (vSame_iff.2 rfl)) rfl (fun v w1 hr => ?_)
        obtain ⟨rfl, hb1⟩ := hr
        replace H := H.grow hb1
        clear hb1
        clear HS
        have HS := H
        refine hK.out _ _ (H.sub sU) ?_
        clear hK K
        simp only [pS]
        refine rg_take (i := 17) rfl kR kR kR (Yld.o rfl) (H.sub sU) ?_; simp only [pS]
        refine rg_take (i := 18) rfl kR kR kR (Yld.pick rfl rfl rfl) (H.sub sU) ?_; simp only [pS, pE]
        refine rg_take (i := 19) rfl kR kR kR (Yld.move rfl rfl) (H.sub sU) ?_; simp only [pS, pE]
        refine rg_take (i := 20) rfl kR kR kR (Yld.move rfl rfl) (H.sub sU) ?_; simp only [pS, pE]
        first | (refine rg_take (i := 21) rfl kR kR kR (Yld.ldr rfl rfl agg36 size36 rfl mR sZ) (H.sub sU) ?_; simp only [pS]) | (refine rg_take (i := 21) rfl kR kR kR (Yld.ldl rfl rfl agg36 size36 rfl mR (by simp)) (H.sub sU) ?_; simp only [pS]; simp only [List.drop_succ_cons, List.drop_zero, List.take_succ_cons, List.take_zero]) | (refine rg_take (i := 21) rfl kR kR kR (Yld.ldor rfl rfl agg36 size36 rfl (by assumption) sZ (by assumption)) (H.sub sU) ?_; simp only [pS])
        refine rg_take (i := 23) rfl kR kR kR (Yld.move rfl rfl) (H.sub sU) ?_; simp only [pS, pE]
        first | (refine rg_take (i := 24) rfl kR kR kR (Yld.ldr rfl rfl agg36 size36 rfl mR sZ) (H.sub sU) ?_; simp only [pS]) | (refine rg_take (i := 24) rfl kR kR kR (Yld.ldl rfl rfl agg36 size36 rfl mR (by simp)) (H.sub sU) ?_; simp only [pS]; simp only [List.drop_succ_cons, List.drop_zero, List.take_succ_cons, List.take_zero]) | (refine rg_take (i := 24) rfl kR kR kR (Yld.ldor rfl rfl agg36 size36 rfl (by assumption) sZ (by assumption)) (H.sub sU) ?_; simp only [pS])
        refine rg_one (i := 22) (by kernel_rfl) rfl rfl (fun K hK => ?_)
        refine wp_callf rfl ent22 (slast_is g0 x2 M2 b2 p hp1 hp2 n2 HN2.out _ (HR2.out.at H mE)) rfl (fun v w1 hr => ?_)
        obtain ⟨rfl, hb1⟩ := hr
        replace H := H.grow hb1
        clear hb1
        clear HS
        have HS := H
        refine hK.out _ _ (H.sub sU) ?_
        clear hK K
        simp only [pS]
        refine rg_one (i := 25) (by kernel_rfl) rfl rfl (fun K hK => ?_)
        refine wp_callf rfl ent23 (rlast_is gx x2 h2 qs2 b2 p n2 HN2r.out _ (XsAt.of (sa := sa) (sc := sc) H mE mE HQ2L.out)) rfl (fun v w1 hr => ?_)
        obtain ⟨rfl, hb1⟩ := hr
        replace H := H.grow hb1
        clear hb1
        clear HS
        have HS := H
        refine hK.out _ _ (H.sub sU) ?_
        clear hK K
        simp only [pS]
        refine rg_take (i := 26) rfl kR kR kR (Yld.of (v := .bool false) rfl (fun W _ => by go_simp; first | done | simp)) (H.sub sU) ?_; simp only [pS, pE]
        refine rg_take (i := 27) rfl kR kR kR (Yld.pick rfl rfl rfl) (H.sub sU) ?_; simp only [pS, pE]
        refine rg_take (i := 28) rfl kR kR kR (Yld.move rfl rfl) (H.sub sU) ?_; simp only [pS, pE]
        refine rg_take (i := 29) rfl kR kR kR (Yld.move rfl rfl) (H.sub sU) ?_; simp only [pS, pE]
        refine rg_take (i := 30) rfl kR kR kR (Yld.move rfl rfl) (H.sub sU) ?_; simp only [pS, pE]
        refine rg_take (i := 31) rfl kR kR kR (Yld.move rfl rfl) (H.sub sU) ?_; simp only [pS, pE]
        refine rg_take (i := 32) rfl kR kR kR (Yld.o rfl) (H.sub sU) ?_; simp only [pS]
        refine rg_take (i := 33) rfl kR kR kR (Yld.o rfl) (H.sub sU) ?_; simp only [pS]
        first | (refine rg_take (i := 34) rfl kR kR kR (Yld.ldr rfl rfl agg36 size36 rfl mR sZ) (H.sub sU) ?_; simp only [pS]) | (refine rg_take (i := 34) rfl kR kR kR (Yld.ldl rfl rfl agg36 size36 rfl mR (by simp)) (H.sub sU) ?_; simp only [pS]; simp only [List.drop_succ_cons, List.drop_zero, List.take_succ_cons, List.take_zero]) | (refine rg_take (i := 34) rfl kR kR kR (Yld.ldor rfl rfl agg36 size36 rfl (by assumption) sZ (by assumption)) (H.sub sU) ?_; simp only [pS])
        refine rg_take (i := 36) rfl kR kR kR (Yld.move rfl rfl) (H.sub sU) ?_; simp only [pS, pE]
        refine rg_take (i := 37) rfl kR kR kR (Yld.move rfl rfl) (H.sub sU) ?_; simp only [pS, pE]
        refine rg_take (i := 38) rfl kR kR kR (Yld.move rfl rfl) (H.sub sU) ?_; simp only [pS, pE]
        refine rg_take (i := 39) rfl kR kR kR (Yld.o rfl) (H.sub sU) ?_; simp only [pS]
        refine rg_take (i := 40) rfl kR kR kR (Yld.o rfl) (H.sub sU) ?_; simp only [pS]
        first | (refine rg_take (i := 41) rfl kR kR kR (Yld.ldr rfl rfl agg36 size36 rfl mR sZ) (H.sub sU) ?_; simp only [pS]) | (refine rg_take (i := 41) rfl kR kR kR (Yld.ldl rfl rfl agg36 size36 rfl mR (by simp)) (H.sub sU) ?_; simp only [pS]; simp only [List.drop_succ_cons, List.drop_zero, List.take_succ_cons, List.take_zero]) | (refine rg_take (i := 41) rfl kR kR kR (Yld.ldor rfl rfl agg36 size36 rfl (by assumption) sZ (by assumption)) (H.sub sU) ?_; simp only [pS])
        refine rg_one (i := 35) (by kernel_rfl) rfl rfl (fun K hK => ?_)
        refine wp_callf rfl ent22 (slast_is g0 x2 M2 b2 c.fr HWK.out.c.fr1 HWK.out.c.fr2 n3 HN3.out _ (HR2.out.at H mE)) rfl (fun v w1 hr => ?_)
        obtain ⟨rfl, hb1⟩ := hr
        replace H := H.grow hb1
        clear hb1
        clear HS
        have HS := H
        refine hK.out _ _ (H.sub sU) ?_
        clear hK K
        simp only [pS]
        refine rg_one (i := 42) (by kernel_rfl) rfl rfl (fun K hK => ?_)
        refine wp_callf rfl ent23 (rlast_is gx x2 h2 qs2 b2 c.fr n3 HN3r.out _ (XsAt.of (sa := sa) (sc := sc) H mE mE HQ2L.out)) rfl (fun v w1 hr => ?_)
        obtain ⟨rfl, hb1⟩ := hr
        replace H := H.grow hb1
        clear hb1
        clear HS
        have HS := H
        refine hK.out _ _ (H.sub sU) ?_
        clear hK K
        simp only [pS]
        refine rg_take (i := 43) rfl kR kR kR (Yld.of (v := .bool false) rfl (fun W _ => by go_simp; first | done | simp)) (H.sub sU) ?_; simp only [pS, pE]
        refine rg_take (i := 44) rfl kR kR kR (Yld.pick rfl rfl rfl) (H.sub sU) ?_; simp only [pS, pE]
        refine rg_take (i := 45) rfl kR kR kR (Yld.move rfl rfl) (H.sub sU) ?_; simp only [pS, pE]
        refine rg_take (i := 46) rfl kR kR kR (Yld.move rfl rfl) (H.sub sU) ?_; simp only [pS, pE]
        refine rg_take (i := 48) rfl kR kR kR (Yld.move rfl rfl) (H.sub sU) ?_; simp only [pS, pE]
        refine rg_take (i := 49) rfl kR kR kR (Yld.o rfl) (H.sub sU) ?_; simp only [pS]
        refine rg_take (i := 50) rfl kR kR kR (Yld.o rfl) (H.sub sU) ?_; simp only [pS]
        first | (refine rg_take (i := 51) rfl kR kR kR (Yld.ldr rfl rfl agg46 size46 rfl mR sZ) (H.sub sU) ?_; simp only [pS]) | (refine rg_take (i := 51) rfl kR kR kR (Yld.ldl rfl rfl agg46 size46 rfl mR (by simp)) (H.sub sU) ?_; simp only [pS]; simp only [List.drop_succ_cons, List.drop_zero, List.take_succ_cons, List.take_zero]) | (refine rg_take (i := 51) rfl kR kR kR (Yld.ldor rfl rfl agg46 size46 rfl (by assumption) sZ (by assumption)) (H.sub sU) ?_; simp only [pS])
        refine rg_one (i := 47) (by kernel_rfl) rfl rfl (fun K hK => ?_)
        refine wp_callf rfl ent24 (sboard_ok g0 x2 M2 b2 _ (HR2.out.at H mE)) rfl (fun v w1 hr => ?_)
        obtain ⟨rfl, hb1⟩ := hr
        replace H := H.grow hb1
        clear hb1
        clear HS
        have HS := H
        refine hK.out _ _ (H.sub sU) ?_
        clear hK K
        simp only [pS]
        refine rg_take (i := 52) rfl kR kR kR (Yld.neqB rfl rfl rfl rfl) (H.sub sU) ?_; simp only [pS, pE]
        refine rg_take (i := 53) rfl kR kR kR (Yld.pick rfl rfl rfl) (H.sub sU) ?_; simp only [pS, pE]
        refine rg_done (by kernel_rfl) ?_
        go_wp2_with (first | (with_reducible refine wpl rfl (Stp.box 3 rfl rfl rfl H ?_); clear H; intro g3 w1 H; simp only [pS]; simp only [pE, nC, pS] at H) | (with_reducible refine wpl rfl (Stp.box 5 rfl rfl rfl H ?_); clear H; intro g5 w1 H; simp only [pS]; simp only [pE, nC, pS] at H) | (with_reducible refine wpl rfl (Stp.ldr rfl agg26 size26 rfl H mR sZ ?_); simp only [pS]) | (with_reducible refine wpl rfl (Stp.ldl rfl agg26 size26 rfl H mR (by simp) ?_); simp only [pS]; simp only [List.drop_succ_cons, List.drop_zero, List.take_succ_cons, List.take_zero]) | (with_reducible refine wpl rfl (Stp.ldor rfl agg26 size26 rfl H (by assumption) sZ (by assumption) ?_); simp only [pS]) | (with_reducible refine wpl rfl (Stp.ldr rfl agg43 size43 rfl H mR sZ ?_); simp only [pS]) | (with_reducible refine wpl rfl (Stp.ldl rfl agg43 size43 rfl H mR (by simp) ?_); simp only [pS]; simp only [List.drop_succ_cons, List.drop_zero, List.take_succ_cons, List.take_zero]) | (with_reducible refine wpl rfl (Stp.ldor rfl agg43 size43 rfl H (by assumption) sZ (by assumption) ?_); simp only [pS]) | (with_reducible refine wpl rfl (Stp.alloc 10 rfl rfl zero39 H ?_); clear H; intro g10 w1 H; simp only [pS]; simp only [nC] at H) | (with_reducible refine wpl rfl (Stp.str rfl size39 rfl rfl (by first | rfl | (simp [Value.oneCell']; done) | assumption) H uP sZ sZ ?_); clear H; intro w1 H; simp only [pS]) | (with_reducible refine wpl rfl (Stp.stl rfl size39 rfl rfl rfl rfl H uP (by simp) ?_); clear H; intro w1 H; simp only [pS]; simp only [List.drop_succ_cons, List.drop_zero, List.take_succ_cons, List.take_zero, List.nil_append, List.cons_append, Nat.reduceAdd] at H) | (with_reducible refine wpl rfl (Stp.alloc 12 rfl rfl zero39 H ?_); clear H; intro g12 w1 H; simp only [pS]; simp only [nC] at H))
        go_roundw
        case rel => exact ⟨q + 1, x2, h2, M2, qs2, b2, R2, _, by omega, by omega, by go_num, HR2, Lib.hid ⟨sa, sc, rfl⟩, HREL2, HSX2, HQQ2, HVR2, ((((((H.pull (r := row 36 g5 #[.int .u16 (p.1 : Int), .int .u32 (p.2 : Int)]) pU).pull (r := row 26 g3 #[.int .u64 (x0.id : Int), .slice ma x0.mem.length mc, .slice la x0.lvs.length lc, .slice da x0.ldr.length dc]) pU).pull (r := R2) pU).pull (r := slc 43 10 (.slice sa qs2.length sc) _ _) pU).pull (r := row 48 gx (xsC x2 h2 sa qs2.length sc b2)) pU).sep.sub sU)⟩
        case measure => simp [intOf]; omega
      · have q80i : ¬ (q : Int) < 80 := by omega
        go_wp2_with (first | (go_at_call 13; (with_reducible refine (aw19_ok _).mono ?_); rintro e w1 ⟨v, rfl, hr⟩; obtain ⟨rfl, hb1⟩ := hr; replace H := H.grow hb1; clear hb1) | (with_reducible refine wpl rfl (Stp.box 3 rfl rfl rfl H ?_); clear H; intro g3 w1 H; simp only [pS]; simp only [pE, nC, pS] at H) | (with_reducible refine wpl rfl (Stp.box 5 rfl rfl rfl H ?_); clear H; intro g5 w1 H; simp only [pS]; simp only [pE, nC, pS] at H) | (with_reducible refine wpl rfl (Stp.ldr rfl agg26 size26 rfl H mR sZ ?_); simp only [pS]) | (with_reducible refine wpl rfl (Stp.ldl rfl agg26 size26 rfl H mR (by simp) ?_); simp only [pS]; simp only [List.drop_succ_cons, List.drop_zero, List.take_succ_cons, List.take_zero]) | (with_reducible refine wpl rfl (Stp.ldor rfl agg26 size26 rfl H (by assumption) sZ (by assumption) ?_); simp only [pS]) | (with_reducible refine wpl rfl (Stp.ldr rfl agg43 size43 rfl H mR sZ ?_); simp only [pS]) | (with_reducible refine wpl rfl (Stp.ldl rfl agg43 size43 rfl H mR (by simp) ?_); simp only [pS]; simp only [List.drop_succ_cons, List.drop_zero, List.take_succ_cons, List.take_zero]) | (with_reducible refine wpl rfl (Stp.ldor rfl agg43 size43 rfl H (by assumption) sZ (by assumption) ?_); simp only [pS]) | (with_reducible refine wpl rfl (Stp.alloc 10 rfl rfl zero39 H ?_); clear H; intro g10 w1 H; simp only [pS]; simp only [nC] at H) | (with_reducible refine wpl rfl (Stp.str rfl size39 rfl rfl (by first | rfl | (simp [Value.oneCell']; done) | assumption) H uP sZ sZ ?_); clear H; intro w1 H; simp only [pS]) | (with_reducible refine wpl rfl (Stp.stl rfl size39 rfl rfl rfl rfl H uP (by simp) ?_); clear H; intro w1 H; simp only [pS]; simp only [List.drop_succ_cons, List.drop_zero, List.take_succ_cons, List.take_zero, List.nil_append, List.cons_append, Nat.reduceAdd] at H) | (with_reducible refine wpl rfl (Stp.alloc 12 rfl rfl zero39 H ?_); clear H; intro g12 w1 H; simp only [pS]; simp only [nC] at H))
        go_ret
        exact ⟨_, rfl, rfl, H.below⟩
    · have qli : ¬ (q : Int) < (n : Int) := by omega
      go_wp2_with (first | (go_at_call 13; (with_reducible refine (aw19_ok _).mono ?_); rintro e w1 ⟨v, rfl, hr⟩; obtain ⟨rfl, hb1⟩ := hr; replace H := H.grow hb1; clear hb1) | (with_reducible refine wpl rfl (Stp.box 3 rfl rfl rfl H ?_); clear H; intro g3 w1 H; simp only [pS]; simp only [pE, nC, pS] at H) | (with_reducible refine wpl rfl (Stp.box 5 rfl rfl rfl H ?_); clear H; intro g5 w1 H; simp only [pS]; simp only [pE, nC, pS] at H) | (with_reducible refine wpl rfl (Stp.ldr rfl agg26 size26 rfl H mR sZ ?_); simp only [pS]) | (with_reducible refine wpl rfl (Stp.ldl rfl agg26 size26 rfl H mR (by simp) ?_); simp only [pS]; simp only [List.drop_succ_cons, List.drop_zero, List.take_succ_cons, List.take_zero]) | (with_reducible refine wpl rfl (Stp.ldor rfl agg26 size26 rfl H (by assumption) sZ (by assumption) ?_); simp only [pS]) | (with_reducible refine wpl rfl (Stp.ldr rfl agg43 size43 rfl H mR sZ ?_); simp only [pS]) | (with_reducible refine wpl rfl (Stp.ldl rfl agg43 size43 rfl H mR (by simp) ?_); simp only [pS]; simp only [List.drop_succ_cons, List.drop_zero, List.take_succ_cons, List.take_zero]) | (with_reducible refine wpl rfl (Stp.ldor rfl agg43 size43 rfl H (by assumption) sZ (by assumption) ?_); simp only [pS]) | (with_reducible refine wpl rfl (Stp.alloc 10 rfl rfl zero39 H ?_); clear H; intro g10 w1 H; simp only [pS]; simp only [nC] at H) | (with_reducible refine wpl rfl (Stp.str rfl size39 rfl rfl (by first | rfl | (simp [Value.oneCell']; done) | assumption) H uP sZ sZ ?_); clear H; intro w1 H; simp only [pS]) | (with_reducible refine wpl rfl (Stp.stl rfl size39 rfl rfl rfl rfl H uP (by simp) ?_); clear H; intro w1 H; simp only [pS]; simp only [List.drop_succ_cons, List.drop_zero, List.take_succ_cons, List.take_zero, List.nil_append, List.cons_append, Nat.reduceAdd] at H) | (with_reducible refine wpl rfl (Stp.alloc 12 rfl rfl zero39 H ?_); clear H; intro g12 w1 H; simp only [pS]; simp only [nC] at H))
      go_ret
      exact ⟨_, rfl, rfl, H.below⟩
set_option maxRecDepth 100000 in
theorem statePlays_lifted (os : Os) (started : os.Started) (H : Type) (enc : TypeId × Value → H) :
    ReturnsInHanded {} Try.checked os 4 .any (Rows.statePlaysSpec.pre6 enc Try.prog Try.f4 Rows.statePlaysRow.domain false) (Rows.statePlaysSpec.post enc Try.prog Try.f4 false true false false) := by
  refine law_lifted (C := Try.checked) own started (by kernel_rfl) Try.func4 laidOut rfl Try.underlying4 rfl (by kernel_rfl) (fun ds hd => ?_)
    (ChangeSpec.witness6 (enc := enc) (C := Try.checked) false ⟨#[], #[.agg #[.int .u64 0, .slice none 0 0, .slice none 0 0, .slice none 0 0], .slice none 0 0, .agg #[.int .u16 0, .int .u32 0]], []⟩ 8 (by kernel_rfl) (by kernel_rfl) (by kernel_rfl) (by kernel_rfl)) ?_
  · match ds, hd with
    | [d0, d1, d2], _ => exact ⟨rfl, rfl, rfl⟩
  intro W base args ds p hval hA
  rw [Try.params4] at hA hval
  obtain ⟨v0, vs0, d0, ds0, p0, q0, hargs, rfl, rfl, h0, r0⟩ := trodAll_cons hA
  obtain ⟨v1, vs1, d1, ds1, p1, q1, rfl, rfl, rfl, h1, r1⟩ := trodAll_cons r0
  obtain ⟨v2, vs2, d2, ds2, p2, q2, rfl, rfl, rfl, h2, r2⟩ := trodAll_cons r1
  obtain ⟨rfl, rfl, rfl⟩ := trodAll_nil r2
  obtain rfl : args = #[v0, v1, v2] := by cases args; simp_all
  obtain ⟨x, ma, la, da, mc, lc, dc, rfl, hw, hx⟩ := open_vw (hval 0 26 v0 rfl rfl) h0
  obtain ⟨l, va, vc, rfl, hs, hxl⟩ := open_cms (hval 1 27 v1 rfl rfl) h1
  obtain ⟨p, rfl, hp1, hp2⟩ := open_pp (hval 2 36 v2 rfl rfl) h2
  exact law_splays x ma la da mc lc dc va vc l p hp1 hp2 W hx hs hxl
theorem statePlays_over : Rows.statePlaysRow.holds Try.pinned (OpenSpec.ofChange Rows.statePlaysSpec) :=
  OpenClaim.holds_of_wide 4 Try.f4 rfl rfl rfl rfl rfl rfl rfl ⟨rfl, rfl, rfl, rfl, rfl⟩ rfl rfl rfl rfl rfl (by kernel_rfl) Try.func4 (by kernel_rfl)
    (of_decide_eq_true (by kernel_rfl)) (by unfold Func.isWrapper; first | (rw [if_pos (by decide +kernel)]; kernel_rfl) | (rw [if_neg (by decide +kernel)]; exact ⟨rfl, rfl⟩))
    (fun os started H enc _ => statePlays_lifted os started H enc)
theorem statePlays_holds : Rows.StatePlaysSaid := statePlays_over
#print axioms statePlays_holds
end Go.Proofs.Ytjghcmejmdllbaa
