/- The statement StateTwins of layer 19 (state): the law's walk; the bounds stand in it. -/
import Derived.Test.YtjghcmejmdllbaaSta9
import Derived.Test.YtjghcmejmdllbaaSta11
namespace Go.Proofs.Ytjghcmejmdllbaa
open Go.ChangeShapes Go.WideShapes Go.ChangeAt Go.RowKit Go.Maps Go.Deep
set_option linter.unusedVariables false
set_option linter.unusedSimpArgs false
set_option linter.unusedSectionVars false
set_option maxRecDepth 100000
set_option maxHeartbeats 8000000
attribute [local irreducible] gC gV gS cntS nxV nxM nxB evO lastN
theorem law_stwins (x0 : Vw) (ma la da : Option Addr) (mc lc dc : Nat) (va : Option Addr) (vc : Nat) (l : List (Cm × Hd)) (w : World) (hv : VwG (Old w) w (.slice ma x0.mem.length mc) (.slice la x0.lvs.length lc) (.slice da x0.ldr.length dc) x0) (hs : Sl w 10 l.length (.slice va l.length vc) (elK l)) (hx : ∀ a ∈ l, wfK w a) :
    Calls Try.prog 5 #[.agg (vwC x0 ma la da mc lc dc), .slice va l.length vc] w (Ret fun v w' => v = .bool true ∧ Below w.heap.size w w') := by
  have H := St.init w
  have HXX := Lib.hid hx
  clear hx
  obtain ⟨e, he⟩ : ∃ e, gS x0 l = e := ⟨_, rfl⟩
  have HE := Lib.hid he
  obtain ⟨n, hn⟩ : ∃ n, l.length = n := ⟨_, rfl⟩
  have HN := Lib.hid hn
  have hs0 := hs
  rw [hn] at hs0 ⊢
  clear hs hn
  simp only [vwC]
  cases e
  case true =>
    clear he
    go_enter Try.func5, Try.ntmps5
    go_wp2_with (first | (go_at_call 12; (with_reducible refine (great19_n x0 ma la da mc lc dc va vc l n HN.out _ (hs0.grow H.below) (fun a ha => (HXX.out a ha).grow H.below) (VwG.mono (fun g hg => Nat.lt_of_lt_of_le hg H.below.size) (hv.grow H.below))).mono ?_); rintro e w1 ⟨v, rfl, hr⟩; obtain ⟨rfl, hb1⟩ := hr; replace H := H.grow hb1; clear hb1; rw [HE.out]) | (go_at_call 13; (with_reducible refine (aw19_ok _).mono ?_); rintro e w1 ⟨v, rfl, hr⟩; obtain ⟨rfl, hb1⟩ := hr; replace H := H.grow hb1; clear hb1) | (with_reducible refine wpl rfl (Stp.box 2 rfl rfl rfl H ?_); clear H; intro g2 w1 H; simp only [pS]; simp only [pE, nC, pS] at H) | (with_reducible refine wpl rfl (Stp.ldr rfl agg26 size26 rfl H mR sZ ?_); simp only [pS]) | (with_reducible refine wpl rfl (Stp.ldl rfl agg26 size26 rfl H mR (by simp) ?_); simp only [pS]; simp only [List.drop_succ_cons, List.drop_zero, List.take_succ_cons, List.take_zero]) | (with_reducible refine wpl rfl (Stp.ldor rfl agg26 size26 rfl H (by assumption) sZ (by assumption) ?_); simp only [pS]) | (with_reducible refine wpl rfl (Stp.ldr rfl agg43 size43 rfl H mR sZ ?_); simp only [pS]) | (with_reducible refine wpl rfl (Stp.ldl rfl agg43 size43 rfl H mR (by simp) ?_); simp only [pS]; simp only [List.drop_succ_cons, List.drop_zero, List.take_succ_cons, List.take_zero]) | (with_reducible refine wpl rfl (Stp.ldor rfl agg43 size43 rfl H (by assumption) sZ (by assumption) ?_); simp only [pS]) | (with_reducible refine wpl rfl (Stp.alloc 8 rfl rfl zero39 H ?_); clear H; intro g8 w1 H; simp only [pS]; simp only [nC] at H) | (with_reducible refine wpl rfl (Stp.str rfl size39 rfl rfl (by first | rfl | (simp [Value.oneCell']; done) | assumption) H uP sZ sZ ?_); clear H; intro w1 H; simp only [pS]) | (with_reducible refine wpl rfl (Stp.stl rfl size39 rfl rfl rfl rfl H uP (by simp) ?_); clear H; intro w1 H; simp only [pS]; simp only [List.drop_succ_cons, List.drop_zero, List.take_succ_cons, List.take_zero, List.nil_append, List.cons_append, Nat.reduceAdd] at H) | (with_reducible refine wpl rfl (Stp.alloc 10 rfl rfl zero39 H ?_); clear H; intro g10 w1 H; simp only [pS]; simp only [nC] at H) | (with_reducible refine wpl rfl (Stp.ldr rfl agg39 size39 rfl H mR sZ ?_); simp only [pS]) | (with_reducible refine wpl rfl (Stp.ldl rfl agg39 size39 rfl H mR (by simp) ?_); simp only [pS]; simp only [List.drop_succ_cons, List.drop_zero, List.take_succ_cons, List.take_zero]) | (with_reducible refine wpl rfl (Stp.ldor rfl agg39 size39 rfl H (by assumption) sZ (by assumption) ?_); simp only [pS]) | (with_reducible refine wpl rfl (Stp.alloc 12 rfl rfl zero39 H ?_); clear H; intro g12 w1 H; simp only [pS]; simp only [nC] at H))
    go_ret
    exact ⟨_, rfl, rfl, H.below⟩
  have HGS : Hid (((l.take 80).any fun a => gC a.1) = false) := Lib.hid (by unfold gS at he; simp only [Bool.or_eq_false_iff] at he; exact he.1)
  have HSM0 : Hid (smV x0) := Lib.hid (gV_sm (by unfold gS at he; simp only [Bool.or_eq_false_iff] at he; exact he.2))
  have HXV : Hid (∀ L, Rd w.heap.size w L fun W => VwG (Old w) W (.slice ma x0.mem.length mc) (.slice la x0.lvs.length lc) (.slice da x0.ldr.length dc) x0) := Lib.hid (fun L W hW _ => hv.grow hW)
  obtain ⟨_, _, _, hmx, _⟩ := id hs0
  unfold maxLen at hmx
  clear he
  go_enter Try.func5, Try.ntmps5
  go_wp2_with (first | (go_at_call 12; (with_reducible refine (great19_n x0 ma la da mc lc dc va vc l n HN.out _ (hs0.grow H.below) (fun a ha => (HXX.out a ha).grow H.below) (VwG.mono (fun g hg => Nat.lt_of_lt_of_le hg H.below.size) (hv.grow H.below))).mono ?_); rintro e w1 ⟨v, rfl, hr⟩; obtain ⟨rfl, hb1⟩ := hr; replace H := H.grow hb1; clear hb1; rw [HE.out]) | (with_reducible refine wpl rfl (Stp.box 2 rfl rfl rfl H ?_); clear H; intro g2 w1 H; simp only [pS]; simp only [pE, nC, pS] at H) | (with_reducible refine wpl rfl (Stp.ldr rfl agg26 size26 rfl H mR sZ ?_); simp only [pS]) | (with_reducible refine wpl rfl (Stp.ldl rfl agg26 size26 rfl H mR (by simp) ?_); simp only [pS]; simp only [List.drop_succ_cons, List.drop_zero, List.take_succ_cons, List.take_zero]) | (with_reducible refine wpl rfl (Stp.ldor rfl agg26 size26 rfl H (by assumption) sZ (by assumption) ?_); simp only [pS]) | (with_reducible refine wpl rfl (Stp.ldr rfl agg43 size43 rfl H mR sZ ?_); simp only [pS]) | (with_reducible refine wpl rfl (Stp.ldl rfl agg43 size43 rfl H mR (by simp) ?_); simp only [pS]; simp only [List.drop_succ_cons, List.drop_zero, List.take_succ_cons, List.take_zero]) | (with_reducible refine wpl rfl (Stp.ldor rfl agg43 size43 rfl H (by assumption) sZ (by assumption) ?_); simp only [pS]) | (with_reducible refine wpl rfl (Stp.alloc 8 rfl rfl zero39 H ?_); clear H; intro g8 w1 H; simp only [pS]; simp only [nC] at H) | (with_reducible refine wpl rfl (Stp.str rfl size39 rfl rfl (by first | rfl | (simp [Value.oneCell']; done) | assumption) H uP sZ sZ ?_); clear H; intro w1 H; simp only [pS]) | (with_reducible refine wpl rfl (Stp.stl rfl size39 rfl rfl rfl rfl H uP (by simp) ?_); clear H; intro w1 H; simp only [pS]; simp only [List.drop_succ_cons, List.drop_zero, List.take_succ_cons, List.take_zero, List.nil_append, List.cons_append, Nat.reduceAdd] at H) | (with_reducible refine wpl rfl (Stp.alloc 10 rfl rfl zero39 H ?_); clear H; intro g10 w1 H; simp only [pS]; simp only [nC] at H) | (with_reducible refine wpl rfl (Stp.ldr rfl agg39 size39 rfl H mR sZ ?_); simp only [pS]) | (with_reducible refine wpl rfl (Stp.ldl rfl agg39 size39 rfl H mR (by simp) ?_); simp only [pS]; simp only [List.drop_succ_cons, List.drop_zero, List.take_succ_cons, List.take_zero]) | (with_reducible refine wpl rfl (Stp.ldor rfl agg39 size39 rfl H (by assumption) sZ (by assumption) ?_); simp only [pS]) | (with_reducible refine wpl rfl (Stp.alloc 12 rfl rfl zero39 H ?_); clear H; intro g12 w1 H; simp only [pS]; simp only [nC] at H))
  refine rg_begin 6 rfl (S := fun W => St _ _ W (row 26 g2 #[.int .u64 (x0.id : Int), .slice ma x0.mem.length mc, .slice la x0.lvs.length lc, .slice da x0.ldr.length dc] :: [])) (by kernel_rfl) (H.drew.sub sU) ?_
  replace H := H.drew
  have HS := H
  first | (refine rg_take (i := 0) rfl kR kR kR (Yld.ldr rfl rfl agg26 size26 rfl mR sZ) (H.sub sU) ?_; simp only [pS]) | (refine rg_take (i := 0) rfl kR kR kR (Yld.ldl rfl rfl agg26 size26 rfl mR (by simp)) (H.sub sU) ?_; simp only [pS]; simp only [List.drop_succ_cons, List.drop_zero, List.take_succ_cons, List.take_zero]) | (refine rg_take (i := 0) rfl kR kR kR (Yld.ldor rfl rfl agg26 size26 rfl (by assumption) sZ (by assumption)) (H.sub sU) ?_; simp only [pS])
  first | (refine rg_take (i := 2) rfl kR kR kR (Yld.ldr rfl rfl agg26 size26 rfl mR sZ) (H.sub sU) ?_; simp only [pS]) | (refine rg_take (i := 2) rfl kR kR kR (Yld.ldl rfl rfl agg26 size26 rfl mR (by simp)) (H.sub sU) ?_; simp only [pS]; simp only [List.drop_succ_cons, List.drop_zero, List.take_succ_cons, List.take_zero]) | (refine rg_take (i := 2) rfl kR kR kR (Yld.ldor rfl rfl agg26 size26 rfl (by assumption) sZ (by assumption)) (H.sub sU) ?_; simp only [pS])
  refine rg_one (i := 1) (by kernel_rfl) rfl rfl (fun K hK => ?_)
  refine wp_callf rfl ent14 (snew_ok (G1 := Old w) x0 ma la da mc lc dc HSM0.out _ (HXV.out _) H) rfl (fun v w1 hr => ?_)
  obtain ⟨g0, R, rfl, hR, H2⟩ := hr
  clear H
  have H := H2
  have HR := Lib.hid hR
  clear H2 hR
  clear HS
  have HS := H
  refine hK.out _ _ (H.sub sU) ?_
  clear hK K
  simp only [pS]
  refine rg_one (i := 3) (by kernel_rfl) rfl rfl (fun K hK => ?_)
  refine wp_callf rfl ent14 (snew_ok (G1 := Old w) x0 ma la da mc lc dc HSM0.out _ (HXV.out _) H) rfl (fun v w1 hr => ?_)
  obtain ⟨g1, T, rfl, hR, H2⟩ := hr
  clear H
  have H := H2
  have HT := Lib.hid hR
  clear H2 hR
  clear HS
  have HS := H
  refine hK.out _ _ (H.sub sU) ?_
  clear hK K
  simp only [pS]
  refine rg_take (i := 4) rfl kR kR kR (Yld.assign rfl rfl) (H.sub sU) ?_; simp only [pS, pE]
  refine rg_take (i := 5) rfl kR kR kR (Yld.assign rfl rfl) (H.sub sU) ?_; simp only [pS, pE]
  refine rg_done (by kernel_rfl) ?_
  have H3 : St w.heap.size w _ (R :: T :: row 26 g2 #[.int .u64 (x0.id : Int), .slice ma x0.mem.length mc, .slice la x0.lvs.length lc, .slice da x0.ldr.length dc] :: []) := (H.pull (r := R) pU).sub sU
  clear H
  have H := H3
  clear H3
  go_wp2_with (first | (with_reducible refine wpl rfl (Stp.box 2 rfl rfl rfl H ?_); clear H; intro g2 w1 H; simp only [pS]; simp only [pE, nC, pS] at H) | (with_reducible refine wpl rfl (Stp.ldr rfl agg26 size26 rfl H mR sZ ?_); simp only [pS]) | (with_reducible refine wpl rfl (Stp.ldl rfl agg26 size26 rfl H mR (by simp) ?_); simp only [pS]; simp only [List.drop_succ_cons, List.drop_zero, List.take_succ_cons, List.take_zero]) | (with_reducible refine wpl rfl (Stp.ldor rfl agg26 size26 rfl H (by assumption) sZ (by assumption) ?_); simp only [pS]) | (with_reducible refine wpl rfl (Stp.ldr rfl agg43 size43 rfl H mR sZ ?_); simp only [pS]) | (with_reducible refine wpl rfl (Stp.ldl rfl agg43 size43 rfl H mR (by simp) ?_); simp only [pS]; simp only [List.drop_succ_cons, List.drop_zero, List.take_succ_cons, List.take_zero]) | (with_reducible refine wpl rfl (Stp.ldor rfl agg43 size43 rfl H (by assumption) sZ (by assumption) ?_); simp only [pS]) | (with_reducible refine wpl rfl (Stp.alloc 8 rfl rfl zero39 H ?_); clear H; intro g8 w1 H; simp only [pS]; simp only [nC] at H) | (with_reducible refine wpl rfl (Stp.str rfl size39 rfl rfl (by first | rfl | (simp [Value.oneCell']; done) | assumption) H uP sZ sZ ?_); clear H; intro w1 H; simp only [pS]) | (with_reducible refine wpl rfl (Stp.stl rfl size39 rfl rfl rfl rfl H uP (by simp) ?_); clear H; intro w1 H; simp only [pS]; simp only [List.drop_succ_cons, List.drop_zero, List.take_succ_cons, List.take_zero, List.nil_append, List.cons_append, Nat.reduceAdd] at H) | (with_reducible refine wpl rfl (Stp.alloc 10 rfl rfl zero39 H ?_); clear H; intro g10 w1 H; simp only [pS]; simp only [nC] at H) | (with_reducible refine wpl rfl (Stp.ldr rfl agg39 size39 rfl H mR sZ ?_); simp only [pS]) | (with_reducible refine wpl rfl (Stp.ldl rfl agg39 size39 rfl H mR (by simp) ?_); simp only [pS]; simp only [List.drop_succ_cons, List.drop_zero, List.take_succ_cons, List.take_zero]) | (with_reducible refine wpl rfl (Stp.ldor rfl agg39 size39 rfl H (by assumption) sZ (by assumption) ?_); simp only [pS]) | (with_reducible refine wpl rfl (Stp.alloc 12 rfl rfl zero39 H ?_); clear H; intro g12 w1 H; simp only [pS]; simp only [nC] at H))
  go_loopw [7] (fun i wr => ∃ (q : Nat) (x : Vw) (M : List (Pr × Nat)) (b : Nat → ByteArray) (R T : Res), q ≤ n ∧ q ≤ 80 ∧ i = .int .i64 (q : Int) ∧ Hid (StaR g0 x M b R) ∧ Hid (StaR g1 x M b T) ∧ Hid (smV x) ∧ St w.heap.size w wr (R :: T :: row 26 g2 #[.int .u64 (x0.id : Int), .slice ma x0.mem.length mc, .slice la x0.lvs.length lc, .slice da x0.ldr.length dc] :: [])) (fun i _ => 80 - (intOf i).toNat)
  case atStart => exact ⟨0, x0, [], bd0, R, T, Nat.zero_le _, Nat.zero_le _, rfl, HR, HT, HSM0, H⟩
  case round =>
    clear H HR HT HSM0
    obtain ⟨q, x, M, b, R, T, hq, hq80, rfl, HR, HT, HSX, H⟩ := hrel
    by_cases hlt : q < n
    · have qli : (q : Int) < (n : Int) := by omega
      by_cases h80 : q < 80
      · have q80i : (q : Int) < 80 := by omega
        have hl1 : q < l.length := by rw [HN.out]; exact hlt
        obtain ⟨b1, o1, rfl, hbl1⟩ := hs0.addr (by omega)
        have hc1 := hs0.cell hlt
        rw [elK_at hl1] at hc1
        have hmm := List.getElem_mem hl1
        have hgs := any_take HGS.out hl1 h80
        obtain ⟨⟨c, e⟩, ha⟩ : ∃ a, l[q] = a := ⟨_, rfl⟩
        rw [ha] at hc1 hmm hgs
        have HWK : Hid (wfK w (c, e)) := Lib.hid (HXX.out _ hmm)
        have HSMC : Hid (smC c) := Lib.hid (gC_sm hgs)
        have HXR : Hid (∀ L, Rd w.heap.size w L fun W => CmG (Old w) W (.slice e.ba c.data.length e.bc) (.slice e.ma c.v.mem.length e.mc) (.slice e.la c.v.lvs.length e.lc) (.slice e.da c.v.ldr.length e.dc) c) := Lib.hid (fun L W hW _ => HWK.out.x.grow hW)
        obtain ⟨r, hr⟩ : ∃ r, cntS x (lastN M c.fr) c = r := ⟨_, rfl⟩
        have HRES := Lib.hid hr
        obtain ⟨V, hV⟩ : ∃ V, evO r c = V := ⟨_, rfl⟩
        obtain ⟨x2, hx2⟩ : ∃ V, nxV r x c = V := ⟨_, rfl⟩
        obtain ⟨M2, hM2⟩ : ∃ V, nxM r M c = V := ⟨_, rfl⟩
        obtain ⟨b2, hb2⟩ : ∃ V, nxB r b c = V := ⟨_, rfl⟩
        have HSX2 : Hid (smV x2) := Lib.hid (by rw [← hx2]; exact nxV_sm HSX.out HSMC.out.v)
        have HV := Lib.hid hV
        have HX2 := Lib.hid hx2
        have HM2 := Lib.hid hM2
        have HB2 := Lib.hid hb2
        have hrr : (r != r) = false := by simp
        simp only [cmH, cmC] at hc1
        clear hgs hmm ha hl1 hr hV hx2 hM2 hb2
        cases hcf : cntS x2 (lastN M2 c.fr) c
        · have HCF := Lib.hid hcf
          clear hcf
          go_wp2_with (first | (go_at_call 15; (with_reducible refine (sapply_all g0 x M b c e HSMC.out HWK.out.c HWK.out.cap _ HRES.out V HV.out x2 HX2.out M2 HM2.out b2 HB2.out R HR.out (HXR.out _) _ (H.pull (r := R) pU)).mono ?_); rintro e w1 ⟨v, rfl, hr⟩; obtain ⟨h1, G1e, R2, rfl, hR2, H2⟩ := hr; clear H; have H := H2; have HR2 := Lib.hid hR2; clear H2 hR2 HR) | (go_at_call 15; (with_reducible refine (sapply_all g1 x M b c e HSMC.out HWK.out.c HWK.out.cap _ HRES.out V HV.out x2 HX2.out M2 HM2.out b2 HB2.out T HT.out (HXR.out _) _ (H.pull (r := T) pU)).mono ?_); rintro e w1 ⟨v, rfl, hr⟩; obtain ⟨h2, G2e, T2, rfl, hR2, H2⟩ := hr; clear H; have H := H2; have HT2 := Lib.hid hR2; clear H2 hR2 HT) | (go_at_call 15; (with_reducible refine (sapply_no g0 x2 M2 b2 c e.ba e.ma e.la e.da e.bc e.mc e.lc e.dc HSMC.out HWK.out.c HCF.out R2 HR2.out (HXR.out _) _ (H.pull (r := R2) pU)).mono ?_); rintro e w1 ⟨v, rfl, hr⟩; obtain ⟨rfl, H2⟩ := hr; clear H; have H := H2; clear H2) | (go_at_call 16; (with_reducible refine (scounts_is g0 x2 M2 b2 c e.ba e.ma e.la e.da e.bc e.mc e.lc e.dc HSMC.out.v HWK.out.c _ HCF.out _ (HR2.out.at H mE) (HWK.out.x.grow H.below)).mono ?_); rintro e w1 ⟨v, rfl, hr⟩; obtain ⟨rfl, hb1⟩ := hr; replace H := H.grow hb1; clear hb1) | (go_at_call 19; (with_reducible refine (sevent_is V h1 h2 _ (H.getEv (G := G1e) mE) (H.getEv (G := G2e) mE)).mono ?_); rintro e w1 ⟨v, rfl, hr⟩; obtain ⟨rfl, hb1⟩ := hr; replace H := H.grow hb1; clear hb1) | (go_at_call 25; (with_reducible refine (ssame_ok g0 g1 x2 M2 b2 _ (HR2.out.at H mE) (HT2.out.at H mE)).mono ?_); rintro e w1 ⟨v, rfl, hr⟩; obtain ⟨rfl, hb1⟩ := hr; replace H := H.grow hb1; clear hb1) | (with_reducible refine wpl rfl (Stp.box 2 rfl rfl rfl H ?_); clear H; intro g2 w1 H; simp only [pS]; simp only [pE, nC, pS] at H) | (with_reducible refine wpl rfl (Stp.ldr rfl agg26 size26 rfl H mR sZ ?_); simp only [pS]) | (with_reducible refine wpl rfl (Stp.ldl rfl agg26 size26 rfl H mR (by simp) ?_); simp only [pS]; simp only [List.drop_succ_cons, List.drop_zero, List.take_succ_cons, List.take_zero]) | (with_reducible refine wpl rfl (Stp.ldor rfl agg26 size26 rfl H (by assumption) sZ (by assumption) ?_); simp only [pS]) | (with_reducible refine wpl rfl (Stp.ldr rfl agg43 size43 rfl H mR sZ ?_); simp only [pS]) | (with_reducible refine wpl rfl (Stp.ldl rfl agg43 size43 rfl H mR (by simp) ?_); simp only [pS]; simp only [List.drop_succ_cons, List.drop_zero, List.take_succ_cons, List.take_zero]) | (with_reducible refine wpl rfl (Stp.ldor rfl agg43 size43 rfl H (by assumption) sZ (by assumption) ?_); simp only [pS]) | (with_reducible refine wpl rfl (Stp.alloc 8 rfl rfl zero39 H ?_); clear H; intro g8 w1 H; simp only [pS]; simp only [nC] at H) | (with_reducible refine wpl rfl (Stp.str rfl size39 rfl rfl (by first | rfl | (simp [Value.oneCell']; done) | assumption) H uP sZ sZ ?_); clear H; intro w1 H; simp only [pS]) | (with_reducible refine wpl rfl (Stp.stl rfl size39 rfl rfl rfl rfl H uP (by simp) ?_); clear H; intro w1 H; simp only [pS]; simp only [List.drop_succ_cons, List.drop_zero, List.take_succ_cons, List.take_zero, List.nil_append, List.cons_append, Nat.reduceAdd] at H) | (with_reducible refine wpl rfl (Stp.alloc 10 rfl rfl zero39 H ?_); clear H; intro g10 w1 H; simp only [pS]; simp only [nC] at H) | (with_reducible refine wpl rfl (Stp.ldr rfl agg39 size39 rfl H mR sZ ?_); simp only [pS]) | (with_reducible refine wpl rfl (Stp.ldl rfl agg39 size39 rfl H mR (by simp) ?_); simp only [pS]; simp only [List.drop_succ_cons, List.drop_zero, List.take_succ_cons, List.take_zero]) | (with_reducible refine wpl rfl (Stp.ldor rfl agg39 size39 rfl H (by assumption) sZ (by assumption) ?_); simp only [pS]) | (with_reducible refine wpl rfl (Stp.alloc 12 rfl rfl zero39 H ?_); clear H; intro g12 w1 H; simp only [pS]; simp only [nC] at H))
          go_roundw
          case rel => exact ⟨q + 1, x2, M2, b2, R2, T2, by omega, by omega, by go_num, HR2, HT2, HSX2, (((H.pull (r := row 26 g2 #[.int .u64 (x0.id : Int), .slice ma x0.mem.length mc, .slice la x0.lvs.length lc, .slice da x0.ldr.length dc]) pU).pull (r := T2) pU).pull (r := R2) pU).sub sU⟩
          case measure => simp [intOf]; omega
        · have HCF := Lib.hid hcf
          clear hcf
          go_wp2_with (first | (go_at_call 15; (with_reducible refine (sapply_all g0 x M b c e HSMC.out HWK.out.c HWK.out.cap _ HRES.out V HV.out x2 HX2.out M2 HM2.out b2 HB2.out R HR.out (HXR.out _) _ (H.pull (r := R) pU)).mono ?_); rintro e w1 ⟨v, rfl, hr⟩; obtain ⟨h1, G1e, R2, rfl, hR2, H2⟩ := hr; clear H; have H := H2; have HR2 := Lib.hid hR2; clear H2 hR2 HR) | (go_at_call 15; (with_reducible refine (sapply_all g1 x M b c e HSMC.out HWK.out.c HWK.out.cap _ HRES.out V HV.out x2 HX2.out M2 HM2.out b2 HB2.out T HT.out (HXR.out _) _ (H.pull (r := T) pU)).mono ?_); rintro e w1 ⟨v, rfl, hr⟩; obtain ⟨h2, G2e, T2, rfl, hR2, H2⟩ := hr; clear H; have H := H2; have HT2 := Lib.hid hR2; clear H2 hR2 HT) | (go_at_call 16; (with_reducible refine (scounts_is g0 x2 M2 b2 c e.ba e.ma e.la e.da e.bc e.mc e.lc e.dc HSMC.out.v HWK.out.c _ HCF.out _ (HR2.out.at H mE) (HWK.out.x.grow H.below)).mono ?_); rintro e w1 ⟨v, rfl, hr⟩; obtain ⟨rfl, hb1⟩ := hr; replace H := H.grow hb1; clear hb1) | (go_at_call 19; (with_reducible refine (sevent_is V h1 h2 _ (H.getEv (G := G1e) mE) (H.getEv (G := G2e) mE)).mono ?_); rintro e w1 ⟨v, rfl, hr⟩; obtain ⟨rfl, hb1⟩ := hr; replace H := H.grow hb1; clear hb1) | (go_at_call 25; (with_reducible refine (ssame_ok g0 g1 x2 M2 b2 _ (HR2.out.at H mE) (HT2.out.at H mE)).mono ?_); rintro e w1 ⟨v, rfl, hr⟩; obtain ⟨rfl, hb1⟩ := hr; replace H := H.grow hb1; clear hb1) | (with_reducible refine wpl rfl (Stp.box 2 rfl rfl rfl H ?_); clear H; intro g2 w1 H; simp only [pS]; simp only [pE, nC, pS] at H) | (with_reducible refine wpl rfl (Stp.ldr rfl agg26 size26 rfl H mR sZ ?_); simp only [pS]) | (with_reducible refine wpl rfl (Stp.ldl rfl agg26 size26 rfl H mR (by simp) ?_); simp only [pS]; simp only [List.drop_succ_cons, List.drop_zero, List.take_succ_cons, List.take_zero]) | (with_reducible refine wpl rfl (Stp.ldor rfl agg26 size26 rfl H (by assumption) sZ (by assumption) ?_); simp only [pS]) | (with_reducible refine wpl rfl (Stp.ldr rfl agg43 size43 rfl H mR sZ ?_); simp only [pS]) | (with_reducible refine wpl rfl (Stp.ldl rfl agg43 size43 rfl H mR (by simp) ?_); simp only [pS]; simp only [List.drop_succ_cons, List.drop_zero, List.take_succ_cons, List.take_zero]) | (with_reducible refine wpl rfl (Stp.ldor rfl agg43 size43 rfl H (by assumption) sZ (by assumption) ?_); simp only [pS]) | (with_reducible refine wpl rfl (Stp.alloc 8 rfl rfl zero39 H ?_); clear H; intro g8 w1 H; simp only [pS]; simp only [nC] at H) | (with_reducible refine wpl rfl (Stp.str rfl size39 rfl rfl (by first | rfl | (simp [Value.oneCell']; done) | assumption) H uP sZ sZ ?_); clear H; intro w1 H; simp only [pS]) | (with_reducible refine wpl rfl (Stp.stl rfl size39 rfl rfl rfl rfl H uP (by simp) ?_); clear H; intro w1 H; simp only [pS]; simp only [List.drop_succ_cons, List.drop_zero, List.take_succ_cons, List.take_zero, List.nil_append, List.cons_append, Nat.reduceAdd] at H) | (with_reducible refine wpl rfl (Stp.alloc 10 rfl rfl zero39 H ?_); clear H; intro g10 w1 H; simp only [pS]; simp only [nC] at H) | (with_reducible refine wpl rfl (Stp.ldr rfl agg39 size39 rfl H mR sZ ?_); simp only [pS]) | (with_reducible refine wpl rfl (Stp.ldl rfl agg39 size39 rfl H mR (by simp) ?_); simp only [pS]; simp only [List.drop_succ_cons, List.drop_zero, List.take_succ_cons, List.take_zero]) | (with_reducible refine wpl rfl (Stp.ldor rfl agg39 size39 rfl H (by assumption) sZ (by assumption) ?_); simp only [pS]) | (with_reducible refine wpl rfl (Stp.alloc 12 rfl rfl zero39 H ?_); clear H; intro g12 w1 H; simp only [pS]; simp only [nC] at H))
          go_roundw
          case rel => exact ⟨q + 1, x2, M2, b2, R2, T2, by omega, by omega, by go_num, HR2, HT2, HSX2, (((H.pull (r := row 26 g2 #[.int .u64 (x0.id : Int), .slice ma x0.mem.length mc, .slice la x0.lvs.length lc, .slice da x0.ldr.length dc]) pU).pull (r := T2) pU).pull (r := R2) pU).sub sU⟩
          case measure => simp [intOf]; omega
      · have q80i : ¬ (q : Int) < 80 := by omega
        go_wp2_with (first | (go_at_call 13; (with_reducible refine (aw19_ok _).mono ?_); rintro e w1 ⟨v, rfl, hr⟩; obtain ⟨rfl, hb1⟩ := hr; replace H := H.grow hb1; clear hb1) | (with_reducible refine wpl rfl (Stp.box 2 rfl rfl rfl H ?_); clear H; intro g2 w1 H; simp only [pS]; simp only [pE, nC, pS] at H) | (with_reducible refine wpl rfl (Stp.ldr rfl agg26 size26 rfl H mR sZ ?_); simp only [pS]) | (with_reducible refine wpl rfl (Stp.ldl rfl agg26 size26 rfl H mR (by simp) ?_); simp only [pS]; simp only [List.drop_succ_cons, List.drop_zero, List.take_succ_cons, List.take_zero]) | (with_reducible refine wpl rfl (Stp.ldor rfl agg26 size26 rfl H (by assumption) sZ (by assumption) ?_); simp only [pS]) | (with_reducible refine wpl rfl (Stp.ldr rfl agg43 size43 rfl H mR sZ ?_); simp only [pS]) | (with_reducible refine wpl rfl (Stp.ldl rfl agg43 size43 rfl H mR (by simp) ?_); simp only [pS]; simp only [List.drop_succ_cons, List.drop_zero, List.take_succ_cons, List.take_zero]) | (with_reducible refine wpl rfl (Stp.ldor rfl agg43 size43 rfl H (by assumption) sZ (by assumption) ?_); simp only [pS]) | (with_reducible refine wpl rfl (Stp.alloc 8 rfl rfl zero39 H ?_); clear H; intro g8 w1 H; simp only [pS]; simp only [nC] at H) | (with_reducible refine wpl rfl (Stp.str rfl size39 rfl rfl (by first | rfl | (simp [Value.oneCell']; done) | assumption) H uP sZ sZ ?_); clear H; intro w1 H; simp only [pS]) | (with_reducible refine wpl rfl (Stp.stl rfl size39 rfl rfl rfl rfl H uP (by simp) ?_); clear H; intro w1 H; simp only [pS]; simp only [List.drop_succ_cons, List.drop_zero, List.take_succ_cons, List.take_zero, List.nil_append, List.cons_append, Nat.reduceAdd] at H) | (with_reducible refine wpl rfl (Stp.alloc 10 rfl rfl zero39 H ?_); clear H; intro g10 w1 H; simp only [pS]; simp only [nC] at H) | (with_reducible refine wpl rfl (Stp.ldr rfl agg39 size39 rfl H mR sZ ?_); simp only [pS]) | (with_reducible refine wpl rfl (Stp.ldl rfl agg39 size39 rfl H mR (by simp) ?_); simp only [pS]; simp only [List.drop_succ_cons, List.drop_zero, List.take_succ_cons, List.take_zero]) | (with_reducible refine wpl rfl (Stp.ldor rfl agg39 size39 rfl H (by assumption) sZ (by assumption) ?_); simp only [pS]) | (with_reducible refine wpl rfl (Stp.alloc 12 rfl rfl zero39 H ?_); clear H; intro g12 w1 H; simp only [pS]; simp only [nC] at H))
        go_ret
        exact ⟨_, rfl, rfl, H.below⟩
    · have qli : ¬ (q : Int) < (n : Int) := by omega
      go_wp2_with (first | (go_at_call 13; (with_reducible refine (aw19_ok _).mono ?_); rintro e w1 ⟨v, rfl, hr⟩; obtain ⟨rfl, hb1⟩ := hr; replace H := H.grow hb1; clear hb1) | (with_reducible refine wpl rfl (Stp.box 2 rfl rfl rfl H ?_); clear H; intro g2 w1 H; simp only [pS]; simp only [pE, nC, pS] at H) | (with_reducible refine wpl rfl (Stp.ldr rfl agg26 size26 rfl H mR sZ ?_); simp only [pS]) | (with_reducible refine wpl rfl (Stp.ldl rfl agg26 size26 rfl H mR (by simp) ?_); simp only [pS]; simp only [List.drop_succ_cons, List.drop_zero, List.take_succ_cons, List.take_zero]) | (with_reducible refine wpl rfl (Stp.ldor rfl agg26 size26 rfl H (by assumption) sZ (by assumption) ?_); simp only [pS]) | (with_reducible refine wpl rfl (Stp.ldr rfl agg43 size43 rfl H mR sZ ?_); simp only [pS]) | (with_reducible refine wpl rfl (Stp.ldl rfl agg43 size43 rfl H mR (by simp) ?_); simp only [pS]; simp only [List.drop_succ_cons, List.drop_zero, List.take_succ_cons, List.take_zero]) | (with_reducible refine wpl rfl (Stp.ldor rfl agg43 size43 rfl H (by assumption) sZ (by assumption) ?_); simp only [pS]) | (with_reducible refine wpl rfl (Stp.alloc 8 rfl rfl zero39 H ?_); clear H; intro g8 w1 H; simp only [pS]; simp only [nC] at H) | (with_reducible refine wpl rfl (Stp.str rfl size39 rfl rfl (by first | rfl | (simp [Value.oneCell']; done) | assumption) H uP sZ sZ ?_); clear H; intro w1 H; simp only [pS]) | (with_reducible refine wpl rfl (Stp.stl rfl size39 rfl rfl rfl rfl H uP (by simp) ?_); clear H; intro w1 H; simp only [pS]; simp only [List.drop_succ_cons, List.drop_zero, List.take_succ_cons, List.take_zero, List.nil_append, List.cons_append, Nat.reduceAdd] at H) | (with_reducible refine wpl rfl (Stp.alloc 10 rfl rfl zero39 H ?_); clear H; intro g10 w1 H; simp only [pS]; simp only [nC] at H) | (with_reducible refine wpl rfl (Stp.ldr rfl agg39 size39 rfl H mR sZ ?_); simp only [pS]) | (with_reducible refine wpl rfl (Stp.ldl rfl agg39 size39 rfl H mR (by simp) ?_); simp only [pS]; simp only [List.drop_succ_cons, List.drop_zero, List.take_succ_cons, List.take_zero]) | (with_reducible refine wpl rfl (Stp.ldor rfl agg39 size39 rfl H (by assumption) sZ (by assumption) ?_); simp only [pS]) | (with_reducible refine wpl rfl (Stp.alloc 12 rfl rfl zero39 H ?_); clear H; intro g12 w1 H; simp only [pS]; simp only [nC] at H))
      go_ret
      exact ⟨_, rfl, rfl, H.below⟩
set_option maxRecDepth 100000 in
theorem stateTwins_lifted (os : Os) (started : os.Started) (H : Type) (enc : TypeId × Value → H) :
    ReturnsInHanded {} Try.checked os 5 .any (Rows.stateTwinsSpec.pre6 enc Try.prog Try.f5 Rows.stateTwinsRow.domain false) (Rows.stateTwinsSpec.post enc Try.prog Try.f5 false true false false) := by
  refine law_lifted (C := Try.checked) own started (by kernel_rfl) Try.func5 laidOut rfl Try.underlying4 rfl (by kernel_rfl) (fun ds hd => ?_)
    (ChangeSpec.witness6 (enc := enc) (C := Try.checked) false ⟨#[], #[.agg #[.int .u64 0, .slice none 0 0, .slice none 0 0, .slice none 0 0], .slice none 0 0], []⟩ 8 (by kernel_rfl) (by kernel_rfl) (by kernel_rfl) (by kernel_rfl)) ?_
  · match ds, hd with
    | [d0, d1], _ => exact ⟨rfl, rfl, rfl⟩
  intro W base args ds p hval hA
  rw [Try.params5] at hA hval
  obtain ⟨v0, vs0, d0, ds0, p0, q0, hargs, rfl, rfl, h0, r0⟩ := trodAll_cons hA
  obtain ⟨v1, vs1, d1, ds1, p1, q1, rfl, rfl, rfl, h1, r1⟩ := trodAll_cons r0
  obtain ⟨rfl, rfl, rfl⟩ := trodAll_nil r1
  obtain rfl : args = #[v0, v1] := by cases args; simp_all
  obtain ⟨x, ma, la, da, mc, lc, dc, rfl, hw, hx⟩ := open_vw (hval 0 26 v0 rfl rfl) h0
  obtain ⟨l, va, vc, rfl, hs, hxl⟩ := open_cms (hval 1 27 v1 rfl rfl) h1
  exact law_stwins x ma la da mc lc dc va vc l W hx hs hxl
theorem stateTwins_over : Rows.stateTwinsRow.holds Try.pinned (OpenSpec.ofChange Rows.stateTwinsSpec) :=
  OpenClaim.holds_of_wide 5 Try.f5 rfl rfl rfl rfl rfl rfl rfl ⟨rfl, rfl, rfl, rfl, rfl⟩ rfl rfl rfl rfl rfl (by kernel_rfl) Try.func5 (by kernel_rfl)
    (of_decide_eq_true (by kernel_rfl)) (by unfold Func.isWrapper; first | (rw [if_pos (by decide +kernel)]; kernel_rfl) | (rw [if_neg (by decide +kernel)]; exact ⟨rfl, rfl⟩))
    (fun os started H enc _ => stateTwins_lifted os started H enc)
theorem stateTwins_holds : Rows.StateTwinsSaid := stateTwins_over
#print axioms stateTwins_holds
end Go.Proofs.Ytjghcmejmdllbaa
