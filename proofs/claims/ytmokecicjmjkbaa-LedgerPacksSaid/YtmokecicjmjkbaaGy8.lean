/- Contracts of layers 8's and 9's Same (view, cmd); no condition. Contracts of the references' Same over processes, and of what is Great of layers 8 and 9 (choragusref03, 08, 09); no condition. -/
import Derived.Test.YtmokecicjmjkbaaGy7
namespace Go.Proofs.Ytmokecicjmjkbaa
open Go.ChangeShapes Go.WideShapes Go.ChangeAt Go.RowKit Go.Maps
set_option linter.unusedVariables false
set_option linter.unusedSimpArgs false
theorem eqPD_is (a b c d : Nat) (e : Bool) (h : decide ((a, b) = (c, d)) = e) (w : World) : (Op.equalIn 10000 30 (.agg #[.int .u16 (a : Int), .int .u32 (b : Int)]) (.agg #[.int .u16 (c : Int), .int .u32 (d : Int)])).run Try.prog w = .ok e w := by
  cases e
  · exact eqPD_no a b c d (of_decide_eq_false h) w
  · have := of_decide_eq_true h
    have e1 : a = c := congrArg Prod.fst this
    have e2 : b = d := congrArg Prod.snd this
    rw [e1, e2]
    exact eqPD_yes c d w
set_option maxRecDepth 100000 in
set_option maxHeartbeats 2000000 in
theorem vsame_ok {G1 G2 : Nat → Prop} (x y : Vw) (ma la da mb lb db : Option Addr) (mc lc dc md ld dd : Nat) (w : World)
    (hx : VwG G1 w (.slice ma x.mem.length mc) (.slice la x.lvs.length lc) (.slice da x.ldr.length dc) x) (hy : VwG G2 w (.slice mb y.mem.length md) (.slice lb y.lvs.length ld) (.slice db y.ldr.length dd) y) :
    Calls Try.prog 116 #[.agg (vwC x ma la da mc lc dc), .agg (vwC y mb lb db md ld dd)] w (Ret fun v w' => v = .bool (vSame x y) ∧ Below w.heap.size w w') := by
  have H := St.init w
  simp only [vwC]
  obtain ⟨hx1, hx2, hx3⟩ := hx
  obtain ⟨hy1, hy2, hy3⟩ := hy
  by_cases g0 : x.id = y.id
  · have iN : ((x.id : Int) == (y.id : Int)) = true := by simp [g0]
    by_cases g1 : x.mem = y.mem
    · have E1 := Lib.hid (decide_eq_true g1)
      by_cases g2 : x.lvs = y.lvs
      · have E2 := Lib.hid (decide_eq_true g2)
        by_cases g3 : x.ldr = y.ldr
        · have E3 := Lib.hid (decide_eq_true g3)
          have HV : Hid (vSame x y = true) := Lib.hid (by simp [vSame, g0, g1, g2, g3])
          clear g0 g1 g2 g3
          go_enter Try.func116, Try.ntmps116
          go_wp2_with (first | (go_at_call 138; (first | ((with_reducible refine (peq_ok _ _ x.mem y.mem _ (hx1.sl.grow H.below) (hy1.sl.grow H.below)).mono ?_); rintro e w1 ⟨v, rfl, hr⟩; obtain ⟨rfl, hb1⟩ := hr; replace H := H.grow hb1; clear hb1; rw [E1.out]) | ((with_reducible refine (peq_ok _ _ x.ldr y.ldr _ (hx3.sl.grow H.below) (hy3.sl.grow H.below)).mono ?_); rintro e w1 ⟨v, rfl, hr⟩; obtain ⟨rfl, hb1⟩ := hr; replace H := H.grow hb1; clear hb1; rw [E3.out]))) | (go_at_call 139; (with_reducible refine (lveq_ok _ _ x.lvs y.lvs _ (hx2.grow H.below) (hy2.grow H.below)).mono ?_); rintro e w1 ⟨v, rfl, hr⟩; obtain ⟨rfl, hb1⟩ := hr; replace H := H.grow hb1; clear hb1; rw [E2.out]) | (with_reducible refine wpl rfl (dQ 2 rfl ?_); with_reducible refine (Stp.box 2 rfl rfl rfl H ?_); clear H; intro g2 w1 H; simp only [pS]; simp only [pE, nC, pS] at H) | (with_reducible refine wpl rfl (dQ 3 rfl ?_); with_reducible refine (Stp.box 3 rfl rfl rfl H ?_); clear H; intro g3 w1 H; simp only [pS]; simp only [pE, nC, pS] at H) | (with_reducible refine wpl rfl (ldQ (ty := 26) rfl ?_); first | (with_reducible refine (Stp.ldo rfl agg26 rfl H (by assumption) (by assumption) ?_); simp only [pS]) | (with_reducible refine (Stp.ldc rfl agg26 rfl H mR cE ?_); simp only [pS])) | (with_reducible refine wpl rfl (ldQ (ty := 31) rfl ?_); first | (with_reducible refine (Stp.ldo rfl agg31 rfl H (by assumption) (by assumption) ?_); simp only [pS]) | (with_reducible refine (Stp.ldc rfl agg31 rfl H mR cE ?_); simp only [pS])) | (with_reducible refine wpl rfl (ldQ (ty := 32) rfl ?_); first | (with_reducible refine (Stp.ldo rfl agg32 rfl H (by assumption) (by assumption) ?_); simp only [pS]) | (with_reducible refine (Stp.ldc rfl agg32 rfl H mR cE ?_); simp only [pS])))
          go_ret
          exact ⟨_, rfl, by rw [HV.out]; rfl, H.below⟩
        · have E3 := Lib.hid (decide_eq_false g3)
          have HV : Hid (vSame x y = false) := Lib.hid (by simp [vSame, g0, g1, g2, g3])
          clear g0 g1 g2 g3
          go_enter Try.func116, Try.ntmps116
          go_wp2_with (first | (go_at_call 138; (first | ((with_reducible refine (peq_ok _ _ x.mem y.mem _ (hx1.sl.grow H.below) (hy1.sl.grow H.below)).mono ?_); rintro e w1 ⟨v, rfl, hr⟩; obtain ⟨rfl, hb1⟩ := hr; replace H := H.grow hb1; clear hb1; rw [E1.out]) | ((with_reducible refine (peq_ok _ _ x.ldr y.ldr _ (hx3.sl.grow H.below) (hy3.sl.grow H.below)).mono ?_); rintro e w1 ⟨v, rfl, hr⟩; obtain ⟨rfl, hb1⟩ := hr; replace H := H.grow hb1; clear hb1; rw [E3.out]))) | (go_at_call 139; (with_reducible refine (lveq_ok _ _ x.lvs y.lvs _ (hx2.grow H.below) (hy2.grow H.below)).mono ?_); rintro e w1 ⟨v, rfl, hr⟩; obtain ⟨rfl, hb1⟩ := hr; replace H := H.grow hb1; clear hb1; rw [E2.out]) | (with_reducible refine wpl rfl (dQ 2 rfl ?_); with_reducible refine (Stp.box 2 rfl rfl rfl H ?_); clear H; intro g2 w1 H; simp only [pS]; simp only [pE, nC, pS] at H) | (with_reducible refine wpl rfl (dQ 3 rfl ?_); with_reducible refine (Stp.box 3 rfl rfl rfl H ?_); clear H; intro g3 w1 H; simp only [pS]; simp only [pE, nC, pS] at H) | (with_reducible refine wpl rfl (ldQ (ty := 26) rfl ?_); first | (with_reducible refine (Stp.ldo rfl agg26 rfl H (by assumption) (by assumption) ?_); simp only [pS]) | (with_reducible refine (Stp.ldc rfl agg26 rfl H mR cE ?_); simp only [pS])) | (with_reducible refine wpl rfl (ldQ (ty := 31) rfl ?_); first | (with_reducible refine (Stp.ldo rfl agg31 rfl H (by assumption) (by assumption) ?_); simp only [pS]) | (with_reducible refine (Stp.ldc rfl agg31 rfl H mR cE ?_); simp only [pS])) | (with_reducible refine wpl rfl (ldQ (ty := 32) rfl ?_); first | (with_reducible refine (Stp.ldo rfl agg32 rfl H (by assumption) (by assumption) ?_); simp only [pS]) | (with_reducible refine (Stp.ldc rfl agg32 rfl H mR cE ?_); simp only [pS])))
          go_ret
          exact ⟨_, rfl, by rw [HV.out]; rfl, H.below⟩
      · have E2 := Lib.hid (decide_eq_false g2)
        have HV : Hid (vSame x y = false) := Lib.hid (by simp [vSame, g0, g1, g2])
        clear g0 g1 g2
        go_enter Try.func116, Try.ntmps116
        go_wp2_with (first | (go_at_call 138; (first | ((with_reducible refine (peq_ok _ _ x.mem y.mem _ (hx1.sl.grow H.below) (hy1.sl.grow H.below)).mono ?_); rintro e w1 ⟨v, rfl, hr⟩; obtain ⟨rfl, hb1⟩ := hr; replace H := H.grow hb1; clear hb1; rw [E1.out]) | ((with_reducible refine (peq_ok _ _ x.ldr y.ldr _ (hx3.sl.grow H.below) (hy3.sl.grow H.below)).mono ?_); rintro e w1 ⟨v, rfl, hr⟩; obtain ⟨rfl, hb1⟩ := hr; replace H := H.grow hb1; clear hb1; rw [E3.out]))) | (go_at_call 139; (with_reducible refine (lveq_ok _ _ x.lvs y.lvs _ (hx2.grow H.below) (hy2.grow H.below)).mono ?_); rintro e w1 ⟨v, rfl, hr⟩; obtain ⟨rfl, hb1⟩ := hr; replace H := H.grow hb1; clear hb1; rw [E2.out]) | (with_reducible refine wpl rfl (dQ 2 rfl ?_); with_reducible refine (Stp.box 2 rfl rfl rfl H ?_); clear H; intro g2 w1 H; simp only [pS]; simp only [pE, nC, pS] at H) | (with_reducible refine wpl rfl (dQ 3 rfl ?_); with_reducible refine (Stp.box 3 rfl rfl rfl H ?_); clear H; intro g3 w1 H; simp only [pS]; simp only [pE, nC, pS] at H) | (with_reducible refine wpl rfl (ldQ (ty := 26) rfl ?_); first | (with_reducible refine (Stp.ldo rfl agg26 rfl H (by assumption) (by assumption) ?_); simp only [pS]) | (with_reducible refine (Stp.ldc rfl agg26 rfl H mR cE ?_); simp only [pS])) | (with_reducible refine wpl rfl (ldQ (ty := 31) rfl ?_); first | (with_reducible refine (Stp.ldo rfl agg31 rfl H (by assumption) (by assumption) ?_); simp only [pS]) | (with_reducible refine (Stp.ldc rfl agg31 rfl H mR cE ?_); simp only [pS])) | (with_reducible refine wpl rfl (ldQ (ty := 32) rfl ?_); first | (with_reducible refine (Stp.ldo rfl agg32 rfl H (by assumption) (by assumption) ?_); simp only [pS]) | (with_reducible refine (Stp.ldc rfl agg32 rfl H mR cE ?_); simp only [pS])))
        go_ret
        exact ⟨_, rfl, by rw [HV.out]; rfl, H.below⟩
    · have E1 := Lib.hid (decide_eq_false g1)
      have HV : Hid (vSame x y = false) := Lib.hid (by simp [vSame, g0, g1])
      clear g0 g1
      go_enter Try.func116, Try.ntmps116
      go_wp2_with (first | (go_at_call 138; (first | ((with_reducible refine (peq_ok _ _ x.mem y.mem _ (hx1.sl.grow H.below) (hy1.sl.grow H.below)).mono ?_); rintro e w1 ⟨v, rfl, hr⟩; obtain ⟨rfl, hb1⟩ := hr; replace H := H.grow hb1; clear hb1; rw [E1.out]) | ((with_reducible refine (peq_ok _ _ x.ldr y.ldr _ (hx3.sl.grow H.below) (hy3.sl.grow H.below)).mono ?_); rintro e w1 ⟨v, rfl, hr⟩; obtain ⟨rfl, hb1⟩ := hr; replace H := H.grow hb1; clear hb1; rw [E3.out]))) | (go_at_call 139; (with_reducible refine (lveq_ok _ _ x.lvs y.lvs _ (hx2.grow H.below) (hy2.grow H.below)).mono ?_); rintro e w1 ⟨v, rfl, hr⟩; obtain ⟨rfl, hb1⟩ := hr; replace H := H.grow hb1; clear hb1; rw [E2.out]) | (with_reducible refine wpl rfl (dQ 2 rfl ?_); with_reducible refine (Stp.box 2 rfl rfl rfl H ?_); clear H; intro g2 w1 H; simp only [pS]; simp only [pE, nC, pS] at H) | (with_reducible refine wpl rfl (dQ 3 rfl ?_); with_reducible refine (Stp.box 3 rfl rfl rfl H ?_); clear H; intro g3 w1 H; simp only [pS]; simp only [pE, nC, pS] at H) | (with_reducible refine wpl rfl (ldQ (ty := 26) rfl ?_); first | (with_reducible refine (Stp.ldo rfl agg26 rfl H (by assumption) (by assumption) ?_); simp only [pS]) | (with_reducible refine (Stp.ldc rfl agg26 rfl H mR cE ?_); simp only [pS])) | (with_reducible refine wpl rfl (ldQ (ty := 31) rfl ?_); first | (with_reducible refine (Stp.ldo rfl agg31 rfl H (by assumption) (by assumption) ?_); simp only [pS]) | (with_reducible refine (Stp.ldc rfl agg31 rfl H mR cE ?_); simp only [pS])) | (with_reducible refine wpl rfl (ldQ (ty := 32) rfl ?_); first | (with_reducible refine (Stp.ldo rfl agg32 rfl H (by assumption) (by assumption) ?_); simp only [pS]) | (with_reducible refine (Stp.ldc rfl agg32 rfl H mR cE ?_); simp only [pS])))
      go_ret
      exact ⟨_, rfl, by rw [HV.out]; rfl, H.below⟩
  · have iN : ((x.id : Int) == (y.id : Int)) = false := by simp; omega
    have HV : Hid (vSame x y = false) := Lib.hid (by simp [vSame, g0])
    clear g0
    go_enter Try.func116, Try.ntmps116
    go_wp2_with (first | (go_at_call 138; (first | ((with_reducible refine (peq_ok _ _ x.mem y.mem _ (hx1.sl.grow H.below) (hy1.sl.grow H.below)).mono ?_); rintro e w1 ⟨v, rfl, hr⟩; obtain ⟨rfl, hb1⟩ := hr; replace H := H.grow hb1; clear hb1; rw [E1.out]) | ((with_reducible refine (peq_ok _ _ x.ldr y.ldr _ (hx3.sl.grow H.below) (hy3.sl.grow H.below)).mono ?_); rintro e w1 ⟨v, rfl, hr⟩; obtain ⟨rfl, hb1⟩ := hr; replace H := H.grow hb1; clear hb1; rw [E3.out]))) | (go_at_call 139; (with_reducible refine (lveq_ok _ _ x.lvs y.lvs _ (hx2.grow H.below) (hy2.grow H.below)).mono ?_); rintro e w1 ⟨v, rfl, hr⟩; obtain ⟨rfl, hb1⟩ := hr; replace H := H.grow hb1; clear hb1; rw [E2.out]) | (with_reducible refine wpl rfl (dQ 2 rfl ?_); with_reducible refine (Stp.box 2 rfl rfl rfl H ?_); clear H; intro g2 w1 H; simp only [pS]; simp only [pE, nC, pS] at H) | (with_reducible refine wpl rfl (dQ 3 rfl ?_); with_reducible refine (Stp.box 3 rfl rfl rfl H ?_); clear H; intro g3 w1 H; simp only [pS]; simp only [pE, nC, pS] at H) | (with_reducible refine wpl rfl (ldQ (ty := 26) rfl ?_); first | (with_reducible refine (Stp.ldo rfl agg26 rfl H (by assumption) (by assumption) ?_); simp only [pS]) | (with_reducible refine (Stp.ldc rfl agg26 rfl H mR cE ?_); simp only [pS])) | (with_reducible refine wpl rfl (ldQ (ty := 31) rfl ?_); first | (with_reducible refine (Stp.ldo rfl agg31 rfl H (by assumption) (by assumption) ?_); simp only [pS]) | (with_reducible refine (Stp.ldc rfl agg31 rfl H mR cE ?_); simp only [pS])) | (with_reducible refine wpl rfl (ldQ (ty := 32) rfl ?_); first | (with_reducible refine (Stp.ldo rfl agg32 rfl H (by assumption) (by assumption) ?_); simp only [pS]) | (with_reducible refine (Stp.ldc rfl agg32 rfl H mR cE ?_); simp only [pS])))
    go_ret
    exact ⟨_, rfl, by rw [HV.out]; rfl, H.below⟩
theorem bequal_is (va vb : Value) (la lb : List Nat) (hxa : ∀ x ∈ la, x < 256) (hxb : ∀ x ∈ lb, x < 256) (w : World) (e : Bool) (ha : Sl w 1 la.length va (elB la)) (hb : Sl w 1 lb.length vb (elB lb)) (he : decide (la = lb) = e) :
    Calls Try.prog 115 #[va, vb] w (Ret fun v w' => v = .bool e ∧ Below w.heap.size w w') := by
  have := bequal_ok va vb la lb hxa hxb w ha hb
  have h2 : (la == lb) = e := by rw [← he]; rw [Bool.eq_iff_iff]; simp
  rw [h2] at this
  exact this
theorem vsame_is {G1 G2 : Nat → Prop} (x y : Vw) (ma la da mb lb db : Option Addr) (mc lc dc md ld dd : Nat) (w : World) (e : Bool)
    (hx : VwG G1 w (.slice ma x.mem.length mc) (.slice la x.lvs.length lc) (.slice da x.ldr.length dc) x) (hy : VwG G2 w (.slice mb y.mem.length md) (.slice lb y.lvs.length ld) (.slice db y.ldr.length dd) y) (he : vSame x y = e) :
    Calls Try.prog 116 #[.agg (vwC x ma la da mc lc dc), .agg (vwC y mb lb db md ld dd)] w (Ret fun v w' => v = .bool e ∧ Below w.heap.size w w') := by
  have := vsame_ok x y ma la da mb lb db mc lc dc md ld dd w hx hy
  rw [he] at this
  exact this
set_option maxRecDepth 100000 in
set_option maxHeartbeats 2000000 in
theorem csame_ok {G1 G2 : Nat → Prop} (c d : Cm) (b1 ma la da b2 mb lb db : Option Addr) (k1 mc lc dc k2 md ld dd : Nat) (wc : ∀ x ∈ c.data, x < 256) (wd : ∀ x ∈ d.data, x < 256) (w : World)
    (hx : CmG G1 w (.slice b1 c.data.length k1) (.slice ma c.v.mem.length mc) (.slice la c.v.lvs.length lc) (.slice da c.v.ldr.length dc) c) (hy : CmG G2 w (.slice b2 d.data.length k2) (.slice mb d.v.mem.length md) (.slice lb d.v.lvs.length ld) (.slice db d.v.ldr.length dd) d) :
    Calls Try.prog 83 #[.agg (cmC c b1 ma la da k1 mc lc dc), .agg (cmC d b2 mb lb db k2 md ld dd)] w (Ret fun v w' => v = .bool (cSame c d) ∧ Below w.heap.size w w') := by
  have H := St.init w
  simp only [cmC]
  obtain ⟨hx1, hx2⟩ := hx
  obtain ⟨hy1, hy2⟩ := hy
  have B1 := Lib.hid wc
  have B2 := Lib.hid wd
  have hg := eqg_PD
  by_cases g0 : c.kind = d.kind
  · have iK : (c.kind == d.kind) = true := by simp [g0]
    by_cases g1 : c.fr = d.fr
    · have eP := eqPD_is c.fr.1 c.fr.2 d.fr.1 d.fr.2 true (by simp [g1])
      by_cases g2 : c.num = d.num
      · have iN : ((c.num : Int) == (d.num : Int)) = true := by simp [g2]
        by_cases g3 : c.vw = d.vw
        · have iW : ((c.vw : Int) == (d.vw : Int)) = true := by simp [g3]
          by_cases g4 : c.data = d.data
          · have E4 := Lib.hid (decide_eq_true g4)
            by_cases g5 : vSame c.v d.v = true
            · have E5 := Lib.hid g5
              have HV : Hid (cSame c d = true) := Lib.hid (by simp [cSame, g0, g1, g2, g3, g4, g5])
              clear g0 g1 g2 g3 g4 g5
              go_enter Try.func83, Try.ntmps83
              go_wp2_with (first | (go_at_call 115; (with_reducible refine (bequal_is _ _ c.data d.data B1.out B2.out _ _ (hx1.sl.grow H.below) (hy1.sl.grow H.below) E4.out).mono ?_); rintro e w1 ⟨v, rfl, hr⟩; obtain ⟨rfl, hb1⟩ := hr; replace H := H.grow hb1; clear hb1) | (go_at_call 116; (with_reducible refine (vsame_is c.v d.v _ _ _ _ _ _ _ _ _ _ _ _ _ _ (hx2.grow H.below) (hy2.grow H.below) E5.out).mono ?_); rintro e w1 ⟨v, rfl, hr⟩; obtain ⟨rfl, hb1⟩ := hr; replace H := H.grow hb1; clear hb1) | (with_reducible refine wpl rfl (dQ 2 rfl ?_); with_reducible refine (Stp.box 2 rfl rfl rfl H ?_); clear H; intro g2 w1 H; simp only [pS]; simp only [pE, nC, pS] at H) | (with_reducible refine wpl rfl (dQ 3 rfl ?_); with_reducible refine (Stp.box 3 rfl rfl rfl H ?_); clear H; intro g3 w1 H; simp only [pS]; simp only [pE, nC, pS] at H) | (with_reducible refine wpl rfl (ldQ (ty := 3) rfl ?_); first | (with_reducible refine (Stp.ldo rfl agg3 rfl H (by assumption) (by assumption) ?_); simp only [pS]) | (with_reducible refine (Stp.ldc rfl agg3 rfl H mR cE ?_); simp only [pS])) | (with_reducible refine wpl rfl (ldQ (ty := 30) rfl ?_); first | (with_reducible refine (Stp.ldor rfl agg30 size30 rfl H (by assumption) sZ (by assumption) ?_); simp only [pS]) | (with_reducible refine (Stp.ldr rfl agg30 size30 rfl H mR sZ ?_); simp only [pS]) | (with_reducible refine (Stp.ldl rfl agg30 size30 rfl H mR (by simp) ?_); simp only [pS]; simp only [List.drop_succ_cons, List.drop_zero, List.take_succ_cons, List.take_zero])) | (with_reducible refine wpl rfl (ldQ (ty := 26) rfl ?_); first | (with_reducible refine (Stp.ldo rfl agg26 rfl H (by assumption) (by assumption) ?_); simp only [pS]) | (with_reducible refine (Stp.ldc rfl agg26 rfl H mR cE ?_); simp only [pS])) | (with_reducible refine wpl rfl (ldQ (ty := 22) rfl ?_); first | (with_reducible refine (Stp.ldo rfl agg22 rfl H (by assumption) (by assumption) ?_); simp only [pS]) | (with_reducible refine (Stp.ldc rfl agg22 rfl H mR cE ?_); simp only [pS])) | (with_reducible refine wpl rfl (ldQ (ty := 34) rfl ?_); first | (with_reducible refine (Stp.ldor rfl agg34 size34 rfl H (by assumption) sZ (by assumption) ?_); simp only [pS]) | (with_reducible refine (Stp.ldr rfl agg34 size34 rfl H mR sZ ?_); simp only [pS]) | (with_reducible refine (Stp.ldl rfl agg34 size34 rfl H mR (by simp) ?_); simp only [pS]; simp only [List.drop_succ_cons, List.drop_zero, List.take_succ_cons, List.take_zero])))
              go_ret
              exact ⟨_, rfl, by rw [HV.out]; rfl, H.below⟩
            · have E5 := Lib.hid (show vSame c.v d.v = false by simpa using g5)
              have HV : Hid (cSame c d = false) := Lib.hid (by simp [cSame, g0, g1, g2, g3, g4, g5])
              clear g0 g1 g2 g3 g4 g5
              go_enter Try.func83, Try.ntmps83
              go_wp2_with (first | (go_at_call 115; (with_reducible refine (bequal_is _ _ c.data d.data B1.out B2.out _ _ (hx1.sl.grow H.below) (hy1.sl.grow H.below) E4.out).mono ?_); rintro e w1 ⟨v, rfl, hr⟩; obtain ⟨rfl, hb1⟩ := hr; replace H := H.grow hb1; clear hb1) | (go_at_call 116; (with_reducible refine (vsame_is c.v d.v _ _ _ _ _ _ _ _ _ _ _ _ _ _ (hx2.grow H.below) (hy2.grow H.below) E5.out).mono ?_); rintro e w1 ⟨v, rfl, hr⟩; obtain ⟨rfl, hb1⟩ := hr; replace H := H.grow hb1; clear hb1) | (with_reducible refine wpl rfl (dQ 2 rfl ?_); with_reducible refine (Stp.box 2 rfl rfl rfl H ?_); clear H; intro g2 w1 H; simp only [pS]; simp only [pE, nC, pS] at H) | (with_reducible refine wpl rfl (dQ 3 rfl ?_); with_reducible refine (Stp.box 3 rfl rfl rfl H ?_); clear H; intro g3 w1 H; simp only [pS]; simp only [pE, nC, pS] at H) | (with_reducible refine wpl rfl (ldQ (ty := 3) rfl ?_); first | (with_reducible refine (Stp.ldo rfl agg3 rfl H (by assumption) (by assumption) ?_); simp only [pS]) | (with_reducible refine (Stp.ldc rfl agg3 rfl H mR cE ?_); simp only [pS])) | (with_reducible refine wpl rfl (ldQ (ty := 30) rfl ?_); first | (with_reducible refine (Stp.ldor rfl agg30 size30 rfl H (by assumption) sZ (by assumption) ?_); simp only [pS]) | (with_reducible refine (Stp.ldr rfl agg30 size30 rfl H mR sZ ?_); simp only [pS]) | (with_reducible refine (Stp.ldl rfl agg30 size30 rfl H mR (by simp) ?_); simp only [pS]; simp only [List.drop_succ_cons, List.drop_zero, List.take_succ_cons, List.take_zero])) | (with_reducible refine wpl rfl (ldQ (ty := 26) rfl ?_); first | (with_reducible refine (Stp.ldo rfl agg26 rfl H (by assumption) (by assumption) ?_); simp only [pS]) | (with_reducible refine (Stp.ldc rfl agg26 rfl H mR cE ?_); simp only [pS])) | (with_reducible refine wpl rfl (ldQ (ty := 22) rfl ?_); first | (with_reducible refine (Stp.ldo rfl agg22 rfl H (by assumption) (by assumption) ?_); simp only [pS]) | (with_reducible refine (Stp.ldc rfl agg22 rfl H mR cE ?_); simp only [pS])) | (with_reducible refine wpl rfl (ldQ (ty := 34) rfl ?_); first | (with_reducible refine (Stp.ldor rfl agg34 size34 rfl H (by assumption) sZ (by assumption) ?_); simp only [pS]) | (with_reducible refine (Stp.ldr rfl agg34 size34 rfl H mR sZ ?_); simp only [pS]) | (with_reducible refine (Stp.ldl rfl agg34 size34 rfl H mR (by simp) ?_); simp only [pS]; simp only [List.drop_succ_cons, List.drop_zero, List.take_succ_cons, List.take_zero])))
              go_ret
              exact ⟨_, rfl, by rw [HV.out]; rfl, H.below⟩
          · have E4 := Lib.hid (decide_eq_false g4)
            have HV : Hid (cSame c d = false) := Lib.hid (by simp [cSame, g0, g1, g2, g3, g4])
            clear g0 g1 g2 g3 g4
            go_enter Try.func83, Try.ntmps83
            go_wp2_with (first | (go_at_call 115; (with_reducible refine (bequal_is _ _ c.data d.data B1.out B2.out _ _ (hx1.sl.grow H.below) (hy1.sl.grow H.below) E4.out).mono ?_); rintro e w1 ⟨v, rfl, hr⟩; obtain ⟨rfl, hb1⟩ := hr; replace H := H.grow hb1; clear hb1) | (go_at_call 116; (with_reducible refine (vsame_is c.v d.v _ _ _ _ _ _ _ _ _ _ _ _ _ _ (hx2.grow H.below) (hy2.grow H.below) E5.out).mono ?_); rintro e w1 ⟨v, rfl, hr⟩; obtain ⟨rfl, hb1⟩ := hr; replace H := H.grow hb1; clear hb1) | (with_reducible refine wpl rfl (dQ 2 rfl ?_); with_reducible refine (Stp.box 2 rfl rfl rfl H ?_); clear H; intro g2 w1 H; simp only [pS]; simp only [pE, nC, pS] at H) | (with_reducible refine wpl rfl (dQ 3 rfl ?_); with_reducible refine (Stp.box 3 rfl rfl rfl H ?_); clear H; intro g3 w1 H; simp only [pS]; simp only [pE, nC, pS] at H) | (with_reducible refine wpl rfl (ldQ (ty := 3) rfl ?_); first | (with_reducible refine (Stp.ldo rfl agg3 rfl H (by assumption) (by assumption) ?_); simp only [pS]) | (with_reducible refine (Stp.ldc rfl agg3 rfl H mR cE ?_); simp only [pS])) | (with_reducible refine wpl rfl (ldQ (ty := 30) rfl ?_); first | (with_reducible refine (Stp.ldor rfl agg30 size30 rfl H (by assumption) sZ (by assumption) ?_); simp only [pS]) | (with_reducible refine (Stp.ldr rfl agg30 size30 rfl H mR sZ ?_); simp only [pS]) | (with_reducible refine (Stp.ldl rfl agg30 size30 rfl H mR (by simp) ?_); simp only [pS]; simp only [List.drop_succ_cons, List.drop_zero, List.take_succ_cons, List.take_zero])) | (with_reducible refine wpl rfl (ldQ (ty := 26) rfl ?_); first | (with_reducible refine (Stp.ldo rfl agg26 rfl H (by assumption) (by assumption) ?_); simp only [pS]) | (with_reducible refine (Stp.ldc rfl agg26 rfl H mR cE ?_); simp only [pS])) | (with_reducible refine wpl rfl (ldQ (ty := 22) rfl ?_); first | (with_reducible refine (Stp.ldo rfl agg22 rfl H (by assumption) (by assumption) ?_); simp only [pS]) | (with_reducible refine (Stp.ldc rfl agg22 rfl H mR cE ?_); simp only [pS])) | (with_reducible refine wpl rfl (ldQ (ty := 34) rfl ?_); first | (with_reducible refine (Stp.ldor rfl agg34 size34 rfl H (by assumption) sZ (by assumption) ?_); simp only [pS]) | (with_reducible refine (Stp.ldr rfl agg34 size34 rfl H mR sZ ?_); simp only [pS]) | (with_reducible refine (Stp.ldl rfl agg34 size34 rfl H mR (by simp) ?_); simp only [pS]; simp only [List.drop_succ_cons, List.drop_zero, List.take_succ_cons, List.take_zero])))
            go_ret
            exact ⟨_, rfl, by rw [HV.out]; rfl, H.below⟩
        · have iW : ((c.vw : Int) == (d.vw : Int)) = false := by simp; omega
          have HV : Hid (cSame c d = false) := Lib.hid (by simp [cSame, g0, g1, g2, g3])
          clear g0 g1 g2 g3
          go_enter Try.func83, Try.ntmps83
          go_wp2_with (first | (go_at_call 115; (with_reducible refine (bequal_is _ _ c.data d.data B1.out B2.out _ _ (hx1.sl.grow H.below) (hy1.sl.grow H.below) E4.out).mono ?_); rintro e w1 ⟨v, rfl, hr⟩; obtain ⟨rfl, hb1⟩ := hr; replace H := H.grow hb1; clear hb1) | (go_at_call 116; (with_reducible refine (vsame_is c.v d.v _ _ _ _ _ _ _ _ _ _ _ _ _ _ (hx2.grow H.below) (hy2.grow H.below) E5.out).mono ?_); rintro e w1 ⟨v, rfl, hr⟩; obtain ⟨rfl, hb1⟩ := hr; replace H := H.grow hb1; clear hb1) | (with_reducible refine wpl rfl (dQ 2 rfl ?_); with_reducible refine (Stp.box 2 rfl rfl rfl H ?_); clear H; intro g2 w1 H; simp only [pS]; simp only [pE, nC, pS] at H) | (with_reducible refine wpl rfl (dQ 3 rfl ?_); with_reducible refine (Stp.box 3 rfl rfl rfl H ?_); clear H; intro g3 w1 H; simp only [pS]; simp only [pE, nC, pS] at H) | (with_reducible refine wpl rfl (ldQ (ty := 3) rfl ?_); first | (with_reducible refine (Stp.ldo rfl agg3 rfl H (by assumption) (by assumption) ?_); simp only [pS]) | (with_reducible refine (Stp.ldc rfl agg3 rfl H mR cE ?_); simp only [pS])) | (with_reducible refine wpl rfl (ldQ (ty := 30) rfl ?_); first | (with_reducible refine (Stp.ldor rfl agg30 size30 rfl H (by assumption) sZ (by assumption) ?_); simp only [pS]) | (with_reducible refine (Stp.ldr rfl agg30 size30 rfl H mR sZ ?_); simp only [pS]) | (with_reducible refine (Stp.ldl rfl agg30 size30 rfl H mR (by simp) ?_); simp only [pS]; simp only [List.drop_succ_cons, List.drop_zero, List.take_succ_cons, List.take_zero])) | (with_reducible refine wpl rfl (ldQ (ty := 26) rfl ?_); first | (with_reducible refine (Stp.ldo rfl agg26 rfl H (by assumption) (by assumption) ?_); simp only [pS]) | (with_reducible refine (Stp.ldc rfl agg26 rfl H mR cE ?_); simp only [pS])) | (with_reducible refine wpl rfl (ldQ (ty := 22) rfl ?_); first | (with_reducible refine (Stp.ldo rfl agg22 rfl H (by assumption) (by assumption) ?_); simp only [pS]) | (with_reducible refine (Stp.ldc rfl agg22 rfl H mR cE ?_); simp only [pS])) | (with_reducible refine wpl rfl (ldQ (ty := 34) rfl ?_); first | (with_reducible refine (Stp.ldor rfl agg34 size34 rfl H (by assumption) sZ (by assumption) ?_); simp only [pS]) | (with_reducible refine (Stp.ldr rfl agg34 size34 rfl H mR sZ ?_); simp only [pS]) | (with_reducible refine (Stp.ldl rfl agg34 size34 rfl H mR (by simp) ?_); simp only [pS]; simp only [List.drop_succ_cons, List.drop_zero, List.take_succ_cons, List.take_zero])))
          go_ret
          exact ⟨_, rfl, by rw [HV.out]; rfl, H.below⟩
      · have iN : ((c.num : Int) == (d.num : Int)) = false := by simp; omega
        have HV : Hid (cSame c d = false) := Lib.hid (by simp [cSame, g0, g1, g2])
        clear g0 g1 g2
        go_enter Try.func83, Try.ntmps83
        go_wp2_with (first | (go_at_call 115; (with_reducible refine (bequal_is _ _ c.data d.data B1.out B2.out _ _ (hx1.sl.grow H.below) (hy1.sl.grow H.below) E4.out).mono ?_); rintro e w1 ⟨v, rfl, hr⟩; obtain ⟨rfl, hb1⟩ := hr; replace H := H.grow hb1; clear hb1) | (go_at_call 116; (with_reducible refine (vsame_is c.v d.v _ _ _ _ _ _ _ _ _ _ _ _ _ _ (hx2.grow H.below) (hy2.grow H.below) E5.out).mono ?_); rintro e w1 ⟨v, rfl, hr⟩; obtain ⟨rfl, hb1⟩ := hr; replace H := H.grow hb1; clear hb1) | (with_reducible refine wpl rfl (dQ 2 rfl ?_); with_reducible refine (Stp.box 2 rfl rfl rfl H ?_); clear H; intro g2 w1 H; simp only [pS]; simp only [pE, nC, pS] at H) | (with_reducible refine wpl rfl (dQ 3 rfl ?_); with_reducible refine (Stp.box 3 rfl rfl rfl H ?_); clear H; intro g3 w1 H; simp only [pS]; simp only [pE, nC, pS] at H) | (with_reducible refine wpl rfl (ldQ (ty := 3) rfl ?_); first | (with_reducible refine (Stp.ldo rfl agg3 rfl H (by assumption) (by assumption) ?_); simp only [pS]) | (with_reducible refine (Stp.ldc rfl agg3 rfl H mR cE ?_); simp only [pS])) | (with_reducible refine wpl rfl (ldQ (ty := 30) rfl ?_); first | (with_reducible refine (Stp.ldor rfl agg30 size30 rfl H (by assumption) sZ (by assumption) ?_); simp only [pS]) | (with_reducible refine (Stp.ldr rfl agg30 size30 rfl H mR sZ ?_); simp only [pS]) | (with_reducible refine (Stp.ldl rfl agg30 size30 rfl H mR (by simp) ?_); simp only [pS]; simp only [List.drop_succ_cons, List.drop_zero, List.take_succ_cons, List.take_zero])) | (with_reducible refine wpl rfl (ldQ (ty := 26) rfl ?_); first | (with_reducible refine (Stp.ldo rfl agg26 rfl H (by assumption) (by assumption) ?_); simp only [pS]) | (with_reducible refine (Stp.ldc rfl agg26 rfl H mR cE ?_); simp only [pS])) | (with_reducible refine wpl rfl (ldQ (ty := 22) rfl ?_); first | (with_reducible refine (Stp.ldo rfl agg22 rfl H (by assumption) (by assumption) ?_); simp only [pS]) | (with_reducible refine (Stp.ldc rfl agg22 rfl H mR cE ?_); simp only [pS])) | (with_reducible refine wpl rfl (ldQ (ty := 34) rfl ?_); first | (with_reducible refine (Stp.ldor rfl agg34 size34 rfl H (by assumption) sZ (by assumption) ?_); simp only [pS]) | (with_reducible refine (Stp.ldr rfl agg34 size34 rfl H mR sZ ?_); simp only [pS]) | (with_reducible refine (Stp.ldl rfl agg34 size34 rfl H mR (by simp) ?_); simp only [pS]; simp only [List.drop_succ_cons, List.drop_zero, List.take_succ_cons, List.take_zero])))
        go_ret
        exact ⟨_, rfl, by rw [HV.out]; rfl, H.below⟩
    · have eP := eqPD_is c.fr.1 c.fr.2 d.fr.1 d.fr.2 false (by exact decide_eq_false g1)
      have HV : Hid (cSame c d = false) := Lib.hid (by simp [cSame, g0, g1])
      clear g0 g1
      go_enter Try.func83, Try.ntmps83
      go_wp2_with (first | (go_at_call 115; (with_reducible refine (bequal_is _ _ c.data d.data B1.out B2.out _ _ (hx1.sl.grow H.below) (hy1.sl.grow H.below) E4.out).mono ?_); rintro e w1 ⟨v, rfl, hr⟩; obtain ⟨rfl, hb1⟩ := hr; replace H := H.grow hb1; clear hb1) | (go_at_call 116; (with_reducible refine (vsame_is c.v d.v _ _ _ _ _ _ _ _ _ _ _ _ _ _ (hx2.grow H.below) (hy2.grow H.below) E5.out).mono ?_); rintro e w1 ⟨v, rfl, hr⟩; obtain ⟨rfl, hb1⟩ := hr; replace H := H.grow hb1; clear hb1) | (with_reducible refine wpl rfl (dQ 2 rfl ?_); with_reducible refine (Stp.box 2 rfl rfl rfl H ?_); clear H; intro g2 w1 H; simp only [pS]; simp only [pE, nC, pS] at H) | (with_reducible refine wpl rfl (dQ 3 rfl ?_); with_reducible refine (Stp.box 3 rfl rfl rfl H ?_); clear H; intro g3 w1 H; simp only [pS]; simp only [pE, nC, pS] at H) | (with_reducible refine wpl rfl (ldQ (ty := 3) rfl ?_); first | (with_reducible refine (Stp.ldo rfl agg3 rfl H (by assumption) (by assumption) ?_); simp only [pS]) | (with_reducible refine (Stp.ldc rfl agg3 rfl H mR cE ?_); simp only [pS])) | (with_reducible refine wpl rfl (ldQ (ty := 30) rfl ?_); first | (with_reducible refine (Stp.ldor rfl agg30 size30 rfl H (by assumption) sZ (by assumption) ?_); simp only [pS]) | (with_reducible refine (Stp.ldr rfl agg30 size30 rfl H mR sZ ?_); simp only [pS]) | (with_reducible refine (Stp.ldl rfl agg30 size30 rfl H mR (by simp) ?_); simp only [pS]; simp only [List.drop_succ_cons, List.drop_zero, List.take_succ_cons, List.take_zero])) | (with_reducible refine wpl rfl (ldQ (ty := 26) rfl ?_); first | (with_reducible refine (Stp.ldo rfl agg26 rfl H (by assumption) (by assumption) ?_); simp only [pS]) | (with_reducible refine (Stp.ldc rfl agg26 rfl H mR cE ?_); simp only [pS])) | (with_reducible refine wpl rfl (ldQ (ty := 22) rfl ?_); first | (with_reducible refine (Stp.ldo rfl agg22 rfl H (by assumption) (by assumption) ?_); simp only [pS]) | (with_reducible refine (Stp.ldc rfl agg22 rfl H mR cE ?_); simp only [pS])) | (with_reducible refine wpl rfl (ldQ (ty := 34) rfl ?_); first | (with_reducible refine (Stp.ldor rfl agg34 size34 rfl H (by assumption) sZ (by assumption) ?_); simp only [pS]) | (with_reducible refine (Stp.ldr rfl agg34 size34 rfl H mR sZ ?_); simp only [pS]) | (with_reducible refine (Stp.ldl rfl agg34 size34 rfl H mR (by simp) ?_); simp only [pS]; simp only [List.drop_succ_cons, List.drop_zero, List.take_succ_cons, List.take_zero])))
      go_ret
      exact ⟨_, rfl, by rw [HV.out]; rfl, H.below⟩
  · have iK : (c.kind == d.kind) = false := by simp [g0]
    have HV : Hid (cSame c d = false) := Lib.hid (by simp [cSame, g0])
    clear g0
    go_enter Try.func83, Try.ntmps83
    go_wp2_with (first | (go_at_call 115; (with_reducible refine (bequal_is _ _ c.data d.data B1.out B2.out _ _ (hx1.sl.grow H.below) (hy1.sl.grow H.below) E4.out).mono ?_); rintro e w1 ⟨v, rfl, hr⟩; obtain ⟨rfl, hb1⟩ := hr; replace H := H.grow hb1; clear hb1) | (go_at_call 116; (with_reducible refine (vsame_is c.v d.v _ _ _ _ _ _ _ _ _ _ _ _ _ _ (hx2.grow H.below) (hy2.grow H.below) E5.out).mono ?_); rintro e w1 ⟨v, rfl, hr⟩; obtain ⟨rfl, hb1⟩ := hr; replace H := H.grow hb1; clear hb1) | (with_reducible refine wpl rfl (dQ 2 rfl ?_); with_reducible refine (Stp.box 2 rfl rfl rfl H ?_); clear H; intro g2 w1 H; simp only [pS]; simp only [pE, nC, pS] at H) | (with_reducible refine wpl rfl (dQ 3 rfl ?_); with_reducible refine (Stp.box 3 rfl rfl rfl H ?_); clear H; intro g3 w1 H; simp only [pS]; simp only [pE, nC, pS] at H) | (with_reducible refine wpl rfl (ldQ (ty := 3) rfl ?_); first | (with_reducible refine (Stp.ldo rfl agg3 rfl H (by assumption) (by assumption) ?_); simp only [pS]) | (with_reducible refine (Stp.ldc rfl agg3 rfl H mR cE ?_); simp only [pS])) | (with_reducible refine wpl rfl (ldQ (ty := 30) rfl ?_); first | (with_reducible refine (Stp.ldor rfl agg30 size30 rfl H (by assumption) sZ (by assumption) ?_); simp only [pS]) | (with_reducible refine (Stp.ldr rfl agg30 size30 rfl H mR sZ ?_); simp only [pS]) | (with_reducible refine (Stp.ldl rfl agg30 size30 rfl H mR (by simp) ?_); simp only [pS]; simp only [List.drop_succ_cons, List.drop_zero, List.take_succ_cons, List.take_zero])) | (with_reducible refine wpl rfl (ldQ (ty := 26) rfl ?_); first | (with_reducible refine (Stp.ldo rfl agg26 rfl H (by assumption) (by assumption) ?_); simp only [pS]) | (with_reducible refine (Stp.ldc rfl agg26 rfl H mR cE ?_); simp only [pS])) | (with_reducible refine wpl rfl (ldQ (ty := 22) rfl ?_); first | (with_reducible refine (Stp.ldo rfl agg22 rfl H (by assumption) (by assumption) ?_); simp only [pS]) | (with_reducible refine (Stp.ldc rfl agg22 rfl H mR cE ?_); simp only [pS])) | (with_reducible refine wpl rfl (ldQ (ty := 34) rfl ?_); first | (with_reducible refine (Stp.ldor rfl agg34 size34 rfl H (by assumption) sZ (by assumption) ?_); simp only [pS]) | (with_reducible refine (Stp.ldr rfl agg34 size34 rfl H mR sZ ?_); simp only [pS]) | (with_reducible refine (Stp.ldl rfl agg34 size34 rfl H mR (by simp) ?_); simp only [pS]; simp only [List.drop_succ_cons, List.drop_zero, List.take_succ_cons, List.take_zero])))
    go_ret
    exact ⟨_, rfl, by rw [HV.out]; rfl, H.below⟩
end Go.Proofs.Ytmokecicjmjkbaa
namespace Go.Proofs.Ytmokecicjmjkbaa
open Go.ChangeShapes Go.WideShapes Go.ChangeAt Go.RowKit Go.Maps
set_option linter.unusedVariables false
set_option linter.unusedSimpArgs false
set_option maxRecDepth 100000 in
set_option maxHeartbeats 1000000 in
theorem rpsame_ok (va vb : Value) (l m : List Pr) (w : World) (ha : Sl w 2 l.length va (elQ l)) (hb : Sl w 2 m.length vb (elQ m)) :
    Calls Try.prog 88 #[va, vb] w (Ret fun v w' => v = .bool (decide (l = m)) ∧ Below w.heap.size w w') := by
  have H := St.init w
  have ha' := ha
  have hb' := hb
  obtain ⟨aa, ca, rfl, hma, _⟩ := ha'
  obtain ⟨ab, cb, rfl, hmb, _⟩ := hb'
  unfold maxLen at hma hmb
  by_cases hlen : l.length = m.length
  · obtain ⟨n, hn⟩ : ∃ n, m.length = n := ⟨_, rfl⟩
    have hln : l.length = n := hlen.trans hn
    have HN := Lib.hid hn
    have HL := Lib.hid hln
    rw [hn] at hb hmb
    rw [hln] at ha hma
    simp only [hn, hln]
    clear hn hln hlen
    go_enter Try.func88, Try.ntmps88
    go_wp2_with fail
    go_loopw [5] (fun i wr => ∃ k : Nat, k ≤ n ∧ i = .int .i64 k ∧ Hid (l.take k = m.take k) ∧ St w.heap.size w wr []) (fun i _ => n - (intOf i).toNat)
    case atStart => exact ⟨0, Nat.zero_le _, rfl, Lib.hid (by simp), H⟩
    case round =>
      clear H
      obtain ⟨k, hk, rfl, HT, H⟩ := hrel
      by_cases hlt : k < n
      · have hl1 : k < l.length := by rw [HL.out]; exact hlt
        have hm1 : k < m.length := by rw [HN.out]; exact hlt
        obtain ⟨b1, o1, rfl, hb1⟩ := ha.addr (by omega)
        obtain ⟨b2, o2, rfl, hb2⟩ := hb.addr (by omega)
        have hc1 := ha.cell hlt
        have hc2 := hb.cell hlt
        unfold elQ at hc1 hc2
        rw [getD_at hl1] at hc1
        rw [getD_at hm1] at hc2
        have hs1 := List.take_succ_eq_append_getElem hl1
        have hs2 := List.take_succ_eq_append_getElem hm1
        obtain ⟨⟨x, y⟩, hx⟩ : ∃ x, l[k] = x := ⟨_, rfl⟩
        obtain ⟨⟨z, t⟩, hz⟩ : ∃ z, m[k] = z := ⟨_, rfl⟩
        rw [hx] at hc1 hs1
        rw [hz] at hc2 hs2
        have kli : (k : Int) < (n : Int) := by omega
        by_cases he0 : (x, y) = (z, t)
        · injection he0 with e1 e2
          subst e1 e2
          have he := eqPD_yes x y
          have HS1 := Lib.hid hs1
          have HS2 := Lib.hid hs2
          clear hs1 hs2 hx hz
          go_wp2_with fail
          refine rg_begin 9 rfl (S := fun W => St _ _ W _) (by kernel_rfl) H.drew ?_
          replace H := H.drew
          have HS := H
          refine rg_take (i := 0) rfl kR kR kR (Yld.move rfl rfl) HS ?_; simp only [pS, pE]
          refine rg_take (i := 1) rfl kR kR kR (Yld.move rfl rfl) HS ?_; simp only [pS, pE]
          refine rg_take (i := 2) rfl kR kR kR (Yld.o rfl) HS ?_; simp only [pS]
          first | (refine rg_take (i := 3) rfl kR kR kR (Yld.ldor rfl rfl agg30 size30 rfl (by assumption) sZ (by assumption)) HS ?_; simp only [pS]) | (refine rg_take (i := 3) rfl kR kR kR (Yld.ldr rfl rfl agg30 size30 rfl mR sZ) HS ?_; simp only [pS]) | (refine rg_take (i := 3) rfl kR kR kR (Yld.ldl rfl rfl agg30 size30 rfl mR (by simp)) HS ?_; simp only [pS]; simp only [List.drop_succ_cons, List.drop_zero, List.take_succ_cons, List.take_zero])
          refine rg_take (i := 4) rfl kR kR kR (Yld.move rfl rfl) HS ?_; simp only [pS, pE]
          refine rg_take (i := 5) rfl kR kR kR (Yld.move rfl rfl) HS ?_; simp only [pS, pE]
          refine rg_take (i := 6) rfl kR kR kR (Yld.o rfl) HS ?_; simp only [pS]
          first | (refine rg_take (i := 7) rfl kR kR kR (Yld.ldor rfl rfl agg30 size30 rfl (by assumption) sZ (by assumption)) HS ?_; simp only [pS]) | (refine rg_take (i := 7) rfl kR kR kR (Yld.ldr rfl rfl agg30 size30 rfl mR sZ) HS ?_; simp only [pS]) | (refine rg_take (i := 7) rfl kR kR kR (Yld.ldl rfl rfl agg30 size30 rfl mR (by simp)) HS ?_; simp only [pS]; simp only [List.drop_succ_cons, List.drop_zero, List.take_succ_cons, List.take_zero])
          refine rg_take (i := 8) rfl kR kR kR (Yld.o rfl) HS ?_; simp only [pS]
          refine rg_done (by kernel_rfl) ?_
          go_wp2_with fail
          go_roundw
          case rel => exact ⟨k + 1, by omega, by go_num, Lib.hid (by rw [HS1.out, HS2.out, HT.out]), H⟩
          case measure => simp [intOf]; omega
        · have he := eqPD_no x y z t he0
          have hnn : ¬ l = m := fun e => he0 (by subst e; rw [← hx, ← hz])
          have hne : decide (l = m) = false := decide_eq_false hnn
          have HNE := Lib.hid hne
          clear hs1 hs2 hx hz hne hnn he0
          go_wp2_with fail
          refine rg_begin 9 rfl (S := fun W => St _ _ W _) (by kernel_rfl) H.drew ?_
          replace H := H.drew
          have HS := H
          refine rg_take (i := 0) rfl kR kR kR (Yld.move rfl rfl) HS ?_; simp only [pS, pE]
          refine rg_take (i := 1) rfl kR kR kR (Yld.move rfl rfl) HS ?_; simp only [pS, pE]
          refine rg_take (i := 2) rfl kR kR kR (Yld.o rfl) HS ?_; simp only [pS]
          first | (refine rg_take (i := 3) rfl kR kR kR (Yld.ldor rfl rfl agg30 size30 rfl (by assumption) sZ (by assumption)) HS ?_; simp only [pS]) | (refine rg_take (i := 3) rfl kR kR kR (Yld.ldr rfl rfl agg30 size30 rfl mR sZ) HS ?_; simp only [pS]) | (refine rg_take (i := 3) rfl kR kR kR (Yld.ldl rfl rfl agg30 size30 rfl mR (by simp)) HS ?_; simp only [pS]; simp only [List.drop_succ_cons, List.drop_zero, List.take_succ_cons, List.take_zero])
          refine rg_take (i := 4) rfl kR kR kR (Yld.move rfl rfl) HS ?_; simp only [pS, pE]
          refine rg_take (i := 5) rfl kR kR kR (Yld.move rfl rfl) HS ?_; simp only [pS, pE]
          refine rg_take (i := 6) rfl kR kR kR (Yld.o rfl) HS ?_; simp only [pS]
          first | (refine rg_take (i := 7) rfl kR kR kR (Yld.ldor rfl rfl agg30 size30 rfl (by assumption) sZ (by assumption)) HS ?_; simp only [pS]) | (refine rg_take (i := 7) rfl kR kR kR (Yld.ldr rfl rfl agg30 size30 rfl mR sZ) HS ?_; simp only [pS]) | (refine rg_take (i := 7) rfl kR kR kR (Yld.ldl rfl rfl agg30 size30 rfl mR (by simp)) HS ?_; simp only [pS]; simp only [List.drop_succ_cons, List.drop_zero, List.take_succ_cons, List.take_zero])
          refine rg_take (i := 8) rfl kR kR kR (Yld.o rfl) HS ?_; simp only [pS]
          refine rg_done (by kernel_rfl) ?_
          go_wp2_with fail
          go_ret
          exact ⟨_, rfl, by rw [HNE.out]; rfl, H.below⟩
      · obtain rfl : k = n := by omega
        have hE : decide (l = m) = true := by
          refine decide_eq_true ?_
          have := HT.out
          rw [List.take_of_length_le (by rw [HL.out]; omega), List.take_of_length_le (by rw [HN.out]; omega)] at this
          exact this
        have HE := Lib.hid hE
        clear hE
        go_wp2_with fail
        go_ret
        exact ⟨_, rfl, by rw [HE.out]; rfl, H.below⟩
  · have hd : decide (l = m) = false := decide_eq_false (fun e => hlen (by rw [e]))
    have HD := Lib.hid hd
    have hli : ((l.length : Int) != (m.length : Int)) = true := by simp; omega
    clear hd
    go_enter Try.func88, Try.ntmps88
    go_wp2_with fail
    go_ret
    exact ⟨_, rfl, by rw [HD.out]; rfl, H.below⟩
/-- Is a view more than is looked at? -/
def gV (x : Vw) : Bool := decide (40 < x.mem.length) || decide (40 < x.lvs.length) || decide (40 < x.ldr.length) || x.lvs.any fun l => decide (40 < l.length)
def gC (c : Cm) : Bool := decide (400 < c.data.length) || gV c.v
set_option maxRecDepth 100000 in
set_option maxHeartbeats 2000000 in
theorem rgreat_is {G1 : Nat → Prop} (x : Vw) (ma la da : Option Addr) (mc lc dc : Nat) (w : World) (e : Bool) (he : gV x = e)
    (hx : VwG G1 w (.slice ma x.mem.length mc) (.slice la x.lvs.length lc) (.slice da x.ldr.length dc) x) :
    Calls Try.prog 51 #[.agg (vwC x ma la da mc lc dc)] w (Ret fun v w' => v = .bool e ∧ Below w.heap.size w w') := by
  have H := St.init w
  simp only [vwC]
  obtain ⟨hx1, hx2, hx3⟩ := hx
  subst he
  by_cases h1 : 40 < x.mem.length
  · have HV : Hid (gV x = true) := Lib.hid (by simp [gV, h1])
    have i1 : (40 : Int) < (x.mem.length : Int) := by omega
    clear h1
    go_enter Try.func51, Try.ntmps51
    go_wp2_with (first | (with_reducible refine wpl rfl (dQ 1 rfl ?_); with_reducible refine (Stp.box 1 rfl rfl rfl H ?_); clear H; intro g1 w1 H; simp only [pS]; simp only [pE, nC, pS] at H) | (with_reducible refine wpl rfl (ldQ (ty := 31) rfl ?_); first | (with_reducible refine (Stp.ldo rfl agg31 rfl H (by assumption) (by assumption) ?_); simp only [pS]) | (with_reducible refine (Stp.ldc rfl agg31 rfl H mR cE ?_); simp only [pS])) | (with_reducible refine wpl rfl (ldQ (ty := 32) rfl ?_); first | (with_reducible refine (Stp.ldo rfl agg32 rfl H (by assumption) (by assumption) ?_); simp only [pS]) | (with_reducible refine (Stp.ldc rfl agg32 rfl H mR cE ?_); simp only [pS])))
    go_ret
    exact ⟨_, rfl, by rw [HV.out]; rfl, H.below⟩
  have i1 : ¬ (40 : Int) < (x.mem.length : Int) := by omega
  by_cases h2 : 40 < x.lvs.length
  · have HV : Hid (gV x = true) := Lib.hid (by simp [gV, h1, h2])
    have i2 : (40 : Int) < (x.lvs.length : Int) := by omega
    clear h1 h2
    go_enter Try.func51, Try.ntmps51
    go_wp2_with (first | (with_reducible refine wpl rfl (dQ 1 rfl ?_); with_reducible refine (Stp.box 1 rfl rfl rfl H ?_); clear H; intro g1 w1 H; simp only [pS]; simp only [pE, nC, pS] at H) | (with_reducible refine wpl rfl (ldQ (ty := 31) rfl ?_); first | (with_reducible refine (Stp.ldo rfl agg31 rfl H (by assumption) (by assumption) ?_); simp only [pS]) | (with_reducible refine (Stp.ldc rfl agg31 rfl H mR cE ?_); simp only [pS])) | (with_reducible refine wpl rfl (ldQ (ty := 32) rfl ?_); first | (with_reducible refine (Stp.ldo rfl agg32 rfl H (by assumption) (by assumption) ?_); simp only [pS]) | (with_reducible refine (Stp.ldc rfl agg32 rfl H mR cE ?_); simp only [pS])))
    go_ret
    exact ⟨_, rfl, by rw [HV.out]; rfl, H.below⟩
  have i2 : ¬ (40 : Int) < (x.lvs.length : Int) := by omega
  by_cases h3 : 40 < x.ldr.length
  · have HV : Hid (gV x = true) := Lib.hid (by simp [gV, h1, h2, h3])
    have i3 : (40 : Int) < (x.ldr.length : Int) := by omega
    clear h1 h2 h3
    go_enter Try.func51, Try.ntmps51
    go_wp2_with (first | (with_reducible refine wpl rfl (dQ 1 rfl ?_); with_reducible refine (Stp.box 1 rfl rfl rfl H ?_); clear H; intro g1 w1 H; simp only [pS]; simp only [pE, nC, pS] at H) | (with_reducible refine wpl rfl (ldQ (ty := 31) rfl ?_); first | (with_reducible refine (Stp.ldo rfl agg31 rfl H (by assumption) (by assumption) ?_); simp only [pS]) | (with_reducible refine (Stp.ldc rfl agg31 rfl H mR cE ?_); simp only [pS])) | (with_reducible refine wpl rfl (ldQ (ty := 32) rfl ?_); first | (with_reducible refine (Stp.ldo rfl agg32 rfl H (by assumption) (by assumption) ?_); simp only [pS]) | (with_reducible refine (Stp.ldc rfl agg32 rfl H mR cE ?_); simp only [pS])))
    go_ret
    exact ⟨_, rfl, by rw [HV.out]; rfl, H.below⟩
  have i3 : ¬ (40 : Int) < (x.ldr.length : Int) := by omega
  obtain ⟨n, hn⟩ : ∃ n, x.lvs.length = n := ⟨_, rfl⟩
  have HN := Lib.hid hn
  have h0 : gV x = x.lvs.any fun l => decide (40 < l.length) := by simp [gV, h1, h2, h3]
  have HG := Lib.hid h0
  rw [hn] at hx2 i2 h2 ⊢
  clear hn h0 h1 h3
  go_enter Try.func51, Try.ntmps51
  go_wp2_with (first | (with_reducible refine wpl rfl (dQ 1 rfl ?_); with_reducible refine (Stp.box 1 rfl rfl rfl H ?_); clear H; intro g1 w1 H; simp only [pS]; simp only [pE, nC, pS] at H) | (with_reducible refine wpl rfl (ldQ (ty := 31) rfl ?_); first | (with_reducible refine (Stp.ldo rfl agg31 rfl H (by assumption) (by assumption) ?_); simp only [pS]) | (with_reducible refine (Stp.ldc rfl agg31 rfl H mR cE ?_); simp only [pS])) | (with_reducible refine wpl rfl (ldQ (ty := 32) rfl ?_); first | (with_reducible refine (Stp.ldo rfl agg32 rfl H (by assumption) (by assumption) ?_); simp only [pS]) | (with_reducible refine (Stp.ldc rfl agg32 rfl H mR cE ?_); simp only [pS])))
  go_loopw [3] (fun i wr => ∃ k : Nat, k ≤ n ∧ i = .int .i64 k ∧ Hid ((x.lvs.take k).any (fun l => decide (40 < l.length)) = false) ∧ St w.heap.size w wr [row 34 g1 #[.int .u64 (x.id : Int), .slice ma x.mem.length mc, .slice la n lc, .slice da x.ldr.length dc]]) (fun i _ => n - (intOf i).toNat)
  case atStart => exact ⟨0, Nat.zero_le _, rfl, Lib.hid (by simp), H⟩
  case round =>
    clear H
    obtain ⟨k, hk, rfl, HT, H⟩ := hrel
    by_cases hlt : k < n
    · have hl1 : k < x.lvs.length := by rw [HN.out]; exact hlt
      obtain ⟨b1, o1, a1, c1, rfl, hb1, hc1, hs1⟩ := hx2.at HN.out hl1
      have ht1 := List.take_succ_eq_append_getElem hl1
      have hmem := List.getElem_mem hl1
      obtain ⟨z, hz⟩ : ∃ z, x.lvs[k] = z := ⟨_, rfl⟩
      rw [hz] at hc1 ht1 hmem
      have kli : (k : Int) < (n : Int) := by omega
      have HT1 := Lib.hid ht1
      have HM := Lib.hid hmem
      clear hs1
      by_cases hg : 40 < z.length
      · have gi : (40 : Int) < (z.length : Int) := by omega
        have HB : Hid (gV x = true) := Lib.hid (by rw [HG.out]; exact List.any_eq_true.2 ⟨z, HM.out, decide_eq_true hg⟩)
        clear ht1 hz hmem hg
        go_wp2_with (first | (with_reducible refine wpl rfl (dQ 1 rfl ?_); with_reducible refine (Stp.box 1 rfl rfl rfl H ?_); clear H; intro g1 w1 H; simp only [pS]; simp only [pE, nC, pS] at H) | (with_reducible refine wpl rfl (ldQ (ty := 31) rfl ?_); first | (with_reducible refine (Stp.ldo rfl agg31 rfl H (by assumption) (by assumption) ?_); simp only [pS]) | (with_reducible refine (Stp.ldc rfl agg31 rfl H mR cE ?_); simp only [pS])) | (with_reducible refine wpl rfl (ldQ (ty := 32) rfl ?_); first | (with_reducible refine (Stp.ldo rfl agg32 rfl H (by assumption) (by assumption) ?_); simp only [pS]) | (with_reducible refine (Stp.ldc rfl agg32 rfl H mR cE ?_); simp only [pS])))
        go_ret
        exact ⟨_, rfl, by rw [HB.out]; rfl, H.below⟩
      · have gi : ¬ (40 : Int) < (z.length : Int) := by omega
        have HB := Lib.hid hg
        clear ht1 hz hmem hg
        go_wp2_with (first | (with_reducible refine wpl rfl (dQ 1 rfl ?_); with_reducible refine (Stp.box 1 rfl rfl rfl H ?_); clear H; intro g1 w1 H; simp only [pS]; simp only [pE, nC, pS] at H) | (with_reducible refine wpl rfl (ldQ (ty := 31) rfl ?_); first | (with_reducible refine (Stp.ldo rfl agg31 rfl H (by assumption) (by assumption) ?_); simp only [pS]) | (with_reducible refine (Stp.ldc rfl agg31 rfl H mR cE ?_); simp only [pS])) | (with_reducible refine wpl rfl (ldQ (ty := 32) rfl ?_); first | (with_reducible refine (Stp.ldo rfl agg32 rfl H (by assumption) (by assumption) ?_); simp only [pS]) | (with_reducible refine (Stp.ldc rfl agg32 rfl H mR cE ?_); simp only [pS])))
        go_roundw
        case rel => exact ⟨k + 1, by omega, by go_num, Lib.hid (by rw [HT1.out, List.any_append, HT.out]; simp [HB.out]), H⟩
        case measure => simp [intOf]; omega
    · obtain rfl : k = n := by omega
      have HB : Hid (gV x = false) := Lib.hid (by
        have := HT.out
        rw [List.take_of_length_le (by rw [HN.out]; omega)] at this
        rw [HG.out]; exact this)
      go_wp2_with (first | (with_reducible refine wpl rfl (dQ 1 rfl ?_); with_reducible refine (Stp.box 1 rfl rfl rfl H ?_); clear H; intro g1 w1 H; simp only [pS]; simp only [pE, nC, pS] at H) | (with_reducible refine wpl rfl (ldQ (ty := 31) rfl ?_); first | (with_reducible refine (Stp.ldo rfl agg31 rfl H (by assumption) (by assumption) ?_); simp only [pS]) | (with_reducible refine (Stp.ldc rfl agg31 rfl H mR cE ?_); simp only [pS])) | (with_reducible refine wpl rfl (ldQ (ty := 32) rfl ?_); first | (with_reducible refine (Stp.ldo rfl agg32 rfl H (by assumption) (by assumption) ?_); simp only [pS]) | (with_reducible refine (Stp.ldc rfl agg32 rfl H mR cE ?_); simp only [pS])))
      go_ret
      exact ⟨_, rfl, by rw [HB.out]; rfl, H.below⟩
set_option maxRecDepth 100000 in
set_option maxHeartbeats 2000000 in
theorem rcgreat_is {G1 : Nat → Prop} (c : Cm) (ba ma la da : Option Addr) (bc mc lc dc : Nat) (w : World) (e : Bool) (he : gC c = e)
    (hx : CmG G1 w (.slice ba c.data.length bc) (.slice ma c.v.mem.length mc) (.slice la c.v.lvs.length lc) (.slice da c.v.ldr.length dc) c) :
    Calls Try.prog 18 #[.agg (cmC c ba ma la da bc mc lc dc)] w (Ret fun v w' => v = .bool e ∧ Below w.heap.size w w') := by
  have H := St.init w
  simp only [cmC]
  obtain ⟨hx1, hx2⟩ := hx
  unfold gC at he
  by_cases h1 : 400 < c.data.length
  · have i1 : (400 : Int) < (c.data.length : Int) := by omega
    rw [decide_eq_true h1, Bool.true_or] at he
    subst he
    clear h1
    go_enter Try.func18, Try.ntmps18
    go_wp2_with (first | (with_reducible refine wpl rfl (dQ 1 rfl ?_); with_reducible refine (Stp.box 1 rfl rfl rfl H ?_); clear H; intro g1 w1 H; simp only [pS]; simp only [pE, nC, pS] at H) | (with_reducible refine wpl rfl (ldQ (ty := 22) rfl ?_); first | (with_reducible refine (Stp.ldo rfl agg22 rfl H (by assumption) (by assumption) ?_); simp only [pS]) | (with_reducible refine (Stp.ldc rfl agg22 rfl H mR cE ?_); simp only [pS])) | (with_reducible refine wpl rfl (ldQ (ty := 34) rfl ?_); first | (with_reducible refine (Stp.ldor rfl agg34 size34 rfl H (by assumption) sZ (by assumption) ?_); simp only [pS]) | (with_reducible refine (Stp.ldr rfl agg34 size34 rfl H mR sZ ?_); simp only [pS]) | (with_reducible refine (Stp.ldl rfl agg34 size34 rfl H mR (by simp) ?_); simp only [pS]; simp only [List.drop_succ_cons, List.drop_zero, List.take_succ_cons, List.take_zero])))
    go_ret
    exact ⟨_, rfl, rfl, H.below⟩
  · have i1 : ¬ (400 : Int) < (c.data.length : Int) := by omega
    rw [decide_eq_false h1, Bool.false_or] at he
    have HE := Lib.hid he
    clear h1 he
    go_enter Try.func18, Try.ntmps18
    go_wp2_with (first | (go_at_call 51; (with_reducible refine (rgreat_is c.v _ _ _ _ _ _ _ e HE.out (hx2.grow H.below)).mono ?_); rintro e w1 ⟨v, rfl, hr⟩; obtain ⟨rfl, hb1⟩ := hr; replace H := H.grow hb1; clear hb1) | (with_reducible refine wpl rfl (dQ 1 rfl ?_); with_reducible refine (Stp.box 1 rfl rfl rfl H ?_); clear H; intro g1 w1 H; simp only [pS]; simp only [pE, nC, pS] at H) | (with_reducible refine wpl rfl (ldQ (ty := 22) rfl ?_); first | (with_reducible refine (Stp.ldo rfl agg22 rfl H (by assumption) (by assumption) ?_); simp only [pS]) | (with_reducible refine (Stp.ldc rfl agg22 rfl H mR cE ?_); simp only [pS])) | (with_reducible refine wpl rfl (ldQ (ty := 34) rfl ?_); first | (with_reducible refine (Stp.ldor rfl agg34 size34 rfl H (by assumption) sZ (by assumption) ?_); simp only [pS]) | (with_reducible refine (Stp.ldr rfl agg34 size34 rfl H mR sZ ?_); simp only [pS]) | (with_reducible refine (Stp.ldl rfl agg34 size34 rfl H mR (by simp) ?_); simp only [pS]; simp only [List.drop_succ_cons, List.drop_zero, List.take_succ_cons, List.take_zero])))
    go_ret
    exact ⟨_, rfl, rfl, H.below⟩
end Go.Proofs.Ytmokecicjmjkbaa
