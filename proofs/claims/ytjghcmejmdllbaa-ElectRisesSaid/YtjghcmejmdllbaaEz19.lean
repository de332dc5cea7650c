/- The contract of the reference's Check over commands (choragusref09): the program's own answer; the bounds stand in it. -/
import Derived.Deep.Cut
import Derived.Test.YtjghcmejmdllbaaEz18
namespace Go.Proofs.Ytjghcmejmdllbaa
open Go.ChangeShapes Go.WideShapes Go.ChangeAt Go.RowKit Go.Maps Go.Deep
set_option linter.unusedVariables false
set_option linter.unusedSimpArgs false
def sentB (c : Cm) : Bool := may c.fr.1 c.fr.2 && decide (1 ≤ c.num) && decide (c.num ≤ 4611686018427387904) && decide (1 ≤ c.vw) && decide (c.vw ≤ 4611686018427387904)
def bareB (c : Cm) : Bool := decide (c.fr = (0, 0)) && decide (c.num = 0) && decide (c.vw = 0) && decide (c.data.length = 0)
theorem bareB_iff {c : Cm} : bareB c = true ↔ c.fr = (0, 0) ∧ c.num = 0 ∧ c.vw = 0 ∧ c.data = [] := by
  unfold bareB; simp [and_assoc]
theorem cErr1 {c : Cm} (h : c.kind = 1) : cErr c = if (bareB c && vSame c.v vw0) = true then 0 else 1 := by
  have hk : kindOk c = true := by unfold kindOk; simp [h]
  have ho : only c = ⟨c.kind, (0, 0), 0, 0, [], vw0⟩ := by unfold only; simp [h]
  unfold cErr
  rw [if_pos hk, ho]
  by_cases hb : bareB c = true
  · obtain ⟨h1, h2, h3, h4⟩ := bareB_iff.1 hb
    rw [hb, Bool.true_and]
    have : cSame c ⟨c.kind, (0, 0), 0, 0, [], vw0⟩ = vSame c.v vw0 := by unfold cSame; simp [h1, h2, h3, h4]
    rw [this, h4]
    simp
  · have : cSame c ⟨c.kind, (0, 0), 0, 0, [], vw0⟩ = false := by
      cases hs : cSame c ⟨c.kind, (0, 0), 0, 0, [], vw0⟩
      · rfl
      · exact absurd (bareB_iff.2 (by have := cSame_iff.1 hs; rw [this]; simp)) hb
    rw [this]
    simp [hb]
theorem cErr2 {c : Cm} (h : c.kind = 2) : cErr c = if (sentB c && vSame c.v vw0) = true then (if 200 < c.data.length then 14 else 0) else 1 := by
  have hk : kindOk c = sentB c := by unfold kindOk sentB cnt; simp [h, Bool.and_assoc]
  have ho : only c = ⟨c.kind, c.fr, c.num, c.vw, c.data, vw0⟩ := by unfold only; simp [h]
  have hs : cSame c ⟨c.kind, c.fr, c.num, c.vw, c.data, vw0⟩ = vSame c.v vw0 := by unfold cSame; simp
  unfold cErr
  rw [hk, ho, hs]
  cases sentB c <;> simp
theorem cErr3 {c : Cm} (h : c.kind = 3) : cErr c = if (bareB c && vOk c.v) = true then 0 else 1 := by
  have hk : kindOk c = vOk c.v := by unfold kindOk; simp [h]
  have ho : only c = ⟨c.kind, (0, 0), 0, 0, [], c.v⟩ := by unfold only; simp [h]
  unfold cErr
  rw [hk, ho]
  by_cases hb : bareB c = true
  · obtain ⟨h1, h2, h3, h4⟩ := bareB_iff.1 hb
    have : cSame c ⟨c.kind, (0, 0), 0, 0, [], c.v⟩ = true := by unfold cSame; simp [h1, h2, h3, h4, vSame]
    rw [this, h4, hb]
    cases vOk c.v <;> simp
  · have : cSame c ⟨c.kind, (0, 0), 0, 0, [], c.v⟩ = false := by
      cases hs : cSame c ⟨c.kind, (0, 0), 0, 0, [], c.v⟩
      · rfl
      · exact absurd (bareB_iff.2 (by have := cSame_iff.1 hs; rw [this]; simp)) hb
    rw [this]
    simp [hb]
theorem cErr0 {c : Cm} (h1 : c.kind ≠ 1) (h2 : c.kind ≠ 2) (h3 : c.kind ≠ 3) : cErr c = 1 := by
  have hk : kindOk c = false := by unfold kindOk; simp [h1, h2, h3]
  unfold cErr; rw [hk]; rfl
theorem eqP0 (a b : Nat) (e : Bool) (h : decide ((a, b) = (0, 0)) = e) (w : World) : (Op.equalIn 10000 36 (.agg #[.int .u16 (a : Int), .int .u32 (b : Int)]) (.agg #[.int .u16 0, .int .u32 0])).run Try.prog w = .ok e w := eqPD_is a b 0 0 e h w
theorem rvsame0_is {G1 : Nat → Prop} (x : Vw) (ma la da : Option Addr) (mc lc dc : Nat) (w : World) (e : Bool) (he : vSame x vw0 = e)
    (hx : VwG G1 w (.slice ma x.mem.length mc) (.slice la x.lvs.length lc) (.slice da x.ldr.length dc) x) :
    Calls Try.prog 20 #[.agg (vwC x ma la da mc lc dc), .agg #[.int .u64 0, .slice none 0 0, .slice none 0 0, .slice none 0 0]] w (Ret fun v w' => v = .bool e ∧ Below w.heap.size w w') :=
  rvsame_is (G2 := fun _ => False) x vw0 ma la da none none none mc lc dc 0 0 0 w e hx (VwG.nil _ _ 0) he
set_option maxRecDepth 100000 in
theorem rnone_is {G1 : Nat → Prop} (x : Vw) (ma la da : Option Addr) (mc lc dc : Nat) (w : World) (e : Bool) (he : vSame x vw0 = e)
    (hx : VwG G1 w (.slice ma x.mem.length mc) (.slice la x.lvs.length lc) (.slice da x.ldr.length dc) x) :
    Calls Try.prog 104 #[.agg (vwC x ma la da mc lc dc)] w (Ret fun v w' => v = .bool e ∧ Below w.heap.size w w') := by
  have H := St.init w
  simp only [vwC]
  go_enter Try.func104, Try.ntmps104
  go_wp2_with (first | (with_reducible refine wpl rfl (Stp.build (v := (.agg #[.int .u64 0, .slice none 0 0, .slice none 0 0, .slice none 0 0])) 4 rfl rfl (fun W => by kernel_rfl) ?_); simp only [pS]) | (go_at_call 20; (with_reducible refine (rvsame0_is x _ _ _ _ _ _ _ e he (hx.grow H.below)).mono ?_); rintro e w1 ⟨v, rfl, hr⟩; obtain ⟨rfl, hb1⟩ := hr; replace H := H.grow hb1; clear hb1) | (with_reducible refine wpl rfl (Stp.box 1 rfl rfl rfl H ?_); clear H; intro g1 w1 H; simp only [pS]; simp only [pE, nC, pS] at H) | (with_reducible refine wpl rfl (Stp.ldr rfl agg26 size26 rfl H mR sZ ?_); simp only [pS]))
  go_ret
  exact ⟨_, rfl, rfl, H.below⟩
attribute [local irreducible] may sentB bareB vOk vSame cErr
set_option maxRecDepth 100000 in
set_option maxHeartbeats 4000000 in
theorem rccheck_is {G1 : Nat → Prop} (c : Cm) (ba ma la da : Option Addr) (bc mc lc dc : Nat) (hm : smV c.v) (w : World) (e : Int) (he : cErr c = e)
    (hx : CmG G1 w (.slice ba c.data.length bc) (.slice ma c.v.mem.length mc) (.slice la c.v.lvs.length lc) (.slice da c.v.ldr.length dc) c) :
    Calls Try.prog 64 #[.agg (cmC c ba ma la da bc mc lc dc)] w (Ret fun v w' => v = .int .i64 e ∧ Below w.heap.size w w') := by
  have H := St.init w
  have hg := eqg_PD
  obtain ⟨hx1, hx2⟩ := hx
  simp only [cmC]
  go_enter Try.func64, Try.ntmps64
  go_upto_region 1 with (first | (with_reducible refine wpl rfl (Stp.box 1 rfl rfl rfl H ?_); clear H; intro g1 w1 H; simp only [pS]; simp only [pE, nC, pS] at H))
  go_cut [3] from 5 (fun s w' => s = .bool (sentB c) ∧ St w.heap.size w w' [row 43 g1 #[.int .i64 c.kind, .int .u16 (c.fr.1 : Int), .int .u32 (c.fr.2 : Int), .int .u64 (c.num : Int), .int .u64 (c.vw : Int), .slice ba c.data.length bc, .int .u64 (c.v.id : Int), .slice ma c.v.mem.length mc, .slice la c.v.lvs.length lc, .slice da c.v.ldr.length dc]])
  case first =>
    cases hmy : may c.fr.1 c.fr.2
    · have HY := Lib.hid hmy
      have HS : Hid (sentB c = false) := Lib.hid (by unfold sentB; simp [hmy])
      clear hmy
      go_wp2_with (first | (go_at_call 103; (with_reducible refine (rmay_ok c.fr.1 c.fr.2 _).mono ?_); rintro e w1 ⟨v, rfl, hr⟩; obtain ⟨rfl, hb1⟩ := hr; replace H := H.grow hb1; clear hb1; rw [HY.out]) | (with_reducible refine wpl rfl (Stp.ldl rfl agg36 size36 rfl H mR (by simp) ?_); simp only [pS]; simp only [List.drop_succ_cons, List.drop_zero, List.take_succ_cons, List.take_zero]))
      go_meet
      exact ⟨by rw [HS.out] <;> first | rfl | exact congrArg Value.bool (decide_eq_false (by omega)) | exact congrArg Value.bool (decide_eq_true (by omega)), H⟩
    · have HY := Lib.hid hmy
      by_cases k0 : 1 ≤ c.num
      case neg =>
        have HS : Hid (sentB c = false) := Lib.hid (by unfold sentB; simp [k0])
        have z0 : ¬ (1 : Int) ≤ (c.num : Int) := by omega
        clear hmy k0
        go_wp2_with (first | (go_at_call 103; (with_reducible refine (rmay_ok c.fr.1 c.fr.2 _).mono ?_); rintro e w1 ⟨v, rfl, hr⟩; obtain ⟨rfl, hb1⟩ := hr; replace H := H.grow hb1; clear hb1; rw [HY.out]) | (with_reducible refine wpl rfl (Stp.ldl rfl agg36 size36 rfl H mR (by simp) ?_); simp only [pS]; simp only [List.drop_succ_cons, List.drop_zero, List.take_succ_cons, List.take_zero]) | (with_reducible refine wpl rfl (Stp.ldc rfl agg22 rfl H mR cE ?_); simp only [pS]))
        go_meet
        exact ⟨by rw [HS.out] <;> first | rfl | exact congrArg Value.bool (decide_eq_false (by omega)) | exact congrArg Value.bool (decide_eq_true (by omega)), H⟩
      have z0 : (1 : Int) ≤ (c.num : Int) := by omega
      by_cases k1 : c.num ≤ 4611686018427387904
      case neg =>
        have HS : Hid (sentB c = false) := Lib.hid (by unfold sentB; simp [k1])
        have z1 : ¬ (c.num : Int) ≤ 4611686018427387904 := by omega
        clear hmy k0 k1
        go_wp2_with (first | (go_at_call 103; (with_reducible refine (rmay_ok c.fr.1 c.fr.2 _).mono ?_); rintro e w1 ⟨v, rfl, hr⟩; obtain ⟨rfl, hb1⟩ := hr; replace H := H.grow hb1; clear hb1; rw [HY.out]) | (with_reducible refine wpl rfl (Stp.ldl rfl agg36 size36 rfl H mR (by simp) ?_); simp only [pS]; simp only [List.drop_succ_cons, List.drop_zero, List.take_succ_cons, List.take_zero]) | (with_reducible refine wpl rfl (Stp.ldc rfl agg22 rfl H mR cE ?_); simp only [pS]))
        go_meet
        exact ⟨by rw [HS.out] <;> first | rfl | exact congrArg Value.bool (decide_eq_false (by omega)) | exact congrArg Value.bool (decide_eq_true (by omega)), H⟩
      have z1 : (c.num : Int) ≤ 4611686018427387904 := by omega
      by_cases k2 : 1 ≤ c.vw
      case neg =>
        have HS : Hid (sentB c = false) := Lib.hid (by unfold sentB; simp [k2])
        have z2 : ¬ (1 : Int) ≤ (c.vw : Int) := by omega
        clear hmy k0 k1 k2
        go_wp2_with (first | (go_at_call 103; (with_reducible refine (rmay_ok c.fr.1 c.fr.2 _).mono ?_); rintro e w1 ⟨v, rfl, hr⟩; obtain ⟨rfl, hb1⟩ := hr; replace H := H.grow hb1; clear hb1; rw [HY.out]) | (with_reducible refine wpl rfl (Stp.ldl rfl agg36 size36 rfl H mR (by simp) ?_); simp only [pS]; simp only [List.drop_succ_cons, List.drop_zero, List.take_succ_cons, List.take_zero]) | (with_reducible refine wpl rfl (Stp.ldc rfl agg22 rfl H mR cE ?_); simp only [pS]))
        go_meet
        exact ⟨by rw [HS.out] <;> first | rfl | exact congrArg Value.bool (decide_eq_false (by omega)) | exact congrArg Value.bool (decide_eq_true (by omega)), H⟩
      have z2 : (1 : Int) ≤ (c.vw : Int) := by omega
      by_cases k3 : c.vw ≤ 4611686018427387904
      case neg =>
        have HS : Hid (sentB c = false) := Lib.hid (by unfold sentB; simp [k3])
        have z3 : ¬ (c.vw : Int) ≤ 4611686018427387904 := by omega
        clear hmy k0 k1 k2 k3
        go_wp2_with (first | (go_at_call 103; (with_reducible refine (rmay_ok c.fr.1 c.fr.2 _).mono ?_); rintro e w1 ⟨v, rfl, hr⟩; obtain ⟨rfl, hb1⟩ := hr; replace H := H.grow hb1; clear hb1; rw [HY.out]) | (with_reducible refine wpl rfl (Stp.ldl rfl agg36 size36 rfl H mR (by simp) ?_); simp only [pS]; simp only [List.drop_succ_cons, List.drop_zero, List.take_succ_cons, List.take_zero]) | (with_reducible refine wpl rfl (Stp.ldc rfl agg22 rfl H mR cE ?_); simp only [pS]))
        go_meet
        exact ⟨by rw [HS.out] <;> first | rfl | exact congrArg Value.bool (decide_eq_false (by omega)) | exact congrArg Value.bool (decide_eq_true (by omega)), H⟩
      have z3 : (c.vw : Int) ≤ 4611686018427387904 := by omega
      have HS : Hid (sentB c = true) := Lib.hid (by unfold sentB; simp [hmy, k0, k1, k2, k3])
      clear hmy k0 k1 k2 k3
      go_wp2_with (first | (go_at_call 103; (with_reducible refine (rmay_ok c.fr.1 c.fr.2 _).mono ?_); rintro e w1 ⟨v, rfl, hr⟩; obtain ⟨rfl, hb1⟩ := hr; replace H := H.grow hb1; clear hb1; rw [HY.out]) | (with_reducible refine wpl rfl (Stp.ldl rfl agg36 size36 rfl H mR (by simp) ?_); simp only [pS]; simp only [List.drop_succ_cons, List.drop_zero, List.take_succ_cons, List.take_zero]) | (with_reducible refine wpl rfl (Stp.ldc rfl agg22 rfl H mR cE ?_); simp only [pS]))
      go_meet
      exact ⟨by rw [HS.out] <;> first | rfl | exact congrArg Value.bool (decide_eq_false (by omega)) | exact congrArg Value.bool (decide_eq_true (by omega)), H⟩
  case rest =>
  obtain ⟨rfl, H2⟩ := hcut
  clear H
  have H := H2
  clear H2
  go_upto_region 2 with fail
  go_cut [4] from 5 (fun s w' => s = .bool (bareB c) ∧ St w.heap.size w w' [row 43 g1 #[.int .i64 c.kind, .int .u16 (c.fr.1 : Int), .int .u32 (c.fr.2 : Int), .int .u64 (c.num : Int), .int .u64 (c.vw : Int), .slice ba c.data.length bc, .int .u64 (c.v.id : Int), .slice ma c.v.mem.length mc, .slice la c.v.lvs.length lc, .slice da c.v.ldr.length dc]])
  case first =>
    by_cases k0 : c.fr = (0, 0)
    case neg =>
      have HS : Hid (bareB c = false) := Lib.hid (by unfold bareB; simp [k0])
      have z0 := eqP0 c.fr.1 c.fr.2 false (decide_eq_false k0)
      clear k0
      go_wp2_with (first | (with_reducible refine wpl rfl (Stp.build (v := (.agg #[.int .u16 0, .int .u32 0])) 30 rfl rfl (fun W => by kernel_rfl) ?_); simp only [pS]) | (with_reducible refine wpl rfl (Stp.ldl rfl agg36 size36 rfl H mR (by simp) ?_); simp only [pS]; simp only [List.drop_succ_cons, List.drop_zero, List.take_succ_cons, List.take_zero]))
      go_meet
      exact ⟨by rw [HS.out] <;> first | rfl | exact congrArg Value.bool (decide_eq_false (by omega)) | exact congrArg Value.bool (decide_eq_true (by omega)), H⟩
    have z0 := eqP0 c.fr.1 c.fr.2 true (decide_eq_true k0)
    by_cases k1 : c.num = 0
    case neg =>
      have HS : Hid (bareB c = false) := Lib.hid (by unfold bareB; simp [k1])
      have z1 : ((c.num : Int) == 0) = false := beq_eq_false_iff_ne.2 (by omega)
      clear k0 k1
      go_wp2_with (first | (with_reducible refine wpl rfl (Stp.build (v := (.agg #[.int .u16 0, .int .u32 0])) 30 rfl rfl (fun W => by kernel_rfl) ?_); simp only [pS]) | (with_reducible refine wpl rfl (Stp.ldl rfl agg36 size36 rfl H mR (by simp) ?_); simp only [pS]; simp only [List.drop_succ_cons, List.drop_zero, List.take_succ_cons, List.take_zero]) | (with_reducible refine wpl rfl (Stp.ldc rfl agg22 rfl H mR cE ?_); simp only [pS]))
      go_meet
      exact ⟨by rw [HS.out] <;> first | rfl | exact congrArg Value.bool (decide_eq_false (by omega)) | exact congrArg Value.bool (decide_eq_true (by omega)), H⟩
    have z1 : ((c.num : Int) == 0) = true := beq_iff_eq.2 (by omega)
    by_cases k2 : c.vw = 0
    case neg =>
      have HS : Hid (bareB c = false) := Lib.hid (by unfold bareB; simp [k2])
      have z2 : ((c.vw : Int) == 0) = false := beq_eq_false_iff_ne.2 (by omega)
      clear k0 k1 k2
      go_wp2_with (first | (with_reducible refine wpl rfl (Stp.build (v := (.agg #[.int .u16 0, .int .u32 0])) 30 rfl rfl (fun W => by kernel_rfl) ?_); simp only [pS]) | (with_reducible refine wpl rfl (Stp.ldl rfl agg36 size36 rfl H mR (by simp) ?_); simp only [pS]; simp only [List.drop_succ_cons, List.drop_zero, List.take_succ_cons, List.take_zero]) | (with_reducible refine wpl rfl (Stp.ldc rfl agg22 rfl H mR cE ?_); simp only [pS]))
      go_meet
      exact ⟨by rw [HS.out] <;> first | rfl | exact congrArg Value.bool (decide_eq_false (by omega)) | exact congrArg Value.bool (decide_eq_true (by omega)), H⟩
    have z2 : ((c.vw : Int) == 0) = true := beq_iff_eq.2 (by omega)
    by_cases k3 : c.data.length = 0
    case neg =>
      have HS : Hid (bareB c = false) := Lib.hid (by unfold bareB; simp [k3])
      have z3 : ((c.data.length : Int) == 0) = false := beq_eq_false_iff_ne.2 (by omega)
      clear k0 k1 k2 k3
      go_wp2_with (first | (with_reducible refine wpl rfl (Stp.build (v := (.agg #[.int .u16 0, .int .u32 0])) 30 rfl rfl (fun W => by kernel_rfl) ?_); simp only [pS]) | (with_reducible refine wpl rfl (Stp.ldl rfl agg36 size36 rfl H mR (by simp) ?_); simp only [pS]; simp only [List.drop_succ_cons, List.drop_zero, List.take_succ_cons, List.take_zero]) | (with_reducible refine wpl rfl (Stp.ldc rfl agg22 rfl H mR cE ?_); simp only [pS]) | (with_reducible refine wpl rfl (Stp.ldc rfl agg37 rfl H mR cE ?_); simp only [pS]))
      go_meet
      exact ⟨by rw [HS.out] <;> first | rfl | exact congrArg Value.bool (decide_eq_false (by omega)) | exact congrArg Value.bool (decide_eq_true (by omega)), H⟩
    have z3 : ((c.data.length : Int) == 0) = true := beq_iff_eq.2 (by omega)
    have HS : Hid (bareB c = true) := Lib.hid (by unfold bareB; simp [k0, k1, k2, k3])
    clear k0 k1 k2 k3
    go_wp2_with (first | (with_reducible refine wpl rfl (Stp.build (v := (.agg #[.int .u16 0, .int .u32 0])) 30 rfl rfl (fun W => by kernel_rfl) ?_); simp only [pS]) | (with_reducible refine wpl rfl (Stp.ldl rfl agg36 size36 rfl H mR (by simp) ?_); simp only [pS]; simp only [List.drop_succ_cons, List.drop_zero, List.take_succ_cons, List.take_zero]) | (with_reducible refine wpl rfl (Stp.ldc rfl agg22 rfl H mR cE ?_); simp only [pS]) | (with_reducible refine wpl rfl (Stp.ldc rfl agg37 rfl H mR cE ?_); simp only [pS]))
    go_meet
    exact ⟨by rw [HS.out] <;> first | rfl | exact congrArg Value.bool (decide_eq_false (by omega)) | exact congrArg Value.bool (decide_eq_true (by omega)), H⟩
  case rest =>
  obtain ⟨rfl, H2⟩ := hcut
  clear H
  have H := H2
  clear H2
  obtain ⟨nv, hnv⟩ : ∃ b, vSame c.v vw0 = b := ⟨_, rfl⟩
  have HNV := Lib.hid hnv
  obtain ⟨vb, hvb⟩ : ∃ b, vOk c.v = b := ⟨_, rfl⟩
  have HVB := Lib.hid hvb
  by_cases k1 : c.kind = 1
  · have i1 : (c.kind == 1) = true := by simp [k1]
    have hV := cErr1 k1
    rw [he, hnv] at hV
    cases hb : bareB c
    · rw [hb, Bool.false_and, if_neg (by decide)] at hV
      subst hV
      clear k1 hb hnv hvb he
      go_wp2_with (first | (with_reducible refine wpl rfl (Stp.ldc rfl agg3 rfl H mR cE ?_); simp only [pS]))
      go_ret
      exact ⟨_, rfl, rfl, H.below⟩
    · cases nv
      · rw [hb] at hV
        have hV' : e = 1 := hV
        subst hV'
        clear k1 hb hnv hvb he hV
        go_wp2_with (first | (go_at_call 104; (with_reducible refine (rnone_is c.v _ _ _ _ _ _ _ _ HNV.out (hx2.grow H.below)).mono ?_); rintro e w1 ⟨v, rfl, hr⟩; obtain ⟨rfl, hb1⟩ := hr; replace H := H.grow hb1; clear hb1) | (with_reducible refine wpl rfl (Stp.ldc rfl agg3 rfl H mR cE ?_); simp only [pS]) | (with_reducible refine wpl rfl (Stp.ldl rfl agg26 size26 rfl H mR (by simp) ?_); simp only [pS]; simp only [List.drop_succ_cons, List.drop_zero, List.take_succ_cons, List.take_zero]))
        go_ret
        exact ⟨_, rfl, rfl, H.below⟩
      · rw [hb] at hV
        have hV' : e = 0 := hV
        subst hV'
        clear k1 hb hnv hvb he hV
        go_wp2_with (first | (go_at_call 104; (with_reducible refine (rnone_is c.v _ _ _ _ _ _ _ _ HNV.out (hx2.grow H.below)).mono ?_); rintro e w1 ⟨v, rfl, hr⟩; obtain ⟨rfl, hb1⟩ := hr; replace H := H.grow hb1; clear hb1) | (with_reducible refine wpl rfl (Stp.ldc rfl agg3 rfl H mR cE ?_); simp only [pS]) | (with_reducible refine wpl rfl (Stp.ldl rfl agg26 size26 rfl H mR (by simp) ?_); simp only [pS]; simp only [List.drop_succ_cons, List.drop_zero, List.take_succ_cons, List.take_zero]))
        go_ret
        exact ⟨_, rfl, rfl, H.below⟩
  have i1 : (c.kind == 1) = false := by simp [k1]
  by_cases k2 : c.kind = 2
  · have i2 : (c.kind == 2) = true := by simp [k2]
    have hV := cErr2 k2
    rw [he, hnv] at hV
    cases hb : sentB c
    · rw [hb, Bool.false_and, if_neg (by decide)] at hV
      subst hV
      clear k1 k2 hb hnv hvb he
      go_wp2_with (first | (with_reducible refine wpl rfl (Stp.ldc rfl agg3 rfl H mR cE ?_); simp only [pS]))
      go_ret
      exact ⟨_, rfl, rfl, H.below⟩
    · cases nv
      · rw [hb] at hV
        have hV' : e = 1 := hV
        subst hV'
        clear k1 k2 hb hnv hvb he hV
        go_wp2_with (first | (go_at_call 104; (with_reducible refine (rnone_is c.v _ _ _ _ _ _ _ _ HNV.out (hx2.grow H.below)).mono ?_); rintro e w1 ⟨v, rfl, hr⟩; obtain ⟨rfl, hb1⟩ := hr; replace H := H.grow hb1; clear hb1) | (with_reducible refine wpl rfl (Stp.ldc rfl agg3 rfl H mR cE ?_); simp only [pS]) | (with_reducible refine wpl rfl (Stp.ldl rfl agg26 size26 rfl H mR (by simp) ?_); simp only [pS]; simp only [List.drop_succ_cons, List.drop_zero, List.take_succ_cons, List.take_zero]))
        go_ret
        exact ⟨_, rfl, rfl, H.below⟩
      · rw [hb] at hV
        have hV' : e = if 200 < c.data.length then 14 else 0 := hV
        by_cases hd : 200 < c.data.length
        · rw [if_pos hd] at hV'
          have zd : (200 : Int) < (c.data.length : Int) := by omega
          subst hV'
          clear k1 k2 hb hnv hvb he hV hd
          go_wp2_with (first | (go_at_call 104; (with_reducible refine (rnone_is c.v _ _ _ _ _ _ _ _ HNV.out (hx2.grow H.below)).mono ?_); rintro e w1 ⟨v, rfl, hr⟩; obtain ⟨rfl, hb1⟩ := hr; replace H := H.grow hb1; clear hb1) | (with_reducible refine wpl rfl (Stp.ldc rfl agg37 rfl H mR cE ?_); simp only [pS]) | (with_reducible refine wpl rfl (Stp.ldc rfl agg3 rfl H mR cE ?_); simp only [pS]) | (with_reducible refine wpl rfl (Stp.ldl rfl agg26 size26 rfl H mR (by simp) ?_); simp only [pS]; simp only [List.drop_succ_cons, List.drop_zero, List.take_succ_cons, List.take_zero]))
          go_ret
          exact ⟨_, rfl, rfl, H.below⟩
        · rw [if_neg hd] at hV'
          have zd : ¬ (200 : Int) < (c.data.length : Int) := by omega
          subst hV'
          clear k1 k2 hb hnv hvb he hV hd
          go_wp2_with (first | (go_at_call 104; (with_reducible refine (rnone_is c.v _ _ _ _ _ _ _ _ HNV.out (hx2.grow H.below)).mono ?_); rintro e w1 ⟨v, rfl, hr⟩; obtain ⟨rfl, hb1⟩ := hr; replace H := H.grow hb1; clear hb1) | (with_reducible refine wpl rfl (Stp.ldc rfl agg37 rfl H mR cE ?_); simp only [pS]) | (with_reducible refine wpl rfl (Stp.ldc rfl agg3 rfl H mR cE ?_); simp only [pS]) | (with_reducible refine wpl rfl (Stp.ldl rfl agg26 size26 rfl H mR (by simp) ?_); simp only [pS]; simp only [List.drop_succ_cons, List.drop_zero, List.take_succ_cons, List.take_zero]))
          go_ret
          exact ⟨_, rfl, rfl, H.below⟩
  have i2 : (c.kind == 2) = false := by simp [k2]
  by_cases k3 : c.kind = 3
  · have i3 : (c.kind == 3) = true := by simp [k3]
    have hV := cErr3 k3
    rw [he, hvb] at hV
    cases hb : bareB c
    · rw [hb, Bool.false_and, if_neg (by decide)] at hV
      subst hV
      clear k1 k2 k3 hb hnv hvb he
      go_wp2_with (first | (with_reducible refine wpl rfl (Stp.ldc rfl agg3 rfl H mR cE ?_); simp only [pS]))
      go_ret
      exact ⟨_, rfl, rfl, H.below⟩
    · cases vb
      · rw [hb] at hV
        have hV' : e = 1 := hV
        subst hV'
        clear k1 k2 k3 hb hnv hvb he hV
        go_wp2_with (first | (go_at_call 105; (with_reducible refine (rvcheck_is c.v _ _ _ _ _ _ hm _ _ HVB.out (hx2.grow H.below)).mono ?_); rintro e w1 ⟨v, rfl, hr⟩; obtain ⟨rfl, hb1⟩ := hr; replace H := H.grow hb1; clear hb1) | (with_reducible refine wpl rfl (Stp.ldc rfl agg3 rfl H mR cE ?_); simp only [pS]) | (with_reducible refine wpl rfl (Stp.ldl rfl agg26 size26 rfl H mR (by simp) ?_); simp only [pS]; simp only [List.drop_succ_cons, List.drop_zero, List.take_succ_cons, List.take_zero]))
        go_ret
        exact ⟨_, rfl, rfl, H.below⟩
      · rw [hb] at hV
        have hV' : e = 0 := hV
        subst hV'
        clear k1 k2 k3 hb hnv hvb he hV
        go_wp2_with (first | (go_at_call 105; (with_reducible refine (rvcheck_is c.v _ _ _ _ _ _ hm _ _ HVB.out (hx2.grow H.below)).mono ?_); rintro e w1 ⟨v, rfl, hr⟩; obtain ⟨rfl, hb1⟩ := hr; replace H := H.grow hb1; clear hb1) | (with_reducible refine wpl rfl (Stp.ldc rfl agg3 rfl H mR cE ?_); simp only [pS]) | (with_reducible refine wpl rfl (Stp.ldl rfl agg26 size26 rfl H mR (by simp) ?_); simp only [pS]; simp only [List.drop_succ_cons, List.drop_zero, List.take_succ_cons, List.take_zero]))
        go_ret
        exact ⟨_, rfl, rfl, H.below⟩
  have i3 : (c.kind == 3) = false := by simp [k3]
  have hV := cErr0 k1 k2 k3
  rw [he] at hV
  subst hV
  clear k1 k2 k3 hnv hvb he
  go_wp2_with (first | (with_reducible refine wpl rfl (Stp.ldc rfl agg3 rfl H mR cE ?_); simp only [pS]))
  go_ret
  exact ⟨_, rfl, rfl, H.below⟩
end Go.Proofs.Ytjghcmejmdllbaa
