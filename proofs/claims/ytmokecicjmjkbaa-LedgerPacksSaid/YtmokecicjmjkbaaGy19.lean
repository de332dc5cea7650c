/- The contract of the reference's Check over commands (choragusref09): the program's own answer; the bounds stand in it. More of what is read as a ledger: one command more, none; how great they are; no condition. My logic of owned memory: a slice of the call's own that begins anywhere in its row: read, cut ahead, appended to; no condition. -/
import Derived.Deep.Cut
import Derived.Test.YtmokecicjmjkbaaGy2
import Derived.Test.YtmokecicjmjkbaaGy3
import Derived.Test.YtmokecicjmjkbaaGy16
import Derived.Test.YtmokecicjmjkbaaGy18
namespace Go.Proofs.Ytmokecicjmjkbaa
open Go.ChangeShapes Go.WideShapes Go.ChangeAt Go.RowKit Go.Maps Go.Deep
set_option linter.unusedVariables false
set_option linter.unusedSimpArgs false
def sentB (c : Cm) : Bool := may c.fr.1 c.fr.2 && decide (1 ≤ c.num) && decide (c.num ≤ 4611686018427387904) && decide (1 ≤ c.vw) && decide (c.vw ≤ 4611686018427387904)
def bareB (c : Cm) : Bool := decide (c.fr = (0, 0)) && decide (c.num = 0) && decide (c.vw = 0) && decide (c.data.length = 0)
theorem bareB_iff {c : Cm} : bareB c = true ↔ c.fr = (0, 0) ∧ c.num = 0 ∧ c.vw = 0 ∧ c.data = [] := by
  unfold bareB; simp [and_assoc]
theorem cErr1 {c : Cm} (h : c.kind = 1) : cErr c = if (bareB c && vSame c.v vw0) = true then 0 else 1 := by
  have hk : kindOk c = true := by unfold kindOk; simp [h]
  have ho : only c = ⟨c.kind, (0, 0), 0, 0, [], vw0⟩ := by unfold only; simp [h]
  unfold cErr
  rw [if_pos hk, ho]
  by_cases hb : bareB c = true
  · obtain ⟨h1, h2, h3, h4⟩ := bareB_iff.1 hb
    rw [hb, Bool.true_and]
    have : cSame c ⟨c.kind, (0, 0), 0, 0, [], vw0⟩ = vSame c.v vw0 := by unfold cSame; simp [h1, h2, h3, h4]
    rw [this, h4]
    simp
  · have : cSame c ⟨c.kind, (0, 0), 0, 0, [], vw0⟩ = false := by
      cases hs : cSame c ⟨c.kind, (0, 0), 0, 0, [], vw0⟩
      · rfl
      · exact absurd (bareB_iff.2 (by have := cSame_iff.1 hs; rw [this]; simp)) hb
    rw [this]
    simp [hb]
theorem cErr2 {c : Cm} (h : c.kind = 2) : cErr c = if (sentB c && vSame c.v vw0) = true then (if 200 < c.data.length then 14 else 0) else 1 := by
  have hk : kindOk c = sentB c := by unfold kindOk sentB cnt; simp [h, Bool.and_assoc]
  have ho : only c = ⟨c.kind, c.fr, c.num, c.vw, c.data, vw0⟩ := by unfold only; simp [h]
  have hs : cSame c ⟨c.kind, c.fr, c.num, c.vw, c.data, vw0⟩ = vSame c.v vw0 := by unfold cSame; simp
  unfold cErr
  rw [hk, ho, hs]
  cases sentB c <;> simp
theorem cErr3 {c : Cm} (h : c.kind = 3) : cErr c = if (bareB c && vOk c.v) = true then 0 else 1 := by
  have hk : kindOk c = vOk c.v := by unfold kindOk; simp [h]
  have ho : only c = ⟨c.kind, (0, 0), 0, 0, [], c.v⟩ := by unfold only; simp [h]
  unfold cErr
  rw [hk, ho]
  by_cases hb : bareB c = true
  · obtain ⟨h1, h2, h3, h4⟩ := bareB_iff.1 hb
    have : cSame c ⟨c.kind, (0, 0), 0, 0, [], c.v⟩ = true := by unfold cSame; simp [h1, h2, h3, h4, vSame]
    rw [this, h4, hb]
    cases vOk c.v <;> simp
  · have : cSame c ⟨c.kind, (0, 0), 0, 0, [], c.v⟩ = false := by
      cases hs : cSame c ⟨c.kind, (0, 0), 0, 0, [], c.v⟩
      · rfl
      · exact absurd (bareB_iff.2 (by have := cSame_iff.1 hs; rw [this]; simp)) hb
    rw [this]
    simp [hb]
theorem cErr0 {c : Cm} (h1 : c.kind ≠ 1) (h2 : c.kind ≠ 2) (h3 : c.kind ≠ 3) : cErr c = 1 := by
  have hk : kindOk c = false := by unfold kindOk; simp [h1, h2, h3]
  unfold cErr; rw [hk]; rfl
theorem eqP0 (a b : Nat) (e : Bool) (h : decide ((a, b) = (0, 0)) = e) (w : World) : (Op.equalIn 10000 30 (.agg #[.int .u16 (a : Int), .int .u32 (b : Int)]) (.agg #[.int .u16 0, .int .u32 0])).run Try.prog w = .ok e w := eqPD_is a b 0 0 e h w
theorem rvsame0_is {G1 : Nat → Prop} (x : Vw) (ma la da : Option Addr) (mc lc dc : Nat) (w : World) (e : Bool) (he : vSame x vw0 = e)
    (hx : VwG G1 w (.slice ma x.mem.length mc) (.slice la x.lvs.length lc) (.slice da x.ldr.length dc) x) :
    Calls Try.prog 57 #[.agg (vwC x ma la da mc lc dc), .agg #[.int .u64 0, .slice none 0 0, .slice none 0 0, .slice none 0 0]] w (Ret fun v w' => v = .bool e ∧ Below w.heap.size w w') :=
  rvsame_is (G2 := fun _ => False) x vw0 ma la da none none none mc lc dc 0 0 0 w e hx (VwG.nil _ _ 0) he
set_option maxRecDepth 100000 in
theorem rnone_is {G1 : Nat → Prop} (x : Vw) (ma la da : Option Addr) (mc lc dc : Nat) (w : World) (e : Bool) (he : vSame x vw0 = e)
    (hx : VwG G1 w (.slice ma x.mem.length mc) (.slice la x.lvs.length lc) (.slice da x.ldr.length dc) x) :
    Calls Try.prog 55 #[.agg (vwC x ma la da mc lc dc)] w (Ret fun v w' => v = .bool e ∧ Below w.heap.size w w') := by
  have H := St.init w
  simp only [vwC]
  go_enter Try.func55, Try.ntmps55
  go_wp2_with (first | (with_reducible refine wpl rfl (dQ 4 rfl ?_); with_reducible refine (Stp.build (v := (.agg #[.int .u64 0, .slice none 0 0, .slice none 0 0, .slice none 0 0])) 4 rfl rfl (fun W => by kernel_rfl) ?_); simp only [pS]) | (go_at_call 57; (with_reducible refine (rvsame0_is x _ _ _ _ _ _ _ e he (hx.grow H.below)).mono ?_); rintro e w1 ⟨v, rfl, hr⟩; obtain ⟨rfl, hb1⟩ := hr; replace H := H.grow hb1; clear hb1) | (with_reducible refine wpl rfl (dQ 1 rfl ?_); with_reducible refine (Stp.box 1 rfl rfl rfl H ?_); clear H; intro g1 w1 H; simp only [pS]; simp only [pE, nC, pS] at H) | (with_reducible refine wpl rfl (ldQ (ty := 34) rfl ?_); first | (with_reducible refine (Stp.ldor rfl agg34 size34 rfl H (by assumption) sZ (by assumption) ?_); simp only [pS]) | (with_reducible refine (Stp.ldr rfl agg34 size34 rfl H mR sZ ?_); simp only [pS]) | (with_reducible refine (Stp.ldl rfl agg34 size34 rfl H mR (by simp) ?_); simp only [pS]; simp only [List.drop_succ_cons, List.drop_zero, List.take_succ_cons, List.take_zero])))
  go_ret
  exact ⟨_, rfl, rfl, H.below⟩
attribute [local irreducible] may sentB bareB vOk vSame cErr
set_option maxRecDepth 100000 in
set_option maxHeartbeats 4000000 in
theorem rccheck_is {G1 : Nat → Prop} (c : Cm) (ba ma la da : Option Addr) (bc mc lc dc : Nat) (hm : smV c.v) (w : World) (e : Int) (he : cErr c = e)
    (hx : CmG G1 w (.slice ba c.data.length bc) (.slice ma c.v.mem.length mc) (.slice la c.v.lvs.length lc) (.slice da c.v.ldr.length dc) c) :
    Calls Try.prog 23 #[.agg (cmC c ba ma la da bc mc lc dc)] w (Ret fun v w' => v = .int .i64 e ∧ Below w.heap.size w w') := by
  have H := St.init w
  have hg := eqg_PD
  obtain ⟨hx1, hx2⟩ := hx
  simp only [cmC]
  go_enter Try.func23, Try.ntmps23
  go_upto_region 1 with (first | (with_reducible refine wpl rfl (dQ 1 rfl ?_); with_reducible refine (Stp.box 1 rfl rfl rfl H ?_); clear H; intro g1 w1 H; simp only [pS]; simp only [pE, nC, pS] at H))
  go_cut [3] from 5 (fun s w' => s = .bool (sentB c) ∧ St w.heap.size w w' [row 36 g1 #[.int .i64 c.kind, .int .u16 (c.fr.1 : Int), .int .u32 (c.fr.2 : Int), .int .u64 (c.num : Int), .int .u64 (c.vw : Int), .slice ba c.data.length bc, .int .u64 (c.v.id : Int), .slice ma c.v.mem.length mc, .slice la c.v.lvs.length lc, .slice da c.v.ldr.length dc]])
  case first =>
    cases hmy : may c.fr.1 c.fr.2
    · have HY := Lib.hid hmy
      have HS : Hid (sentB c = false) := Lib.hid (by unfold sentB; simp [hmy])
      clear hmy
      go_wp2_with (first | (go_at_call 24; (with_reducible refine (rmay_ok c.fr.1 c.fr.2 _).mono ?_); rintro e w1 ⟨v, rfl, hr⟩; obtain ⟨rfl, hb1⟩ := hr; replace H := H.grow hb1; clear hb1; rw [HY.out]) | (with_reducible refine wpl rfl (ldQ (ty := 30) rfl ?_); first | (with_reducible refine (Stp.ldor rfl agg30 size30 rfl H (by assumption) sZ (by assumption) ?_); simp only [pS]) | (with_reducible refine (Stp.ldr rfl agg30 size30 rfl H mR sZ ?_); simp only [pS]) | (with_reducible refine (Stp.ldl rfl agg30 size30 rfl H mR (by simp) ?_); simp only [pS]; simp only [List.drop_succ_cons, List.drop_zero, List.take_succ_cons, List.take_zero])))
      go_meet
      exact ⟨by rw [HS.out] <;> first | rfl | exact congrArg Value.bool (decide_eq_false (by omega)) | exact congrArg Value.bool (decide_eq_true (by omega)), H⟩
    · have HY := Lib.hid hmy
      by_cases k0 : 1 ≤ c.num
      case neg =>
        have HS : Hid (sentB c = false) := Lib.hid (by unfold sentB; simp [k0])
        have z0 : ¬ (1 : Int) ≤ (c.num : Int) := by omega
        clear hmy k0
        go_wp2_with (first | (go_at_call 24; (with_reducible refine (rmay_ok c.fr.1 c.fr.2 _).mono ?_); rintro e w1 ⟨v, rfl, hr⟩; obtain ⟨rfl, hb1⟩ := hr; replace H := H.grow hb1; clear hb1; rw [HY.out]) | (with_reducible refine wpl rfl (ldQ (ty := 30) rfl ?_); first | (with_reducible refine (Stp.ldor rfl agg30 size30 rfl H (by assumption) sZ (by assumption) ?_); simp only [pS]) | (with_reducible refine (Stp.ldr rfl agg30 size30 rfl H mR sZ ?_); simp only [pS]) | (with_reducible refine (Stp.ldl rfl agg30 size30 rfl H mR (by simp) ?_); simp only [pS]; simp only [List.drop_succ_cons, List.drop_zero, List.take_succ_cons, List.take_zero])) | (with_reducible refine wpl rfl (ldQ (ty := 26) rfl ?_); first | (with_reducible refine (Stp.ldo rfl agg26 rfl H (by assumption) (by assumption) ?_); simp only [pS]) | (with_reducible refine (Stp.ldc rfl agg26 rfl H mR cE ?_); simp only [pS])))
        go_meet
        exact ⟨by rw [HS.out] <;> first | rfl | exact congrArg Value.bool (decide_eq_false (by omega)) | exact congrArg Value.bool (decide_eq_true (by omega)), H⟩
      have z0 : (1 : Int) ≤ (c.num : Int) := by omega
      by_cases k1 : c.num ≤ 4611686018427387904
      case neg =>
        have HS : Hid (sentB c = false) := Lib.hid (by unfold sentB; simp [k1])
        have z1 : ¬ (c.num : Int) ≤ 4611686018427387904 := by omega
        clear hmy k0 k1
        go_wp2_with (first | (go_at_call 24; (with_reducible refine (rmay_ok c.fr.1 c.fr.2 _).mono ?_); rintro e w1 ⟨v, rfl, hr⟩; obtain ⟨rfl, hb1⟩ := hr; replace H := H.grow hb1; clear hb1; rw [HY.out]) | (with_reducible refine wpl rfl (ldQ (ty := 30) rfl ?_); first | (with_reducible refine (Stp.ldor rfl agg30 size30 rfl H (by assumption) sZ (by assumption) ?_); simp only [pS]) | (with_reducible refine (Stp.ldr rfl agg30 size30 rfl H mR sZ ?_); simp only [pS]) | (with_reducible refine (Stp.ldl rfl agg30 size30 rfl H mR (by simp) ?_); simp only [pS]; simp only [List.drop_succ_cons, List.drop_zero, List.take_succ_cons, List.take_zero])) | (with_reducible refine wpl rfl (ldQ (ty := 26) rfl ?_); first | (with_reducible refine (Stp.ldo rfl agg26 rfl H (by assumption) (by assumption) ?_); simp only [pS]) | (with_reducible refine (Stp.ldc rfl agg26 rfl H mR cE ?_); simp only [pS])))
        go_meet
        exact ⟨by rw [HS.out] <;> first | rfl | exact congrArg Value.bool (decide_eq_false (by omega)) | exact congrArg Value.bool (decide_eq_true (by omega)), H⟩
      have z1 : (c.num : Int) ≤ 4611686018427387904 := by omega
      by_cases k2 : 1 ≤ c.vw
      case neg =>
        have HS : Hid (sentB c = false) := Lib.hid (by unfold sentB; simp [k2])
        have z2 : ¬ (1 : Int) ≤ (c.vw : Int) := by omega
        clear hmy k0 k1 k2
        go_wp2_with (first | (go_at_call 24; (with_reducible refine (rmay_ok c.fr.1 c.fr.2 _).mono ?_); rintro e w1 ⟨v, rfl, hr⟩; obtain ⟨rfl, hb1⟩ := hr; replace H := H.grow hb1; clear hb1; rw [HY.out]) | (with_reducible refine wpl rfl (ldQ (ty := 30) rfl ?_); first | (with_reducible refine (Stp.ldor rfl agg30 size30 rfl H (by assumption) sZ (by assumption) ?_); simp only [pS]) | (with_reducible refine (Stp.ldr rfl agg30 size30 rfl H mR sZ ?_); simp only [pS]) | (with_reducible refine (Stp.ldl rfl agg30 size30 rfl H mR (by simp) ?_); simp only [pS]; simp only [List.drop_succ_cons, List.drop_zero, List.take_succ_cons, List.take_zero])) | (with_reducible refine wpl rfl (ldQ (ty := 26) rfl ?_); first | (with_reducible refine (Stp.ldo rfl agg26 rfl H (by assumption) (by assumption) ?_); simp only [pS]) | (with_reducible refine (Stp.ldc rfl agg26 rfl H mR cE ?_); simp only [pS])))
        go_meet
        exact ⟨by rw [HS.out] <;> first | rfl | exact congrArg Value.bool (decide_eq_false (by omega)) | exact congrArg Value.bool (decide_eq_true (by omega)), H⟩
      have z2 : (1 : Int) ≤ (c.vw : Int) := by omega
      by_cases k3 : c.vw ≤ 4611686018427387904
      case neg =>
        have HS : Hid (sentB c = false) := Lib.hid (by unfold sentB; simp [k3])
        have z3 : ¬ (c.vw : Int) ≤ 4611686018427387904 := by omega
        clear hmy k0 k1 k2 k3
        go_wp2_with (first | (go_at_call 24; (with_reducible refine (rmay_ok c.fr.1 c.fr.2 _).mono ?_); rintro e w1 ⟨v, rfl, hr⟩; obtain ⟨rfl, hb1⟩ := hr; replace H := H.grow hb1; clear hb1; rw [HY.out]) | (with_reducible refine wpl rfl (ldQ (ty := 30) rfl ?_); first | (with_reducible refine (Stp.ldor rfl agg30 size30 rfl H (by assumption) sZ (by assumption) ?_); simp only [pS]) | (with_reducible refine (Stp.ldr rfl agg30 size30 rfl H mR sZ ?_); simp only [pS]) | (with_reducible refine (Stp.ldl rfl agg30 size30 rfl H mR (by simp) ?_); simp only [pS]; simp only [List.drop_succ_cons, List.drop_zero, List.take_succ_cons, List.take_zero])) | (with_reducible refine wpl rfl (ldQ (ty := 26) rfl ?_); first | (with_reducible refine (Stp.ldo rfl agg26 rfl H (by assumption) (by assumption) ?_); simp only [pS]) | (with_reducible refine (Stp.ldc rfl agg26 rfl H mR cE ?_); simp only [pS])))
        go_meet
        exact ⟨by rw [HS.out] <;> first | rfl | exact congrArg Value.bool (decide_eq_false (by omega)) | exact congrArg Value.bool (decide_eq_true (by omega)), H⟩
      have z3 : (c.vw : Int) ≤ 4611686018427387904 := by omega
      have HS : Hid (sentB c = true) := Lib.hid (by unfold sentB; simp [hmy, k0, k1, k2, k3])
      clear hmy k0 k1 k2 k3
      go_wp2_with (first | (go_at_call 24; (with_reducible refine (rmay_ok c.fr.1 c.fr.2 _).mono ?_); rintro e w1 ⟨v, rfl, hr⟩; obtain ⟨rfl, hb1⟩ := hr; replace H := H.grow hb1; clear hb1; rw [HY.out]) | (with_reducible refine wpl rfl (ldQ (ty := 30) rfl ?_); first | (with_reducible refine (Stp.ldor rfl agg30 size30 rfl H (by assumption) sZ (by assumption) ?_); simp only [pS]) | (with_reducible refine (Stp.ldr rfl agg30 size30 rfl H mR sZ ?_); simp only [pS]) | (with_reducible refine (Stp.ldl rfl agg30 size30 rfl H mR (by simp) ?_); simp only [pS]; simp only [List.drop_succ_cons, List.drop_zero, List.take_succ_cons, List.take_zero])) | (with_reducible refine wpl rfl (ldQ (ty := 26) rfl ?_); first | (with_reducible refine (Stp.ldo rfl agg26 rfl H (by assumption) (by assumption) ?_); simp only [pS]) | (with_reducible refine (Stp.ldc rfl agg26 rfl H mR cE ?_); simp only [pS])))
      go_meet
      exact ⟨by rw [HS.out] <;> first | rfl | exact congrArg Value.bool (decide_eq_false (by omega)) | exact congrArg Value.bool (decide_eq_true (by omega)), H⟩
  case rest =>
  obtain ⟨rfl, H2⟩ := hcut
  clear H
  have H := H2
  clear H2
  go_upto_region 2 with fail
  go_cut [4] from 5 (fun s w' => s = .bool (bareB c) ∧ St w.heap.size w w' [row 36 g1 #[.int .i64 c.kind, .int .u16 (c.fr.1 : Int), .int .u32 (c.fr.2 : Int), .int .u64 (c.num : Int), .int .u64 (c.vw : Int), .slice ba c.data.length bc, .int .u64 (c.v.id : Int), .slice ma c.v.mem.length mc, .slice la c.v.lvs.length lc, .slice da c.v.ldr.length dc]])
  case first =>
    by_cases k0 : c.fr = (0, 0)
    case neg =>
      have HS : Hid (bareB c = false) := Lib.hid (by unfold bareB; simp [k0])
      have z0 := eqP0 c.fr.1 c.fr.2 false (decide_eq_false k0)
      clear k0
      go_wp2_with (first | (with_reducible refine wpl rfl (dQ 30 rfl ?_); with_reducible refine (Stp.build (v := (.agg #[.int .u16 0, .int .u32 0])) 30 rfl rfl (fun W => by kernel_rfl) ?_); simp only [pS]) | (with_reducible refine wpl rfl (ldQ (ty := 30) rfl ?_); first | (with_reducible refine (Stp.ldor rfl agg30 size30 rfl H (by assumption) sZ (by assumption) ?_); simp only [pS]) | (with_reducible refine (Stp.ldr rfl agg30 size30 rfl H mR sZ ?_); simp only [pS]) | (with_reducible refine (Stp.ldl rfl agg30 size30 rfl H mR (by simp) ?_); simp only [pS]; simp only [List.drop_succ_cons, List.drop_zero, List.take_succ_cons, List.take_zero])))
      go_meet
      exact ⟨by rw [HS.out] <;> first | rfl | exact congrArg Value.bool (decide_eq_false (by omega)) | exact congrArg Value.bool (decide_eq_true (by omega)), H⟩
    have z0 := eqP0 c.fr.1 c.fr.2 true (decide_eq_true k0)
    by_cases k1 : c.num = 0
    case neg =>
      have HS : Hid (bareB c = false) := Lib.hid (by unfold bareB; simp [k1])
      have z1 : ((c.num : Int) == 0) = false := beq_eq_false_iff_ne.2 (by omega)
      clear k0 k1
      go_wp2_with (first | (with_reducible refine wpl rfl (dQ 30 rfl ?_); with_reducible refine (Stp.build (v := (.agg #[.int .u16 0, .int .u32 0])) 30 rfl rfl (fun W => by kernel_rfl) ?_); simp only [pS]) | (with_reducible refine wpl rfl (ldQ (ty := 30) rfl ?_); first | (with_reducible refine (Stp.ldor rfl agg30 size30 rfl H (by assumption) sZ (by assumption) ?_); simp only [pS]) | (with_reducible refine (Stp.ldr rfl agg30 size30 rfl H mR sZ ?_); simp only [pS]) | (with_reducible refine (Stp.ldl rfl agg30 size30 rfl H mR (by simp) ?_); simp only [pS]; simp only [List.drop_succ_cons, List.drop_zero, List.take_succ_cons, List.take_zero])) | (with_reducible refine wpl rfl (ldQ (ty := 26) rfl ?_); first | (with_reducible refine (Stp.ldo rfl agg26 rfl H (by assumption) (by assumption) ?_); simp only [pS]) | (with_reducible refine (Stp.ldc rfl agg26 rfl H mR cE ?_); simp only [pS])))
      go_meet
      exact ⟨by rw [HS.out] <;> first | rfl | exact congrArg Value.bool (decide_eq_false (by omega)) | exact congrArg Value.bool (decide_eq_true (by omega)), H⟩
    have z1 : ((c.num : Int) == 0) = true := beq_iff_eq.2 (by omega)
    by_cases k2 : c.vw = 0
    case neg =>
      have HS : Hid (bareB c = false) := Lib.hid (by unfold bareB; simp [k2])
      have z2 : ((c.vw : Int) == 0) = false := beq_eq_false_iff_ne.2 (by omega)
      clear k0 k1 k2
      go_wp2_with (first | (with_reducible refine wpl rfl (dQ 30 rfl ?_); with_reducible refine (Stp.build (v := (.agg #[.int .u16 0, .int .u32 0])) 30 rfl rfl (fun W => by kernel_rfl) ?_); simp only [pS]) | (with_reducible refine wpl rfl (ldQ (ty := 30) rfl ?_); first | (with_reducible refine (Stp.ldor rfl agg30 size30 rfl H (by assumption) sZ (by assumption) ?_); simp only [pS]) | (with_reducible refine (Stp.ldr rfl agg30 size30 rfl H mR sZ ?_); simp only [pS]) | (with_reducible refine (Stp.ldl rfl agg30 size30 rfl H mR (by simp) ?_); simp only [pS]; simp only [List.drop_succ_cons, List.drop_zero, List.take_succ_cons, List.take_zero])) | (with_reducible refine wpl rfl (ldQ (ty := 26) rfl ?_); first | (with_reducible refine (Stp.ldo rfl agg26 rfl H (by assumption) (by assumption) ?_); simp only [pS]) | (with_reducible refine (Stp.ldc rfl agg26 rfl H mR cE ?_); simp only [pS])))
      go_meet
      exact ⟨by rw [HS.out] <;> first | rfl | exact congrArg Value.bool (decide_eq_false (by omega)) | exact congrArg Value.bool (decide_eq_true (by omega)), H⟩
    have z2 : ((c.vw : Int) == 0) = true := beq_iff_eq.2 (by omega)
    by_cases k3 : c.data.length = 0
    case neg =>
      have HS : Hid (bareB c = false) := Lib.hid (by unfold bareB; simp [k3])
      have z3 : ((c.data.length : Int) == 0) = false := beq_eq_false_iff_ne.2 (by omega)
      clear k0 k1 k2 k3
      go_wp2_with (first | (with_reducible refine wpl rfl (dQ 30 rfl ?_); with_reducible refine (Stp.build (v := (.agg #[.int .u16 0, .int .u32 0])) 30 rfl rfl (fun W => by kernel_rfl) ?_); simp only [pS]) | (with_reducible refine wpl rfl (ldQ (ty := 30) rfl ?_); first | (with_reducible refine (Stp.ldor rfl agg30 size30 rfl H (by assumption) sZ (by assumption) ?_); simp only [pS]) | (with_reducible refine (Stp.ldr rfl agg30 size30 rfl H mR sZ ?_); simp only [pS]) | (with_reducible refine (Stp.ldl rfl agg30 size30 rfl H mR (by simp) ?_); simp only [pS]; simp only [List.drop_succ_cons, List.drop_zero, List.take_succ_cons, List.take_zero])) | (with_reducible refine wpl rfl (ldQ (ty := 26) rfl ?_); first | (with_reducible refine (Stp.ldo rfl agg26 rfl H (by assumption) (by assumption) ?_); simp only [pS]) | (with_reducible refine (Stp.ldc rfl agg26 rfl H mR cE ?_); simp only [pS])) | (with_reducible refine wpl rfl (ldQ (ty := 22) rfl ?_); first | (with_reducible refine (Stp.ldo rfl agg22 rfl H (by assumption) (by assumption) ?_); simp only [pS]) | (with_reducible refine (Stp.ldc rfl agg22 rfl H mR cE ?_); simp only [pS])))
      go_meet
      exact ⟨by rw [HS.out] <;> first | rfl | exact congrArg Value.bool (decide_eq_false (by omega)) | exact congrArg Value.bool (decide_eq_true (by omega)), H⟩
    have z3 : ((c.data.length : Int) == 0) = true := beq_iff_eq.2 (by omega)
    have HS : Hid (bareB c = true) := Lib.hid (by unfold bareB; simp [k0, k1, k2, k3])
    clear k0 k1 k2 k3
    go_wp2_with (first | (with_reducible refine wpl rfl (dQ 30 rfl ?_); with_reducible refine (Stp.build (v := (.agg #[.int .u16 0, .int .u32 0])) 30 rfl rfl (fun W => by kernel_rfl) ?_); simp only [pS]) | (with_reducible refine wpl rfl (ldQ (ty := 30) rfl ?_); first | (with_reducible refine (Stp.ldor rfl agg30 size30 rfl H (by assumption) sZ (by assumption) ?_); simp only [pS]) | (with_reducible refine (Stp.ldr rfl agg30 size30 rfl H mR sZ ?_); simp only [pS]) | (with_reducible refine (Stp.ldl rfl agg30 size30 rfl H mR (by simp) ?_); simp only [pS]; simp only [List.drop_succ_cons, List.drop_zero, List.take_succ_cons, List.take_zero])) | (with_reducible refine wpl rfl (ldQ (ty := 26) rfl ?_); first | (with_reducible refine (Stp.ldo rfl agg26 rfl H (by assumption) (by assumption) ?_); simp only [pS]) | (with_reducible refine (Stp.ldc rfl agg26 rfl H mR cE ?_); simp only [pS])) | (with_reducible refine wpl rfl (ldQ (ty := 22) rfl ?_); first | (with_reducible refine (Stp.ldo rfl agg22 rfl H (by assumption) (by assumption) ?_); simp only [pS]) | (with_reducible refine (Stp.ldc rfl agg22 rfl H mR cE ?_); simp only [pS])))
    go_meet
    exact ⟨by rw [HS.out] <;> first | rfl | exact congrArg Value.bool (decide_eq_false (by omega)) | exact congrArg Value.bool (decide_eq_true (by omega)), H⟩
  case rest =>
  obtain ⟨rfl, H2⟩ := hcut
  clear H
  have H := H2
  clear H2
  obtain ⟨nv, hnv⟩ : ∃ b, vSame c.v vw0 = b := ⟨_, rfl⟩
  have HNV := Lib.hid hnv
  obtain ⟨vb, hvb⟩ : ∃ b, vOk c.v = b := ⟨_, rfl⟩
  have HVB := Lib.hid hvb
  by_cases k1 : c.kind = 1
  · have i1 : (c.kind == 1) = true := by simp [k1]
    have hV := cErr1 k1
    rw [he, hnv] at hV
    cases hb : bareB c
    · rw [hb, Bool.false_and, if_neg (by decide)] at hV
      subst hV
      clear k1 hb hnv hvb he
      go_wp2_with (first | (with_reducible refine wpl rfl (ldQ (ty := 3) rfl ?_); first | (with_reducible refine (Stp.ldo rfl agg3 rfl H (by assumption) (by assumption) ?_); simp only [pS]) | (with_reducible refine (Stp.ldc rfl agg3 rfl H mR cE ?_); simp only [pS])))
      go_ret
      exact ⟨_, rfl, rfl, H.below⟩
    · cases nv
      · rw [hb] at hV
        have hV' : e = 1 := hV
        subst hV'
        clear k1 hb hnv hvb he hV
        go_wp2_with (first | (go_at_call 55; (with_reducible refine (rnone_is c.v _ _ _ _ _ _ _ _ HNV.out (hx2.grow H.below)).mono ?_); rintro e w1 ⟨v, rfl, hr⟩; obtain ⟨rfl, hb1⟩ := hr; replace H := H.grow hb1; clear hb1) | (with_reducible refine wpl rfl (ldQ (ty := 3) rfl ?_); first | (with_reducible refine (Stp.ldo rfl agg3 rfl H (by assumption) (by assumption) ?_); simp only [pS]) | (with_reducible refine (Stp.ldc rfl agg3 rfl H mR cE ?_); simp only [pS])) | (with_reducible refine wpl rfl (ldQ (ty := 34) rfl ?_); first | (with_reducible refine (Stp.ldor rfl agg34 size34 rfl H (by assumption) sZ (by assumption) ?_); simp only [pS]) | (with_reducible refine (Stp.ldr rfl agg34 size34 rfl H mR sZ ?_); simp only [pS]) | (with_reducible refine (Stp.ldl rfl agg34 size34 rfl H mR (by simp) ?_); simp only [pS]; simp only [List.drop_succ_cons, List.drop_zero, List.take_succ_cons, List.take_zero])))
        go_ret
        exact ⟨_, rfl, rfl, H.below⟩
      · rw [hb] at hV
        have hV' : e = 0 := hV
        subst hV'
        clear k1 hb hnv hvb he hV
        go_wp2_with (first | (go_at_call 55; (with_reducible refine (rnone_is c.v _ _ _ _ _ _ _ _ HNV.out (hx2.grow H.below)).mono ?_); rintro e w1 ⟨v, rfl, hr⟩; obtain ⟨rfl, hb1⟩ := hr; replace H := H.grow hb1; clear hb1) | (with_reducible refine wpl rfl (ldQ (ty := 3) rfl ?_); first | (with_reducible refine (Stp.ldo rfl agg3 rfl H (by assumption) (by assumption) ?_); simp only [pS]) | (with_reducible refine (Stp.ldc rfl agg3 rfl H mR cE ?_); simp only [pS])) | (with_reducible refine wpl rfl (ldQ (ty := 34) rfl ?_); first | (with_reducible refine (Stp.ldor rfl agg34 size34 rfl H (by assumption) sZ (by assumption) ?_); simp only [pS]) | (with_reducible refine (Stp.ldr rfl agg34 size34 rfl H mR sZ ?_); simp only [pS]) | (with_reducible refine (Stp.ldl rfl agg34 size34 rfl H mR (by simp) ?_); simp only [pS]; simp only [List.drop_succ_cons, List.drop_zero, List.take_succ_cons, List.take_zero])))
        go_ret
        exact ⟨_, rfl, rfl, H.below⟩
  have i1 : (c.kind == 1) = false := by simp [k1]
  by_cases k2 : c.kind = 2
  · have i2 : (c.kind == 2) = true := by simp [k2]
    have hV := cErr2 k2
    rw [he, hnv] at hV
    cases hb : sentB c
    · rw [hb, Bool.false_and, if_neg (by decide)] at hV
      subst hV
      clear k1 k2 hb hnv hvb he
      go_wp2_with (first | (with_reducible refine wpl rfl (ldQ (ty := 3) rfl ?_); first | (with_reducible refine (Stp.ldo rfl agg3 rfl H (by assumption) (by assumption) ?_); simp only [pS]) | (with_reducible refine (Stp.ldc rfl agg3 rfl H mR cE ?_); simp only [pS])))
      go_ret
      exact ⟨_, rfl, rfl, H.below⟩
    · cases nv
      · rw [hb] at hV
        have hV' : e = 1 := hV
        subst hV'
        clear k1 k2 hb hnv hvb he hV
        go_wp2_with (first | (go_at_call 55; (with_reducible refine (rnone_is c.v _ _ _ _ _ _ _ _ HNV.out (hx2.grow H.below)).mono ?_); rintro e w1 ⟨v, rfl, hr⟩; obtain ⟨rfl, hb1⟩ := hr; replace H := H.grow hb1; clear hb1) | (with_reducible refine wpl rfl (ldQ (ty := 3) rfl ?_); first | (with_reducible refine (Stp.ldo rfl agg3 rfl H (by assumption) (by assumption) ?_); simp only [pS]) | (with_reducible refine (Stp.ldc rfl agg3 rfl H mR cE ?_); simp only [pS])) | (with_reducible refine wpl rfl (ldQ (ty := 34) rfl ?_); first | (with_reducible refine (Stp.ldor rfl agg34 size34 rfl H (by assumption) sZ (by assumption) ?_); simp only [pS]) | (with_reducible refine (Stp.ldr rfl agg34 size34 rfl H mR sZ ?_); simp only [pS]) | (with_reducible refine (Stp.ldl rfl agg34 size34 rfl H mR (by simp) ?_); simp only [pS]; simp only [List.drop_succ_cons, List.drop_zero, List.take_succ_cons, List.take_zero])))
        go_ret
        exact ⟨_, rfl, rfl, H.below⟩
      · rw [hb] at hV
        have hV' : e = if 200 < c.data.length then 14 else 0 := hV
        by_cases hd : 200 < c.data.length
        · rw [if_pos hd] at hV'
          have zd : (200 : Int) < (c.data.length : Int) := by omega
          subst hV'
          clear k1 k2 hb hnv hvb he hV hd
          go_wp2_with (first | (go_at_call 55; (with_reducible refine (rnone_is c.v _ _ _ _ _ _ _ _ HNV.out (hx2.grow H.below)).mono ?_); rintro e w1 ⟨v, rfl, hr⟩; obtain ⟨rfl, hb1⟩ := hr; replace H := H.grow hb1; clear hb1) | (with_reducible refine wpl rfl (ldQ (ty := 22) rfl ?_); first | (with_reducible refine (Stp.ldo rfl agg22 rfl H (by assumption) (by assumption) ?_); simp only [pS]) | (with_reducible refine (Stp.ldc rfl agg22 rfl H mR cE ?_); simp only [pS])) | (with_reducible refine wpl rfl (ldQ (ty := 3) rfl ?_); first | (with_reducible refine (Stp.ldo rfl agg3 rfl H (by assumption) (by assumption) ?_); simp only [pS]) | (with_reducible refine (Stp.ldc rfl agg3 rfl H mR cE ?_); simp only [pS])) | (with_reducible refine wpl rfl (ldQ (ty := 34) rfl ?_); first | (with_reducible refine (Stp.ldor rfl agg34 size34 rfl H (by assumption) sZ (by assumption) ?_); simp only [pS]) | (with_reducible refine (Stp.ldr rfl agg34 size34 rfl H mR sZ ?_); simp only [pS]) | (with_reducible refine (Stp.ldl rfl agg34 size34 rfl H mR (by simp) ?_); simp only [pS]; simp only [List.drop_succ_cons, List.drop_zero, List.take_succ_cons, List.take_zero])))
          go_ret
          exact ⟨_, rfl, rfl, H.below⟩
        · rw [if_neg hd] at hV'
          have zd : ¬ (200 : Int) < (c.data.length : Int) := by omega
          subst hV'
          clear k1 k2 hb hnv hvb he hV hd
          go_wp2_with (first | (go_at_call 55; (with_reducible refine (rnone_is c.v _ _ _ _ _ _ _ _ HNV.out (hx2.grow H.below)).mono ?_); rintro e w1 ⟨v, rfl, hr⟩; obtain ⟨rfl, hb1⟩ := hr; replace H := H.grow hb1; clear hb1) | (with_reducible refine wpl rfl (ldQ (ty := 22) rfl ?_); first | (with_reducible refine (Stp.ldo rfl agg22 rfl H (by assumption) (by assumption) ?_); simp only [pS]) | (with_reducible refine (Stp.ldc rfl agg22 rfl H mR cE ?_); simp only [pS])) | (with_reducible refine wpl rfl (ldQ (ty := 3) rfl ?_); first | (with_reducible refine (Stp.ldo rfl agg3 rfl H (by assumption) (by assumption) ?_); simp only [pS]) | (with_reducible refine (Stp.ldc rfl agg3 rfl H mR cE ?_); simp only [pS])) | (with_reducible refine wpl rfl (ldQ (ty := 34) rfl ?_); first | (with_reducible refine (Stp.ldor rfl agg34 size34 rfl H (by assumption) sZ (by assumption) ?_); simp only [pS]) | (with_reducible refine (Stp.ldr rfl agg34 size34 rfl H mR sZ ?_); simp only [pS]) | (with_reducible refine (Stp.ldl rfl agg34 size34 rfl H mR (by simp) ?_); simp only [pS]; simp only [List.drop_succ_cons, List.drop_zero, List.take_succ_cons, List.take_zero])))
          go_ret
          exact ⟨_, rfl, rfl, H.below⟩
  have i2 : (c.kind == 2) = false := by simp [k2]
  by_cases k3 : c.kind = 3
  · have i3 : (c.kind == 3) = true := by simp [k3]
    have hV := cErr3 k3
    rw [he, hvb] at hV
    cases hb : bareB c
    · rw [hb, Bool.false_and, if_neg (by decide)] at hV
      subst hV
      clear k1 k2 k3 hb hnv hvb he
      go_wp2_with (first | (with_reducible refine wpl rfl (ldQ (ty := 3) rfl ?_); first | (with_reducible refine (Stp.ldo rfl agg3 rfl H (by assumption) (by assumption) ?_); simp only [pS]) | (with_reducible refine (Stp.ldc rfl agg3 rfl H mR cE ?_); simp only [pS])))
      go_ret
      exact ⟨_, rfl, rfl, H.below⟩
    · cases vb
      · rw [hb] at hV
        have hV' : e = 1 := hV
        subst hV'
        clear k1 k2 k3 hb hnv hvb he hV
        go_wp2_with (first | (go_at_call 56; (with_reducible refine (rvcheck_is c.v _ _ _ _ _ _ hm _ _ HVB.out (hx2.grow H.below)).mono ?_); rintro e w1 ⟨v, rfl, hr⟩; obtain ⟨rfl, hb1⟩ := hr; replace H := H.grow hb1; clear hb1) | (with_reducible refine wpl rfl (ldQ (ty := 3) rfl ?_); first | (with_reducible refine (Stp.ldo rfl agg3 rfl H (by assumption) (by assumption) ?_); simp only [pS]) | (with_reducible refine (Stp.ldc rfl agg3 rfl H mR cE ?_); simp only [pS])) | (with_reducible refine wpl rfl (ldQ (ty := 34) rfl ?_); first | (with_reducible refine (Stp.ldor rfl agg34 size34 rfl H (by assumption) sZ (by assumption) ?_); simp only [pS]) | (with_reducible refine (Stp.ldr rfl agg34 size34 rfl H mR sZ ?_); simp only [pS]) | (with_reducible refine (Stp.ldl rfl agg34 size34 rfl H mR (by simp) ?_); simp only [pS]; simp only [List.drop_succ_cons, List.drop_zero, List.take_succ_cons, List.take_zero])))
        go_ret
        exact ⟨_, rfl, rfl, H.below⟩
      · rw [hb] at hV
        have hV' : e = 0 := hV
        subst hV'
        clear k1 k2 k3 hb hnv hvb he hV
        go_wp2_with (first | (go_at_call 56; (with_reducible refine (rvcheck_is c.v _ _ _ _ _ _ hm _ _ HVB.out (hx2.grow H.below)).mono ?_); rintro e w1 ⟨v, rfl, hr⟩; obtain ⟨rfl, hb1⟩ := hr; replace H := H.grow hb1; clear hb1) | (with_reducible refine wpl rfl (ldQ (ty := 3) rfl ?_); first | (with_reducible refine (Stp.ldo rfl agg3 rfl H (by assumption) (by assumption) ?_); simp only [pS]) | (with_reducible refine (Stp.ldc rfl agg3 rfl H mR cE ?_); simp only [pS])) | (with_reducible refine wpl rfl (ldQ (ty := 34) rfl ?_); first | (with_reducible refine (Stp.ldor rfl agg34 size34 rfl H (by assumption) sZ (by assumption) ?_); simp only [pS]) | (with_reducible refine (Stp.ldr rfl agg34 size34 rfl H mR sZ ?_); simp only [pS]) | (with_reducible refine (Stp.ldl rfl agg34 size34 rfl H mR (by simp) ?_); simp only [pS]; simp only [List.drop_succ_cons, List.drop_zero, List.take_succ_cons, List.take_zero])))
        go_ret
        exact ⟨_, rfl, rfl, H.below⟩
  have i3 : (c.kind == 3) = false := by simp [k3]
  have hV := cErr0 k1 k2 k3
  rw [he] at hV
  subst hV
  clear k1 k2 k3 hnv hvb he
  go_wp2_with (first | (with_reducible refine wpl rfl (ldQ (ty := 3) rfl ?_); first | (with_reducible refine (Stp.ldo rfl agg3 rfl H (by assumption) (by assumption) ?_); simp only [pS]) | (with_reducible refine (Stp.ldc rfl agg3 rfl H mR cE ?_); simp only [pS])))
  go_ret
  exact ⟨_, rfl, rfl, H.below⟩
end Go.Proofs.Ytmokecicjmjkbaa
namespace Go.Proofs.Ytmokecicjmjkbaa
set_option linter.unusedVariables false
set_option linter.unusedSimpArgs false
theorem numF_stop {most : Nat} {s : Rs} (h : (numF most s).2.2 ≠ 0) : (numF most s).1 = 0 := by
  unfold numF at h ⊢
  split
  · rfl
  · rename_i h1
    rw [if_neg h1] at h
    split
    · rfl
    · rename_i h2
      rw [if_neg h2] at h
      split
      · rfl
      · rename_i h3
        rw [if_neg h3] at h
        exact absurd rfl h
theorem cmsL_go {n : Nat} {acc : List Cm} {l : List Nat} : cmsL (n + 1) (acc, (l, 0)) = cmsL n (acc ++ [(cmF (l, 0)).1], (cmF (l, 0)).2) := if_neg (fun h => h rfl)
theorem cmsL_stop {n : Nat} {a : List Cm × Rs} (h : a.2.2 ≠ 0) : cmsL n a = a := by
  cases n with
  | zero => rfl
  | succ n => exact if_pos h
theorem cmsL_zero {a : List Cm × Rs} : cmsL 0 a = a := rfl
theorem lgF_of {l l1 l2 l4 : List Nat} {a n e1 e2 e4 : Nat} {cs : List Cm} (h1 : numF 4611686018427387904 (l, 0) = (a, (l1, e1))) (h2 : numF 64 (l1, e1) = (n, (l2, e2))) (hn : ¬ a < n) (h4 : cmsL n ([], (l2, e2)) = (cs, (l4, e4))) :
    lgF l = if endF (l4, e4) ≠ 0 then ((0, []), endF (l4, e4)) else ((a, cs), 0) := by
  have hR : lgR l = ((a, cs), (l4, e4)) := by
    unfold lgR
    simp only
    rw [h1]
    simp only
    rw [h2]
    simp only
    rw [if_neg (fun h => hn h.2), h4]
  unfold lgF
  simp only
  rw [hR]
theorem lgF_ahead {l l1 l2 : List Nat} {a n e1 : Nat} (h1 : numF 4611686018427387904 (l, 0) = (a, (l1, e1))) (h2 : numF 64 (l1, e1) = (n, (l2, 0))) (hn : a < n) :
    lgF l = ((0, []), 5) := by
  have hR : (lgR l).2 = (l2, 5) := by
    unfold lgR
    simp only
    rw [h1]
    simp only
    rw [h2]
    simp only
    rw [if_pos (by simp [hn]), cmsL_stop (by simp)]
  unfold lgF
  simp only
  rw [hR]
  unfold endF
  simp
end Go.Proofs.Ytmokecicjmjkbaa
namespace Go.Proofs.Ytmokecicjmjkbaa
open Go.ChangeShapes Go.WideShapes Go.ChangeAt Go.RowKit
set_option linter.unusedVariables false
set_option linter.unusedSimpArgs false
/-- The slice v of n elements is nil, or lies in a row of which nobody else knows, from some place on. -/
def OwnsOff (w : World) (e : TypeId) (size : Nat) (v : Value) (n : Nat) (xs : List Value) : Prop :=
  xs.length = n * size ∧ ((v = .slice none 0 0 ∧ n = 0) ∨ ∃ g off cap cur, v = .slice (some ⟨g, off, none⟩) n cap ∧ w.heap[g]? = some (.cells cur e (0, 0)) ∧ n ≤ cap ∧ cap ≤ maxLen ∧ off + cap * size ≤ cur.size ∧ (cur.toList.drop off).take (n * size) = xs)
def slo (e : TypeId) (size : Nat) (v : Value) (n : Nat) (xs : List Value) : Res := (fun k => v.ownBlock = some k, fun w => OwnsOff w e size v n xs)
theorem slo_loc (e : TypeId) (size : Nat) (v : Value) (n : Nat) (xs : List Value) : Loc (slo e size v n xs) := fun w1 w2 hb h => by
  refine ⟨h.1, ?_⟩
  rcases h.2 with h2 | ⟨g, off, cap, cur, rfl, h3, r⟩
  · exact .inl h2
  · exact .inr ⟨g, off, cap, cur, rfl, (hb g rfl).trans h3, r⟩
theorem slo_sound {w : World} {e : TypeId} {size : Nat} {v : Value} {n : Nat} {xs : List Value} (h : OwnsOff w e size v n xs) : Sound (slo e size v n xs) w :=
  ⟨h, fun k hk => by
    rcases h.2 with ⟨rfl, _⟩ | ⟨g, off, cap, cur, rfl, h3, _⟩
    · cases hk
    · cases hk; exact rowAt_lt (rowAt_of h3), slo_loc _ _ _ _ _⟩
theorem OwnsOff.of_own {w : World} {b : Nat} {e : TypeId} {size : Nat} {v : Value} {n : Nat} {xs : List Value} (h : w.ownsRow b e size v n xs) : OwnsOff w e size v n xs := by
  refine ⟨h.1, ?_⟩
  rcases h.2 with h2 | ⟨g, cap, cur, rfl, _, h3, h4, h5, h6, h7⟩
  · exact .inl h2
  · exact .inr ⟨g, 0, cap, cur, rfl, h3, h4, h5, by omega, by simpa using h7⟩
section
variable {B : Nat} {w0 w : World} {L : List Res} {e : TypeId} {size n c g off : Nat} {a : Option Addr} {xs : List Value}
theorem St.nilo (e : TypeId) (size : Nat) (H : St B w0 w L) : St B w0 w (slo e size (.slice none 0 0) 0 [] :: L) :=
  H.new (Below.refl _ _) (slo_sound ⟨by simp, .inl ⟨rfl, rfl⟩⟩) (fun g hg => by cases hg)
theorem St.slo_addr (H : St B w0 w L) (hm : slo e size (.slice a n c) n xs ∈ L) (hn : 0 < n) : ∃ g off, a = some ⟨g, off, none⟩ := by
  rcases (H.get hm).2 with ⟨_, h0⟩ | ⟨g, off, cap, cur, hv, _⟩
  · omega
  · injection hv with e1 _ _
    exact ⟨g, off, e1⟩
theorem St.slo_cap (H : St B w0 w L) (hm : slo e size (.slice a n c) n xs ∈ L) : n ≤ c := by
  rcases (H.get hm).2 with ⟨_, h0⟩ | ⟨g, off, cap, cur, hv, _, h, _⟩
  · omega
  · injection hv with _ _ e1; omega
theorem St.slo_cell (H : St B w0 w L) (hm : slo e size (.slice (some ⟨g, off, none⟩) n c) n xs ∈ L) {j : Nat} {u : Value} (hj : xs[j]? = some u) : w.cell? ⟨g, off + j, none⟩ = some u := by
  have h := H.get hm
  rcases h.2 with ⟨hv, _⟩ | ⟨g', off', cap, cur, hv, h3, _, _, _, h7⟩
  · cases hv
  · injection hv with e1 _ _
    injection e1 with e1
    injection e1 with e1 e2
    subst e1 e2
    rw [cell_of_rowAt (rowAt_of h3)]
    have hl : j < n * size := by
      have h1 : xs.length = n * size := h.1
      rw [← h1]; exact (List.getElem?_eq_some_iff.1 hj).1
    rw [← h7, List.getElem?_take, if_pos hl, List.getElem?_drop] at hj
    simpa using hj
/-- v[k:]. -/
theorem OwnsOff.drop {w : World} {e : TypeId} {size n c k : Nat} {a a' : Option Addr} {xs : List Value} (h : OwnsOff w e size (.slice a n c) n xs) (hk : k ≤ n) (ha : a' = if c = k then a else a.map (·.add (k * size))) : OwnsOff w e size (.slice a' (n - k) (c - k)) (n - k) (xs.drop (k * size)) := by
  refine ⟨by rw [List.length_drop, h.1, Nat.sub_mul], ?_⟩
  rcases h.2 with ⟨hv, h0⟩ | ⟨g, off, cap, cur, hv, h3, h4, h5, h6, h7⟩
  · injection hv with e1 e2 e3
    obtain rfl : k = 0 := by omega
    subst e1 e3
    refine .inl ⟨?_, by omega⟩
    rw [ha, h0]; simp
  · injection hv with e1 e2 e3
    subst e1 e3
    have hks : k * size ≤ n * size := Nat.mul_le_mul_right _ hk
    have hcs : n * size ≤ c * size := Nat.mul_le_mul_right _ h4
    by_cases hc : c = k
    · rw [if_pos hc] at ha
      refine .inr ⟨g, off, c - k, cur, by rw [ha], h3, by omega, by omega, ?_, ?_⟩
      · have : (c - k) * size ≤ c * size := Nat.mul_le_mul_right _ (Nat.sub_le _ _)
        omega
      · have : n - k = 0 := by omega
        have h1 : xs.length = n * size := h.1
        rw [this, Nat.zero_mul, List.take_zero, List.drop_eq_nil_of_le (by rw [h1]; exact Nat.mul_le_mul_right _ (by omega))]
    · rw [if_neg hc] at ha
      refine .inr ⟨g, off + k * size, c - k, cur, ?_, h3, by omega, by omega, ?_, ?_⟩
      · rw [ha]
        simp only [Option.map_some]
        congr 2
        unfold Addr.add; split <;> simp_all
      · have : (c - k) * size = c * size - k * size := Nat.sub_mul _ _ _
        omega
      · rw [← h7, List.drop_take, List.drop_drop, Nat.sub_mul]
theorem St.slo_drop {L' : List Res} {k : Nat} {a' : Option Addr} (H : St B w0 w L) (hu : Upd L (slo e size (.slice a n c) n xs) (slo e size (.slice a' (n - k) (c - k)) (n - k) (xs.drop (k * size))) L') (hk : k ≤ n) (ha : a' = if c = k then a else a.map (·.add (k * size))) : St B w0 w L' :=
  H.upd hu ⟨rfl, rfl, rfl, Nat.le_refl _, fun _ _ _ => rfl⟩ (slo_sound ((H.get hu.mem).drop hk ha)) (fun g hg => by
    refine .inl ?_
    show (Value.slice a n c).ownBlock = some g
    have hg' : (Value.slice a' (n - k) (c - k)).ownBlock = some g := hg
    rw [ha] at hg'
    split at hg'
    · cases a with
      | none => cases hg'
      | some x => exact hg'
    · cases a with
      | none => cases hg'
      | some x =>
        have : (x.add (k * size)).block = x.block := by unfold Addr.add; split <;> rfl
        simp only [Option.map_some, Value.ownBlock, this] at hg' ⊢
        exact hg')
end
section
variable {P : Program} {ops : Array Oper} {a : Act} {w : World} {o : Oper} {N : Act → World → Prop} {B : Nat} {w0 : World} {L : List Res} {ty e : TypeId} {x y : Operand} {g off d size n c k : Nat} {xs : List Value}
/-- Some cells of it, as a struct. -/
theorem Stp.loa {cs : Array Value} (ho : o.op = .load ty x) (hagg : ∀ W : World, (isAgg ty).run P W = .ok true W) (hs : ∀ W : World, (sizeOf ty).run P W = .ok k W) (hx : a.eval x = .pointer (some ⟨g, off + d, none⟩)) (H : St B w0 w L)
    (hm : slo e size (.slice (some ⟨g, off, none⟩) n c) n xs ∈ L) (hc : ∀ j, j < k → xs[d + j]? = cs[j]?) (hk : cs.size = k) (h : N (a.put o.dst (.agg cs)) w) : Stp P o a w N := by
  refine ⟨w, .inl ⟨_, ?_, h⟩⟩
  subst hk
  have hc' : ∀ j, j < cs.size → w.cell? ⟨g, off + d + j, none⟩ = cs[j]? := fun j hj => by
    rw [Array.getElem?_eq_getElem hj, Nat.add_assoc]
    exact H.slo_cell hm (by rw [hc j hj, Array.getElem?_eq_getElem hj])
  unfold execOp; simp only [ho, hx, Instr.loadAt, Instr.sureAddr]
  simp [run_load_range hc' hagg hs]
theorem Yld.loa {cs : Array Value} (hw : Region.wanted o (yielded ops a.tmps) = true) (ho : o.op = .load ty x) (hagg : ∀ W : World, (isAgg ty).run P W = .ok true W) (hs : ∀ W : World, (sizeOf ty).run P W = .ok k W) (hx : a.eval x = .pointer (some ⟨g, off + d, none⟩))
    (hm : slo e size (.slice (some ⟨g, off, none⟩) n c) n xs ∈ L) (hc : ∀ j, j < k → xs[d + j]? = cs[j]?) (hk : cs.size = k) : YieldsIf P ops (fun W => St B w0 W L) o (.agg cs) a :=
  .inl ⟨hw, fun W H => by
    subst hk
    have hc' : ∀ j, j < cs.size → W.cell? ⟨g, off + d + j, none⟩ = cs[j]? := fun j hj => by
      rw [Array.getElem?_eq_getElem hj, Nat.add_assoc]
      exact H.slo_cell hm (by rw [hc j hj, Array.getElem?_eq_getElem hj])
    unfold execOp; simp only [ho, hx, Instr.loadAt, Instr.sureAddr]
    simp [run_load_range hc' hagg hs]⟩
/-- v[k:], of elements of any size. -/
theorem run_fromN {A : Option Addr} {kd : IntKind} (ht : P.underlying ty = some (.slice e)) (hs : ∀ W : World, (sizeOf e).run P W = .ok size W) (hk : k ≤ n) (W : World) :
    (Instr.slice ty (.slice A n c) (some (.int kd (k : Int))) none none).run P W = .ok (.slice (if c = k then A else A.map (·.add (k * size))) (n - k) (c - k)) W := by
  simp [Instr.slice, Instr.sliceBounds, Instr.sliceBound, asIntOf, run_underlying ht, hs, hk]
theorem Stp.slfromN {A : Option Addr} {kd : IntKind} {z : Int} (d : Tmp) (hd : o.dst = some d) (ho : o.op = .slice ty x (some y) none none) (ht : P.underlying ty = some (.slice e)) (hs : ∀ W : World, (sizeOf e).run P W = .ok size W)
    (hx : a.eval x = .slice A n c) (hy : a.eval y = .int kd z) (hz : z = (k : Int)) (hk : k ≤ n) (h : ∀ A', A' = (if c = k then A else A.map (·.add (k * size))) → N (a.put (some d) (.slice A' (n - k) (c - k))) w) : Stp P o a w N := by
  rw [← hd] at h
  subst hz
  refine ⟨w, .inl ⟨_, ?_, h _ rfl⟩⟩
  unfold execOp; simp only [ho]
  simp [hx, hy, Instr.sliceAt, run_underlying ht, run_fromN ht hs hk]
theorem slo_put {cap : Nat} {cur : Array Value} {news : List Value} {m : Nat} (hl : news.length = m * size) (hfit : off + cap * size ≤ cur.size) (hroom : n + m ≤ cap) (ht : (cur.toList.drop off).take (n * size) = xs) :
    ((cur.toList.take (off + n * size) ++ news ++ cur.toList.drop (off + n * size + news.length)).drop off).take ((n + m) * size) = xs ++ news := by
  have hcl : cur.toList.length = cur.size := by simp
  have hle : (n + m) * size ≤ cap * size := Nat.mul_le_mul_right _ hroom
  have hadd : (n + m) * size = n * size + m * size := Nat.add_mul _ _ _
  rw [List.append_assoc, List.drop_append, List.drop_take, Nat.add_sub_cancel_left, List.length_take, hcl]
  rw [show off - min (off + n * size) cur.size = 0 by omega, List.drop_zero, ht, hadd]
  have hxl : xs.length = n * size := by rw [← ht, List.length_take, List.length_drop, hcl]; omega
  rw [List.take_append, List.take_of_length_le (by omega), hxl, Nat.add_sub_cancel_left, List.take_append, List.take_of_length_le (by omega), hl, Nat.sub_self, List.take_zero, List.append_nil]
theorem run_append_off {t e : TypeId} {i : TypeInfo} (ht : P.underlying t = some (.slice e)) (hi : P.info? e = some i) (g off sLen sCap : Nat) (cur : Array Value) (hg : w.heap[g]? = some (.cells cur e (0, 0)))
    (ad : Addr) (m c : Nat) (news : List Value) (hl : news.length = m * i.size) (hnews : ∀ j u, news[j]? = some u → w.cell? (ad.add j) = some u) (h1 : ∀ u ∈ news, u.oneCell' = true)
    (hroom : sLen + m ≤ sCap) (hfit : off + sLen * i.size + news.length ≤ cur.size) :
    (Builtin.append_ #[t, t] ty #[.slice (some ⟨g, off, none⟩) sLen sCap, .slice (some ad) m c]).run P w =
      .ok (.slice (some ⟨g, off, none⟩) (sLen + m) sCap) (w.setRow g (cur.toList.take (off + sLen * i.size) ++ news ++ cur.toList.drop (off + sLen * i.size + news.length)).toArray) := by
  have hf := run_firstCells_some (P := P) w i.size m ad m c news hl hnews
  have hst := run_storeCells_at P g (off + sLen * i.size) e news 0 cur w hg (by simpa using hfit) h1
  simp only [Nat.add_zero] at hst
  simp [Builtin.append_, run_underlying ht, sizeOf, typeInfo, hi, Builtin.lenOf, hroom, hf, Addr.add_lit, hst]
/-- append of m elements onto it. -/
theorem Stp.appo {L' : Value → List Res} {z : Value} {bytes : Nat} {s : Operand} {va : Option Addr} {vc : Nat} {ad : Addr} {m : Nat} {news : List Value} (d : Tmp) (hd : o.dst = some d)
    (ho : o.op = .call { callee := .builtin .append, args := #[s, x], argTypes := #[ty, ty] }) (ht : P.underlying ty = some (.slice e)) (hi : (P.info? e).map (fun i => (i.zero, i.size, i.bytes)) = some (some z, size, bytes)) (hzs : z.cells.size = size) (hsz : 0 < size)
    (hs : a.eval s = .slice va n vc) (hx : a.eval x = .slice (some ad) m c) (H : St B w0 w L) (hu : ∀ v', Upd L (slo e size (.slice va n vc) n xs) (slo e size v' (n + m) (xs ++ news)) (L' v')) (hl : news.length = m * size) (hm0 : 0 < m) (hnews : ∀ j u, news[j]? = some u → w.cell? (ad.add j) = some u) (h1 : ∀ u ∈ news, u.oneCell' = true)
    (h63 : n + m ≤ maxLen) (hbytes : (n + m) * bytes ≤ 140737488355328)
    (h : ∀ ap cp w', St B w0 w' (L' (.slice ap (n + m) cp)) → N (a.put (some d) (.slice ap (n + m) cp)) w') : Stp P o a w N := by
  rw [← hd] at h
  obtain ⟨i, hi1, hi2, hi3, hi4⟩ := info_parts hi
  subst hi3 hi4
  have hown : OwnsOff w e i.size (.slice va n vc) n xs := H.get (hu (.slice va n vc)).mem
  have hsmall : n + m ≤ 9223372036854775807 := by simp only [maxLen] at h63; omega
  have hxn : (xs ++ news).length = (n + m) * i.size := by rw [List.length_append, hown.1, hl, Nat.add_mul]
  have fin : ∀ ap cp w', (Builtin.append_ #[ty, ty] o.type #[.slice va n vc, .slice (some ad) m c]).run P w = .ok (.slice ap (n + m) cp) w' → Grew (fun k => (Value.slice va n vc).ownBlock = some k) w w' → OwnsOff w' e i.size (.slice ap (n + m) cp) (n + m) (xs ++ news) → (∀ g, (Value.slice ap (n + m) cp).ownBlock = some g → (Value.slice va n vc).ownBlock = some g ∨ w.heap.size ≤ g) → Stp P o a w N := by
    intro ap cp w' hr hg hO hb
    refine ⟨w', .inl ⟨_, ?_, h ap cp w' (H.upd (hu _) hg (slo_sound hO) hb)⟩⟩
    unfold execOp
    simp only [ho, resolve, invoke, builtin, Sem.run_bind, Sem.run_pure, Result.andThen_ok, List.map_toArray, List.map_cons, List.map_nil, hs, hx, hr]
  have hgd : ∀ (cs : Array Value), Grew (fun k => (Value.slice va n vc).ownBlock = some k) w (w.drew.alloc (.cells cs e)) := fun cs => Grew.of_below (((Below.refl _ _).drew).alloc (by simp) _)
  rcases hown.2 with ⟨hv, h0⟩ | ⟨g, off, cap, cur, hv, h3, h4, h5, h6, h7⟩
  · injection hv with e1 _ e3
    subst e1 e3 h0
    have hxs : xs = [] := List.eq_nil_of_length_eq_zero (by simpa using hown.1)
    subst hxs
    have hr := run_append_nil (P := P) w ty o.type e i z ht hi1 hi2 ad m c news hl hnews (by omega) (by omega) (by simp only [Nat.zero_add] at hbytes; omega)
    have hge := grownCap_ge w m 0 e
    rw [Nat.zero_add] at *
    refine fin _ _ _ hr (hgd _) ⟨hxn, .inr ⟨w.heap.size, 0, _, _, rfl, heap_alloc_new _ _, hge, grownCap_le_maxLen w m 0 e (by omega), ?_, ?_⟩⟩ (fun g hg => .inr (by cases hg; exact Nat.le_refl _))
    · simp only [Array.size_append, size_zeroCells, hzs, List.size_toArray, hl]
      rw [Nat.zero_add, ← Nat.add_mul]
      exact Nat.mul_le_mul_right _ (by omega)
    · simp [hl]
  · injection hv with e1 _ e3
    subst e1 e3
    by_cases hroom : n + m ≤ vc
    · have hfit : off + n * i.size + news.length ≤ cur.size := by
        have := Nat.mul_le_mul_right i.size hroom
        rw [Nat.add_mul] at this
        omega
      have hr := run_append_off (P := P) (ty := o.type) ht hi1 g off n vc cur h3 ad m c news hl hnews h1 hroom hfit
      refine fin _ _ _ hr (grownBy_setRow w g _) ⟨hxn, .inr ⟨g, off, vc, _, rfl, setRow_heap w g cur _ e _ h3, hroom, h5, ?_, slo_put hl h6 hroom h7⟩⟩ (fun g hg => .inl hg)
      simp only [List.size_toArray, List.length_append, List.length_take, List.length_drop, Array.length_toList]
      omega
    · have holds : ∀ j u, xs[j]? = some u → w.cell? ((⟨g, off, none⟩ : Addr).add j) = some u := fun j u hj => by
        have hadd : (⟨g, off, none⟩ : Addr).add j = ⟨g, off + j, none⟩ := by unfold Addr.add; split <;> simp_all
        rw [hadd]
        exact H.slo_cell (hu (.slice (some ⟨g, off, none⟩) n vc)).mem hj
      have hr := run_append_grow (P := P) w ty o.type e i z ht hi1 hi2 ⟨g, off, none⟩ n vc xs hown.1 holds ad m c news hl hnews (by omega) (by omega) (growslice_fits (by omega) hbytes)
      have hge := grownCap_ge w (n + m) vc e
      refine fin _ _ _ hr (hgd _) ⟨hxn, .inr ⟨w.heap.size, 0, _, _, rfl, heap_alloc_new _ _, hge, grownCap_le_maxLen w (n + m) vc e h63, ?_, ?_⟩⟩ (fun g hg => .inr (by cases hg; exact Nat.le_refl _))
      · simp only [Array.size_append, size_zeroCells, hzs, List.size_toArray, hl, hown.1]
        rw [Nat.zero_add, ← Nat.add_mul, ← Nat.add_mul]
        exact Nat.mul_le_mul_right _ (by omega)
      · simp only [List.drop_zero, Array.toList_append, List.toList_toArray]
        rw [List.take_append_of_le_length (by rw [hxn]; exact Nat.le_refl _), List.take_of_length_le (by rw [hxn]; exact Nat.le_refl _)]
end
end Go.Proofs.Ytmokecicjmjkbaa
