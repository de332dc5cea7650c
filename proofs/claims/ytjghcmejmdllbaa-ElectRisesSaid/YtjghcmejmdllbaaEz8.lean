/- The contract of layer 9's Check (cmd): what it answers; the bounds stand in it. Contracts of the reference's At (choragusref08); no condition. Processes, leaves, views and commands that came in, opened by their cells; no condition. -/
import Derived.Test.YtjghcmejmdllbaaEz4
import Derived.Test.YtjghcmejmdllbaaEz5
import Derived.Test.YtjghcmejmdllbaaEz7
namespace Go.Proofs.Ytjghcmejmdllbaa
open Go.ChangeShapes Go.WideShapes Go.ChangeAt Go.RowKit Go.Maps
set_option linter.unusedVariables false
set_option linter.unusedSimpArgs false
def cnt (n : Nat) : Bool := decide (1 ≤ n) && decide (n ≤ 4611686018427387904)
/-- What a command of that kind has besides its kind. -/
def only (c : Cm) : Cm := if c.kind = 2 then ⟨c.kind, c.fr, c.num, c.vw, c.data, vw0⟩ else if c.kind = 3 then ⟨c.kind, (0, 0), 0, 0, [], c.v⟩ else ⟨c.kind, (0, 0), 0, 0, [], vw0⟩
def kindOk (c : Cm) : Bool := decide (c.kind = 1) || (decide (c.kind = 2) && may c.fr.1 c.fr.2 && cnt c.num && cnt c.vw) || (decide (c.kind = 3) && vOk c.v)
def cErr (c : Cm) : Int := if kindOk c = true then (if cSame c (only c) = true then (if 200 < c.data.length then 14 else 0) else 1) else 1
theorem counted_ok (n : Nat) (b : Bool) (hb : cnt n = b) (w : World) : Calls Try.prog 100 #[.int .u64 (n : Int)] w (Ret fun v w' => v = .bool b ∧ Below w.heap.size w w') := by
  have H := St.init w
  subst hb
  unfold cnt
  by_cases h1 : 1 ≤ n
  · have h1i : (1 : Int) ≤ (n : Int) := by omega
    by_cases h2 : n ≤ 4611686018427387904
    · have h2i : (n : Int) ≤ 4611686018427387904 := by omega
      rw [decide_eq_true h1, decide_eq_true h2]
      clear h1 h2
      go_enter Try.func100, Try.ntmps100
      go_wp2_with fail
      go_ret
      exact ⟨_, rfl, rfl, H.below⟩
    · have h2i : ¬ (n : Int) ≤ 4611686018427387904 := by omega
      rw [decide_eq_true h1, decide_eq_false h2]
      clear h1 h2
      go_enter Try.func100, Try.ntmps100
      go_wp2_with fail
      go_ret
      exact ⟨_, rfl, rfl, H.below⟩
  · have h1i : ¬ (1 : Int) ≤ (n : Int) := by omega
    rw [decide_eq_false h1]
    clear h1
    go_enter Try.func100, Try.ntmps100
    go_wp2_with fail
    go_ret
    exact ⟨_, rfl, rfl, H.below⟩
theorem csame_is {G1 G2 : Nat → Prop} (c d : Cm) (b1 ma la da b2 mb lb db : Option Addr) (k1 mc lc dc k2 md ld dd : Nat) (wc : ∀ x ∈ c.data, x < 256) (wd : ∀ x ∈ d.data, x < 256) (w : World) (e : Bool)
    (hx : CmG G1 w (.slice b1 c.data.length k1) (.slice ma c.v.mem.length mc) (.slice la c.v.lvs.length lc) (.slice da c.v.ldr.length dc) c) (hy : CmG G2 w (.slice b2 d.data.length k2) (.slice mb d.v.mem.length md) (.slice lb d.v.lvs.length ld) (.slice db d.v.ldr.length dd) d) (he : cSame c d = e) :
    Calls Try.prog 101 #[.agg (cmC c b1 ma la da k1 mc lc dc), .agg (cmC d b2 mb lb db k2 md ld dd)] w (Ret fun v w' => v = .bool e ∧ Below w.heap.size w w') := by
  have := csame_ok c d b1 ma la da b2 mb lb db k1 mc lc dc k2 md ld dd wc wd w hx hy
  rw [he] at this
  exact this
theorem same1_ok {G1 : Nat → Prop} (c : Cm) (b1 ma la da : Option Addr) (k1 mc lc dc : Nat) (wc : ∀ x ∈ c.data, x < 256) (w : World) (e : Bool)
    (hx : CmG G1 w (.slice b1 c.data.length k1) (.slice ma c.v.mem.length mc) (.slice la c.v.lvs.length lc) (.slice da c.v.ldr.length dc) c) (he : cSame c ⟨c.kind, (0, 0), 0, 0, [], vw0⟩ = e) :
    Calls Try.prog 101 #[.agg (cmC c b1 ma la da k1 mc lc dc), .agg #[.int .i64 c.kind, .int .u16 0, .int .u32 0, .int .u64 0, .int .u64 0, .slice none 0 0, .int .u64 0, .slice none 0 0, .slice none 0 0, .slice none 0 0]] w (Ret fun v w' => v = .bool e ∧ Below w.heap.size w w') :=
  csame_is c ⟨c.kind, (0, 0), 0, 0, [], vw0⟩ b1 ma la da none none none none k1 mc lc dc 0 0 0 0 wc (by simp) w e hx (CmG.nil G1 w c.kind) he
theorem same2_ok {G1 : Nat → Prop} (c : Cm) (b1 ma la da : Option Addr) (k1 mc lc dc : Nat) (wc : ∀ x ∈ c.data, x < 256) (w : World) (e : Bool)
    (hx : CmG G1 w (.slice b1 c.data.length k1) (.slice ma c.v.mem.length mc) (.slice la c.v.lvs.length lc) (.slice da c.v.ldr.length dc) c) (he : cSame c ⟨c.kind, c.fr, c.num, c.vw, c.data, vw0⟩ = e) :
    Calls Try.prog 101 #[.agg (cmC c b1 ma la da k1 mc lc dc), .agg #[.int .i64 c.kind, .int .u16 (c.fr.1 : Int), .int .u32 (c.fr.2 : Int), .int .u64 (c.num : Int), .int .u64 (c.vw : Int), .slice b1 c.data.length k1, .int .u64 0, .slice none 0 0, .slice none 0 0, .slice none 0 0]] w (Ret fun v w' => v = .bool e ∧ Below w.heap.size w w') :=
  csame_is c ⟨c.kind, c.fr, c.num, c.vw, c.data, vw0⟩ b1 ma la da b1 none none none k1 mc lc dc k1 0 0 0 wc wc w e hx ⟨hx.1, VwG.nil G1 w 0⟩ he
theorem same3_ok {G1 : Nat → Prop} (c : Cm) (b1 ma la da : Option Addr) (k1 mc lc dc : Nat) (wc : ∀ x ∈ c.data, x < 256) (w : World) (e : Bool)
    (hx : CmG G1 w (.slice b1 c.data.length k1) (.slice ma c.v.mem.length mc) (.slice la c.v.lvs.length lc) (.slice da c.v.ldr.length dc) c) (he : cSame c ⟨c.kind, (0, 0), 0, 0, [], c.v⟩ = e) :
    Calls Try.prog 101 #[.agg (cmC c b1 ma la da k1 mc lc dc), .agg #[.int .i64 c.kind, .int .u16 0, .int .u32 0, .int .u64 0, .int .u64 0, .slice none 0 0, .int .u64 (c.v.id : Int), .slice ma c.v.mem.length mc, .slice la c.v.lvs.length lc, .slice da c.v.ldr.length dc]] w (Ret fun v w' => v = .bool e ∧ Below w.heap.size w w') :=
  csame_is c ⟨c.kind, (0, 0), 0, 0, [], c.v⟩ b1 ma la da none ma la da k1 mc lc dc 0 mc lc dc wc (by simp) w e hx ⟨SlG.nil _ _ _ _, hx.2⟩ he
attribute [local irreducible] cnt may vOk cSame
set_option maxRecDepth 100000 in
set_option maxHeartbeats 4000000 in
theorem ccheck_ok {G1 : Nat → Prop} (c : Cm) (ba ma la da : Option Addr) (bc mc lc dc : Nat) (hm : smV c.v) (hw : wfC c) (w : World)
    (hx : CmG G1 w (.slice ba c.data.length bc) (.slice ma c.v.mem.length mc) (.slice la c.v.lvs.length lc) (.slice da c.v.ldr.length dc) c) :
    Calls Try.prog 62 #[.agg (cmC c ba ma la da bc mc lc dc)] w (Ret fun v w' => v = .int .i64 (cErr c) ∧ Below w.heap.size w w') := by
  have H := St.init w
  have hx' := hx
  obtain ⟨hx1, hx2⟩ := hx'
  have WD := Lib.hid hw.data
  simp only [cmC]
  by_cases k1 : c.kind = 1
  · have i1 : (c.kind == 1) = true := by simp [k1]
    have hk : kindOk c = true := by unfold kindOk; simp [k1]
    have ho : only c = ⟨c.kind, (0, 0), 0, 0, [], vw0⟩ := by unfold only; simp [k1]
    clear k1
    cases hs : cSame c ⟨c.kind, (0, 0), 0, 0, [], vw0⟩
    · have HSM := Lib.hid hs
      have HV : Hid (cErr c = 1) := Lib.hid (by unfold cErr; simp [hk, ho, hs])
      clear hk ho hs
      go_enter Try.func62, Try.ntmps62
      go_wp2_with (first | (with_reducible refine wpl rfl (Stp.build (v := (.agg #[.int .i64 c.kind, .int .u16 0, .int .u32 0, .int .u64 0, .int .u64 0, .slice none 0 0, .int .u64 0, .slice none 0 0, .slice none 0 0, .slice none 0 0])) 6 rfl rfl (fun W => by kernel_rfl) ?_); simp only [pS]) | (go_at_call 101; (with_reducible refine (same1_ok c _ _ _ _ _ _ _ _ WD.out _ _ (hx.grow H.below) HSM.out).mono ?_); rintro e w1 ⟨v, rfl, hr⟩; obtain ⟨rfl, hb1⟩ := hr; replace H := H.grow hb1; clear hb1) | (with_reducible refine wpl rfl (Stp.box 1 rfl rfl rfl H ?_); clear H; intro g1 w1 H; simp only [pS]; simp only [pE, nC, pS] at H) | (with_reducible refine wpl rfl (Stp.ldc rfl agg3 rfl H mR cE ?_); simp only [pS]) | (with_reducible refine wpl rfl (Stp.alloc 3 rfl rfl zero43 H ?_); clear H; intro g3 w1 H; simp only [pS]; simp only [nC] at H) | (with_reducible refine wpl rfl (Stp.str rfl size43 rfl rfl (by first | rfl | (simp [Value.oneCell']; done) | assumption) H uP sZ sZ ?_); clear H; intro w1 H; simp only [pS]) | (with_reducible refine wpl rfl (Stp.ldr rfl agg43 size43 rfl H mR sZ ?_); simp only [pS]))
      go_ret
      exact ⟨_, rfl, by rw [HV.out]; rfl, H.below⟩
    · have HSM := Lib.hid hs
      by_cases hl : 200 < c.data.length
      · have HV : Hid (cErr c = 14) := Lib.hid (by unfold cErr; simp [hk, ho, hs, hl])
        have hli : (200 : Int) < (c.data.length : Int) := by omega
        clear hk ho hs
        go_enter Try.func62, Try.ntmps62
        go_wp2_with (first | (with_reducible refine wpl rfl (Stp.build (v := (.agg #[.int .i64 c.kind, .int .u16 0, .int .u32 0, .int .u64 0, .int .u64 0, .slice none 0 0, .int .u64 0, .slice none 0 0, .slice none 0 0, .slice none 0 0])) 6 rfl rfl (fun W => by kernel_rfl) ?_); simp only [pS]) | (go_at_call 101; (with_reducible refine (same1_ok c _ _ _ _ _ _ _ _ WD.out _ _ (hx.grow H.below) HSM.out).mono ?_); rintro e w1 ⟨v, rfl, hr⟩; obtain ⟨rfl, hb1⟩ := hr; replace H := H.grow hb1; clear hb1) | (with_reducible refine wpl rfl (Stp.box 1 rfl rfl rfl H ?_); clear H; intro g1 w1 H; simp only [pS]; simp only [pE, nC, pS] at H) | (with_reducible refine wpl rfl (Stp.ldc rfl agg3 rfl H mR cE ?_); simp only [pS]) | (with_reducible refine wpl rfl (Stp.alloc 3 rfl rfl zero43 H ?_); clear H; intro g3 w1 H; simp only [pS]; simp only [nC] at H) | (with_reducible refine wpl rfl (Stp.str rfl size43 rfl rfl (by first | rfl | (simp [Value.oneCell']; done) | assumption) H uP sZ sZ ?_); clear H; intro w1 H; simp only [pS]) | (with_reducible refine wpl rfl (Stp.ldr rfl agg43 size43 rfl H mR sZ ?_); simp only [pS]) | (with_reducible refine wpl rfl (Stp.ldc rfl agg37 rfl H mR cE ?_); simp only [pS]))
        go_ret
        exact ⟨_, rfl, by rw [HV.out]; rfl, H.below⟩
      · have HV : Hid (cErr c = 0) := Lib.hid (by unfold cErr; simp [hk, ho, hs]; omega)
        have hli : ¬ (200 : Int) < (c.data.length : Int) := by omega
        clear hk ho hs
        go_enter Try.func62, Try.ntmps62
        go_wp2_with (first | (with_reducible refine wpl rfl (Stp.build (v := (.agg #[.int .i64 c.kind, .int .u16 0, .int .u32 0, .int .u64 0, .int .u64 0, .slice none 0 0, .int .u64 0, .slice none 0 0, .slice none 0 0, .slice none 0 0])) 6 rfl rfl (fun W => by kernel_rfl) ?_); simp only [pS]) | (go_at_call 101; (with_reducible refine (same1_ok c _ _ _ _ _ _ _ _ WD.out _ _ (hx.grow H.below) HSM.out).mono ?_); rintro e w1 ⟨v, rfl, hr⟩; obtain ⟨rfl, hb1⟩ := hr; replace H := H.grow hb1; clear hb1) | (with_reducible refine wpl rfl (Stp.box 1 rfl rfl rfl H ?_); clear H; intro g1 w1 H; simp only [pS]; simp only [pE, nC, pS] at H) | (with_reducible refine wpl rfl (Stp.ldc rfl agg3 rfl H mR cE ?_); simp only [pS]) | (with_reducible refine wpl rfl (Stp.alloc 3 rfl rfl zero43 H ?_); clear H; intro g3 w1 H; simp only [pS]; simp only [nC] at H) | (with_reducible refine wpl rfl (Stp.str rfl size43 rfl rfl (by first | rfl | (simp [Value.oneCell']; done) | assumption) H uP sZ sZ ?_); clear H; intro w1 H; simp only [pS]) | (with_reducible refine wpl rfl (Stp.ldr rfl agg43 size43 rfl H mR sZ ?_); simp only [pS]) | (with_reducible refine wpl rfl (Stp.ldc rfl agg37 rfl H mR cE ?_); simp only [pS]))
        go_ret
        exact ⟨_, rfl, by rw [HV.out]; rfl, H.below⟩
  · have i1 : (c.kind == 1) = false := by simp [k1]
    by_cases k2 : c.kind = 2
    · have i2 : (c.kind == 2) = true := by simp [k2]
      have ho : only c = ⟨c.kind, c.fr, c.num, c.vw, c.data, vw0⟩ := by unfold only; simp [k2]
      cases hy : may c.fr.1 c.fr.2
      · have HY := Lib.hid hy
        have HV : Hid (cErr c = 1) := Lib.hid (by unfold cErr kindOk; simp [k2, hy])
        clear k1 k2 ho hy
        go_enter Try.func62, Try.ntmps62
        go_wp2_with (first | (with_reducible refine wpl rfl (Stp.build (v := (.agg #[.int .i64 c.kind, .int .u16 0, .int .u32 0, .int .u64 0, .int .u64 0, .slice none 0 0, .int .u64 0, .slice none 0 0, .slice none 0 0, .slice none 0 0])) 6 rfl rfl (fun W => by kernel_rfl) ?_); simp only [pS]) | (go_at_call 99; (with_reducible refine (may_ok c.fr.1 c.fr.2 _).mono ?_); rintro e w1 ⟨v, rfl, hr⟩; obtain ⟨rfl, hb1⟩ := hr; replace H := H.grow hb1; clear hb1; rw [HY.out]) | (with_reducible refine wpl rfl (Stp.box 1 rfl rfl rfl H ?_); clear H; intro g1 w1 H; simp only [pS]; simp only [pE, nC, pS] at H) | (with_reducible refine wpl rfl (Stp.ldc rfl agg3 rfl H mR cE ?_); simp only [pS]) | (with_reducible refine wpl rfl (Stp.alloc 3 rfl rfl zero43 H ?_); clear H; intro g3 w1 H; simp only [pS]; simp only [nC] at H) | (with_reducible refine wpl rfl (Stp.str rfl size43 rfl rfl (by first | rfl | (simp [Value.oneCell']; done) | assumption) H uP sZ sZ ?_); clear H; intro w1 H; simp only [pS]) | (with_reducible refine wpl rfl (Stp.ldl rfl agg36 size36 rfl H mR (by simp) ?_); simp only [pS]; simp only [List.drop_succ_cons, List.drop_zero, List.take_succ_cons, List.take_zero]))
        go_ret
        exact ⟨_, rfl, by rw [HV.out]; rfl, H.below⟩
      · have HY := Lib.hid hy
        cases h1 : cnt c.num
        · have HC1 := Lib.hid h1
          have HV : Hid (cErr c = 1) := Lib.hid (by unfold cErr kindOk; simp [k2, h1])
          have HC2 : Hid (cnt c.vw = cnt c.vw) := Lib.hid rfl
          clear k1 k2 ho hy h1
          go_enter Try.func62, Try.ntmps62
          go_wp2_with (first | (with_reducible refine wpl rfl (Stp.build (v := (.agg #[.int .i64 c.kind, .int .u16 0, .int .u32 0, .int .u64 0, .int .u64 0, .slice none 0 0, .int .u64 0, .slice none 0 0, .slice none 0 0, .slice none 0 0])) 6 rfl rfl (fun W => by kernel_rfl) ?_); simp only [pS]) | (go_at_call 99; (with_reducible refine (may_ok c.fr.1 c.fr.2 _).mono ?_); rintro e w1 ⟨v, rfl, hr⟩; obtain ⟨rfl, hb1⟩ := hr; replace H := H.grow hb1; clear hb1; rw [HY.out]) | (go_at_call 100; (with_reducible refine (counted_ok c.num _ HC1.out _).mono ?_); rintro e w1 ⟨v, rfl, hr⟩; obtain ⟨rfl, hb1⟩ := hr; replace H := H.grow hb1; clear hb1) | (with_reducible refine wpl rfl (Stp.box 1 rfl rfl rfl H ?_); clear H; intro g1 w1 H; simp only [pS]; simp only [pE, nC, pS] at H) | (with_reducible refine wpl rfl (Stp.ldc rfl agg3 rfl H mR cE ?_); simp only [pS]) | (with_reducible refine wpl rfl (Stp.alloc 3 rfl rfl zero43 H ?_); clear H; intro g3 w1 H; simp only [pS]; simp only [nC] at H) | (with_reducible refine wpl rfl (Stp.str rfl size43 rfl rfl (by first | rfl | (simp [Value.oneCell']; done) | assumption) H uP sZ sZ ?_); clear H; intro w1 H; simp only [pS]) | (with_reducible refine wpl rfl (Stp.ldl rfl agg36 size36 rfl H mR (by simp) ?_); simp only [pS]; simp only [List.drop_succ_cons, List.drop_zero, List.take_succ_cons, List.take_zero]) | (with_reducible refine wpl rfl (Stp.ldc rfl agg22 rfl H mR cE ?_); simp only [pS]))
          go_ret
          exact ⟨_, rfl, by rw [HV.out]; rfl, H.below⟩
        · have HC1 := Lib.hid h1
          cases h2 : cnt c.vw
          · have HC2 := Lib.hid h2
            have HV : Hid (cErr c = 1) := Lib.hid (by unfold cErr kindOk; simp [k2, h2])
            clear k1 k2 ho hy h1 h2
            go_enter Try.func62, Try.ntmps62
            go_wp2_with (first | (with_reducible refine wpl rfl (Stp.build (v := (.agg #[.int .i64 c.kind, .int .u16 0, .int .u32 0, .int .u64 0, .int .u64 0, .slice none 0 0, .int .u64 0, .slice none 0 0, .slice none 0 0, .slice none 0 0])) 6 rfl rfl (fun W => by kernel_rfl) ?_); simp only [pS]) | (go_at_call 99; (with_reducible refine (may_ok c.fr.1 c.fr.2 _).mono ?_); rintro e w1 ⟨v, rfl, hr⟩; obtain ⟨rfl, hb1⟩ := hr; replace H := H.grow hb1; clear hb1; rw [HY.out]) | (go_at_call 100; (first | ((with_reducible refine (counted_ok c.num _ HC1.out _).mono ?_); rintro e w1 ⟨v, rfl, hr⟩; obtain ⟨rfl, hb1⟩ := hr; replace H := H.grow hb1; clear hb1) | ((with_reducible refine (counted_ok c.vw _ HC2.out _).mono ?_); rintro e w1 ⟨v, rfl, hr⟩; obtain ⟨rfl, hb1⟩ := hr; replace H := H.grow hb1; clear hb1))) | (with_reducible refine wpl rfl (Stp.box 1 rfl rfl rfl H ?_); clear H; intro g1 w1 H; simp only [pS]; simp only [pE, nC, pS] at H) | (with_reducible refine wpl rfl (Stp.ldc rfl agg3 rfl H mR cE ?_); simp only [pS]) | (with_reducible refine wpl rfl (Stp.alloc 3 rfl rfl zero43 H ?_); clear H; intro g3 w1 H; simp only [pS]; simp only [nC] at H) | (with_reducible refine wpl rfl (Stp.str rfl size43 rfl rfl (by first | rfl | (simp [Value.oneCell']; done) | assumption) H uP sZ sZ ?_); clear H; intro w1 H; simp only [pS]) | (with_reducible refine wpl rfl (Stp.ldl rfl agg36 size36 rfl H mR (by simp) ?_); simp only [pS]; simp only [List.drop_succ_cons, List.drop_zero, List.take_succ_cons, List.take_zero]) | (with_reducible refine wpl rfl (Stp.ldc rfl agg22 rfl H mR cE ?_); simp only [pS]))
            go_ret
            exact ⟨_, rfl, by rw [HV.out]; rfl, H.below⟩
          · have HC2 := Lib.hid h2
            have hk : kindOk c = true := by unfold kindOk; simp [k2, hy, h1, h2]
            clear k1 k2 hy h1 h2
            cases hs : cSame c ⟨c.kind, c.fr, c.num, c.vw, c.data, vw0⟩
            · have HSM := Lib.hid hs
              have HV : Hid (cErr c = 1) := Lib.hid (by unfold cErr; simp [hk, ho, hs])
              clear hk ho hs
              go_enter Try.func62, Try.ntmps62
              go_wp2_with (first | (with_reducible refine wpl rfl (Stp.build (v := (.agg #[.int .i64 c.kind, .int .u16 0, .int .u32 0, .int .u64 0, .int .u64 0, .slice none 0 0, .int .u64 0, .slice none 0 0, .slice none 0 0, .slice none 0 0])) 6 rfl rfl (fun W => by kernel_rfl) ?_); simp only [pS]) | (go_at_call 99; (with_reducible refine (may_ok c.fr.1 c.fr.2 _).mono ?_); rintro e w1 ⟨v, rfl, hr⟩; obtain ⟨rfl, hb1⟩ := hr; replace H := H.grow hb1; clear hb1; rw [HY.out]) | (go_at_call 100; (first | ((with_reducible refine (counted_ok c.num _ HC1.out _).mono ?_); rintro e w1 ⟨v, rfl, hr⟩; obtain ⟨rfl, hb1⟩ := hr; replace H := H.grow hb1; clear hb1) | ((with_reducible refine (counted_ok c.vw _ HC2.out _).mono ?_); rintro e w1 ⟨v, rfl, hr⟩; obtain ⟨rfl, hb1⟩ := hr; replace H := H.grow hb1; clear hb1))) | (with_reducible refine wpl rfl (Stp.box 1 rfl rfl rfl H ?_); clear H; intro g1 w1 H; simp only [pS]; simp only [pE, nC, pS] at H) | (with_reducible refine wpl rfl (Stp.ldc rfl agg3 rfl H mR cE ?_); simp only [pS]) | (with_reducible refine wpl rfl (Stp.alloc 3 rfl rfl zero43 H ?_); clear H; intro g3 w1 H; simp only [pS]; simp only [nC] at H) | (with_reducible refine wpl rfl (Stp.str rfl size43 rfl rfl (by first | rfl | (simp [Value.oneCell']; done) | assumption) H uP sZ sZ ?_); clear H; intro w1 H; simp only [pS]) | (with_reducible refine wpl rfl (Stp.ldl rfl agg36 size36 rfl H mR (by simp) ?_); simp only [pS]; simp only [List.drop_succ_cons, List.drop_zero, List.take_succ_cons, List.take_zero]) | (with_reducible refine wpl rfl (Stp.ldc rfl agg22 rfl H mR cE ?_); simp only [pS]))
              refine rg_begin 16 rfl (S := fun W => St _ _ W [row 43 g1 #[.int .i64 c.kind, .int .u16 (c.fr.1 : Int), .int .u32 (c.fr.2 : Int), .int .u64 (c.num : Int), .int .u64 (c.vw : Int), .slice ba c.data.length bc, .int .u64 (c.v.id : Int), .slice ma c.v.mem.length mc, .slice la c.v.lvs.length lc, .slice da c.v.ldr.length dc]]) (by kernel_rfl) (H.drew.sub sU) ?_
              replace H := H.drew
              have HS := H
              refine rg_take (i := 0) rfl kR kR kR (Yld.o rfl) (H.sub sU) ?_; simp only [pS]
              first | (refine rg_take (i := 1) rfl kR kR kR (Yld.ldr rfl rfl agg36 size36 rfl mR sZ) (H.sub sU) ?_; simp only [pS]) | (refine rg_take (i := 1) rfl kR kR kR (Yld.ldl rfl rfl agg36 size36 rfl mR (by simp)) (H.sub sU) ?_; simp only [pS]; simp only [List.drop_succ_cons, List.drop_zero, List.take_succ_cons, List.take_zero]) | (refine rg_take (i := 1) rfl kR kR kR (Yld.ldor rfl rfl agg36 size36 rfl (by assumption) sZ (by assumption)) (H.sub sU) ?_; simp only [pS])
              refine rg_take (i := 2) rfl kR kR kR (Yld.o rfl) (H.sub sU) ?_; simp only [pS]
              first | (refine rg_take (i := 3) rfl kR kR kR (Yld.ldc rfl rfl agg22 rfl mR cE) (H.sub sU) ?_; simp only [pS]) | (refine rg_take (i := 3) rfl kR kR kR (Yld.ldo rfl rfl agg22 rfl (by assumption) (by assumption)) (H.sub sU) ?_; simp only [pS])
              refine rg_take (i := 4) rfl kR kR kR (Yld.o rfl) (H.sub sU) ?_; simp only [pS]
              first | (refine rg_take (i := 5) rfl kR kR kR (Yld.ldc rfl rfl agg22 rfl mR cE) (H.sub sU) ?_; simp only [pS]) | (refine rg_take (i := 5) rfl kR kR kR (Yld.ldo rfl rfl agg22 rfl (by assumption) (by assumption)) (H.sub sU) ?_; simp only [pS])
              refine rg_take (i := 6) rfl kR kR kR (Yld.o rfl) (H.sub sU) ?_; simp only [pS]
              first | (refine rg_take (i := 7) rfl kR kR kR (Yld.ldc rfl rfl agg37 rfl mR cE) (H.sub sU) ?_; simp only [pS]) | (refine rg_take (i := 7) rfl kR kR kR (Yld.ldo rfl rfl agg37 rfl (by assumption) (by assumption)) (H.sub sU) ?_; simp only [pS])
              refine rg_take (i := 8) rfl kR kR kR (Yld.o rfl) (H.sub sU) ?_; simp only [pS]
              refine rg_one (i := 9) (by kernel_rfl) rfl rfl (fun K hK => ?_)
              refine Stp.wp (Stp.stl (m := [.int .u16 (c.fr.1 : Int), .int .u32 (c.fr.2 : Int)]) rfl size36 rfl rfl (by rfl) rfl H uP (by simp) ?_)
              clear H
              intro w1 H
              simp only [List.drop_succ_cons, List.drop_zero, List.take_succ_cons, List.take_zero, List.nil_append, List.cons_append, Nat.reduceAdd] at H
              clear HS
              have HS := H
              refine hK.out _ _ (H.sub sU) ?_
              clear hK K
              simp only [pS]
              refine rg_take (i := 10) rfl kR kR kR (Yld.o rfl) (H.sub sU) ?_; simp only [pS]
              refine rg_one (i := 11) (by kernel_rfl) rfl rfl (fun K hK => ?_)
              refine Stp.wp (Stp.stc rfl size22 rfl rfl rfl rfl H uP (by simp) ?_)
              clear H
              intro w1 H
              simp only [pE, nC, pS] at H
              clear HS
              have HS := H
              refine hK.out _ _ (H.sub sU) ?_
              clear hK K
              simp only [pS]
              refine rg_take (i := 12) rfl kR kR kR (Yld.o rfl) (H.sub sU) ?_; simp only [pS]
              refine rg_one (i := 13) (by kernel_rfl) rfl rfl (fun K hK => ?_)
              refine Stp.wp (Stp.stc rfl size22 rfl rfl rfl rfl H uP (by simp) ?_)
              clear H
              intro w1 H
              simp only [pE, nC, pS] at H
              clear HS
              have HS := H
              refine hK.out _ _ (H.sub sU) ?_
              clear hK K
              simp only [pS]
              refine rg_take (i := 14) rfl kR kR kR (Yld.o rfl) (H.sub sU) ?_; simp only [pS]
              refine rg_one (i := 15) (by kernel_rfl) rfl rfl (fun K hK => ?_)
              refine Stp.wp (Stp.stc rfl size37 rfl rfl rfl rfl H uP (by simp) ?_)
              clear H
              intro w1 H
              simp only [pE, nC, pS] at H
              clear HS
              have HS := H
              refine hK.out _ _ (H.sub sU) ?_
              clear hK K
              simp only [pS]
              refine rg_done (by kernel_rfl) ?_
              go_wp2_with (first | (go_at_call 101; (with_reducible refine (same2_ok c _ _ _ _ _ _ _ _ WD.out _ _ (hx.grow H.below) HSM.out).mono ?_); rintro e w1 ⟨v, rfl, hr⟩; obtain ⟨rfl, hb1⟩ := hr; replace H := H.grow hb1; clear hb1) | (with_reducible refine wpl rfl (Stp.ldr rfl agg43 size43 rfl H mR sZ ?_); simp only [pS]))
              go_ret
              exact ⟨_, rfl, by rw [HV.out]; rfl, H.below⟩
            · have HSM := Lib.hid hs
              by_cases hl : 200 < c.data.length
              · have HV : Hid (cErr c = 14) := Lib.hid (by unfold cErr; simp [hk, ho, hs, hl])
                have hli : (200 : Int) < (c.data.length : Int) := by omega
                clear hk ho hs
                go_enter Try.func62, Try.ntmps62
                go_wp2_with (first | (with_reducible refine wpl rfl (Stp.build (v := (.agg #[.int .i64 c.kind, .int .u16 0, .int .u32 0, .int .u64 0, .int .u64 0, .slice none 0 0, .int .u64 0, .slice none 0 0, .slice none 0 0, .slice none 0 0])) 6 rfl rfl (fun W => by kernel_rfl) ?_); simp only [pS]) | (go_at_call 99; (with_reducible refine (may_ok c.fr.1 c.fr.2 _).mono ?_); rintro e w1 ⟨v, rfl, hr⟩; obtain ⟨rfl, hb1⟩ := hr; replace H := H.grow hb1; clear hb1; rw [HY.out]) | (go_at_call 100; (first | ((with_reducible refine (counted_ok c.num _ HC1.out _).mono ?_); rintro e w1 ⟨v, rfl, hr⟩; obtain ⟨rfl, hb1⟩ := hr; replace H := H.grow hb1; clear hb1) | ((with_reducible refine (counted_ok c.vw _ HC2.out _).mono ?_); rintro e w1 ⟨v, rfl, hr⟩; obtain ⟨rfl, hb1⟩ := hr; replace H := H.grow hb1; clear hb1))) | (with_reducible refine wpl rfl (Stp.box 1 rfl rfl rfl H ?_); clear H; intro g1 w1 H; simp only [pS]; simp only [pE, nC, pS] at H) | (with_reducible refine wpl rfl (Stp.ldc rfl agg3 rfl H mR cE ?_); simp only [pS]) | (with_reducible refine wpl rfl (Stp.alloc 3 rfl rfl zero43 H ?_); clear H; intro g3 w1 H; simp only [pS]; simp only [nC] at H) | (with_reducible refine wpl rfl (Stp.str rfl size43 rfl rfl (by first | rfl | (simp [Value.oneCell']; done) | assumption) H uP sZ sZ ?_); clear H; intro w1 H; simp only [pS]) | (with_reducible refine wpl rfl (Stp.ldl rfl agg36 size36 rfl H mR (by simp) ?_); simp only [pS]; simp only [List.drop_succ_cons, List.drop_zero, List.take_succ_cons, List.take_zero]) | (with_reducible refine wpl rfl (Stp.ldc rfl agg22 rfl H mR cE ?_); simp only [pS]))
                refine rg_begin 16 rfl (S := fun W => St _ _ W [row 43 g1 #[.int .i64 c.kind, .int .u16 (c.fr.1 : Int), .int .u32 (c.fr.2 : Int), .int .u64 (c.num : Int), .int .u64 (c.vw : Int), .slice ba c.data.length bc, .int .u64 (c.v.id : Int), .slice ma c.v.mem.length mc, .slice la c.v.lvs.length lc, .slice da c.v.ldr.length dc]]) (by kernel_rfl) (H.drew.sub sU) ?_
                replace H := H.drew
                have HS := H
                refine rg_take (i := 0) rfl kR kR kR (Yld.o rfl) (H.sub sU) ?_; simp only [pS]
                first | (refine rg_take (i := 1) rfl kR kR kR (Yld.ldr rfl rfl agg36 size36 rfl mR sZ) (H.sub sU) ?_; simp only [pS]) | (refine rg_take (i := 1) rfl kR kR kR (Yld.ldl rfl rfl agg36 size36 rfl mR (by simp)) (H.sub sU) ?_; simp only [pS]; simp only [List.drop_succ_cons, List.drop_zero, List.take_succ_cons, List.take_zero]) | (refine rg_take (i := 1) rfl kR kR kR (Yld.ldor rfl rfl agg36 size36 rfl (by assumption) sZ (by assumption)) (H.sub sU) ?_; simp only [pS])
                refine rg_take (i := 2) rfl kR kR kR (Yld.o rfl) (H.sub sU) ?_; simp only [pS]
                first | (refine rg_take (i := 3) rfl kR kR kR (Yld.ldc rfl rfl agg22 rfl mR cE) (H.sub sU) ?_; simp only [pS]) | (refine rg_take (i := 3) rfl kR kR kR (Yld.ldo rfl rfl agg22 rfl (by assumption) (by assumption)) (H.sub sU) ?_; simp only [pS])
                refine rg_take (i := 4) rfl kR kR kR (Yld.o rfl) (H.sub sU) ?_; simp only [pS]
                first | (refine rg_take (i := 5) rfl kR kR kR (Yld.ldc rfl rfl agg22 rfl mR cE) (H.sub sU) ?_; simp only [pS]) | (refine rg_take (i := 5) rfl kR kR kR (Yld.ldo rfl rfl agg22 rfl (by assumption) (by assumption)) (H.sub sU) ?_; simp only [pS])
                refine rg_take (i := 6) rfl kR kR kR (Yld.o rfl) (H.sub sU) ?_; simp only [pS]
                first | (refine rg_take (i := 7) rfl kR kR kR (Yld.ldc rfl rfl agg37 rfl mR cE) (H.sub sU) ?_; simp only [pS]) | (refine rg_take (i := 7) rfl kR kR kR (Yld.ldo rfl rfl agg37 rfl (by assumption) (by assumption)) (H.sub sU) ?_; simp only [pS])
                refine rg_take (i := 8) rfl kR kR kR (Yld.o rfl) (H.sub sU) ?_; simp only [pS]
                refine rg_one (i := 9) (by kernel_rfl) rfl rfl (fun K hK => ?_)
                refine Stp.wp (Stp.stl (m := [.int .u16 (c.fr.1 : Int), .int .u32 (c.fr.2 : Int)]) rfl size36 rfl rfl (by rfl) rfl H uP (by simp) ?_)
                clear H
                intro w1 H
                simp only [List.drop_succ_cons, List.drop_zero, List.take_succ_cons, List.take_zero, List.nil_append, List.cons_append, Nat.reduceAdd] at H
                clear HS
                have HS := H
                refine hK.out _ _ (H.sub sU) ?_
                clear hK K
                simp only [pS]
                refine rg_take (i := 10) rfl kR kR kR (Yld.o rfl) (H.sub sU) ?_; simp only [pS]
                refine rg_one (i := 11) (by kernel_rfl) rfl rfl (fun K hK => ?_)
                refine Stp.wp (Stp.stc rfl size22 rfl rfl rfl rfl H uP (by simp) ?_)
                clear H
                intro w1 H
                simp only [pE, nC, pS] at H
                clear HS
                have HS := H
                refine hK.out _ _ (H.sub sU) ?_
                clear hK K
                simp only [pS]
                refine rg_take (i := 12) rfl kR kR kR (Yld.o rfl) (H.sub sU) ?_; simp only [pS]
                refine rg_one (i := 13) (by kernel_rfl) rfl rfl (fun K hK => ?_)
                refine Stp.wp (Stp.stc rfl size22 rfl rfl rfl rfl H uP (by simp) ?_)
                clear H
                intro w1 H
                simp only [pE, nC, pS] at H
                clear HS
                have HS := H
                refine hK.out _ _ (H.sub sU) ?_
                clear hK K
                simp only [pS]
                refine rg_take (i := 14) rfl kR kR kR (Yld.o rfl) (H.sub sU) ?_; simp only [pS]
                refine rg_one (i := 15) (by kernel_rfl) rfl rfl (fun K hK => ?_)
                refine Stp.wp (Stp.stc rfl size37 rfl rfl rfl rfl H uP (by simp) ?_)
                clear H
                intro w1 H
                simp only [pE, nC, pS] at H
                clear HS
                have HS := H
                refine hK.out _ _ (H.sub sU) ?_
                clear hK K
                simp only [pS]
                refine rg_done (by kernel_rfl) ?_
                go_wp2_with (first | (go_at_call 101; (with_reducible refine (same2_ok c _ _ _ _ _ _ _ _ WD.out _ _ (hx.grow H.below) HSM.out).mono ?_); rintro e w1 ⟨v, rfl, hr⟩; obtain ⟨rfl, hb1⟩ := hr; replace H := H.grow hb1; clear hb1) | (with_reducible refine wpl rfl (Stp.ldr rfl agg43 size43 rfl H mR sZ ?_); simp only [pS]) | (with_reducible refine wpl rfl (Stp.ldc rfl agg37 rfl H mR cE ?_); simp only [pS]))
                go_ret
                exact ⟨_, rfl, by rw [HV.out]; rfl, H.below⟩
              · have HV : Hid (cErr c = 0) := Lib.hid (by unfold cErr; simp [hk, ho, hs]; omega)
                have hli : ¬ (200 : Int) < (c.data.length : Int) := by omega
                clear hk ho hs
                go_enter Try.func62, Try.ntmps62
                go_wp2_with (first | (with_reducible refine wpl rfl (Stp.build (v := (.agg #[.int .i64 c.kind, .int .u16 0, .int .u32 0, .int .u64 0, .int .u64 0, .slice none 0 0, .int .u64 0, .slice none 0 0, .slice none 0 0, .slice none 0 0])) 6 rfl rfl (fun W => by kernel_rfl) ?_); simp only [pS]) | (go_at_call 99; (with_reducible refine (may_ok c.fr.1 c.fr.2 _).mono ?_); rintro e w1 ⟨v, rfl, hr⟩; obtain ⟨rfl, hb1⟩ := hr; replace H := H.grow hb1; clear hb1; rw [HY.out]) | (go_at_call 100; (first | ((with_reducible refine (counted_ok c.num _ HC1.out _).mono ?_); rintro e w1 ⟨v, rfl, hr⟩; obtain ⟨rfl, hb1⟩ := hr; replace H := H.grow hb1; clear hb1) | ((with_reducible refine (counted_ok c.vw _ HC2.out _).mono ?_); rintro e w1 ⟨v, rfl, hr⟩; obtain ⟨rfl, hb1⟩ := hr; replace H := H.grow hb1; clear hb1))) | (with_reducible refine wpl rfl (Stp.box 1 rfl rfl rfl H ?_); clear H; intro g1 w1 H; simp only [pS]; simp only [pE, nC, pS] at H) | (with_reducible refine wpl rfl (Stp.ldc rfl agg3 rfl H mR cE ?_); simp only [pS]) | (with_reducible refine wpl rfl (Stp.alloc 3 rfl rfl zero43 H ?_); clear H; intro g3 w1 H; simp only [pS]; simp only [nC] at H) | (with_reducible refine wpl rfl (Stp.str rfl size43 rfl rfl (by first | rfl | (simp [Value.oneCell']; done) | assumption) H uP sZ sZ ?_); clear H; intro w1 H; simp only [pS]) | (with_reducible refine wpl rfl (Stp.ldl rfl agg36 size36 rfl H mR (by simp) ?_); simp only [pS]; simp only [List.drop_succ_cons, List.drop_zero, List.take_succ_cons, List.take_zero]) | (with_reducible refine wpl rfl (Stp.ldc rfl agg22 rfl H mR cE ?_); simp only [pS]))
                refine rg_begin 16 rfl (S := fun W => St _ _ W [row 43 g1 #[.int .i64 c.kind, .int .u16 (c.fr.1 : Int), .int .u32 (c.fr.2 : Int), .int .u64 (c.num : Int), .int .u64 (c.vw : Int), .slice ba c.data.length bc, .int .u64 (c.v.id : Int), .slice ma c.v.mem.length mc, .slice la c.v.lvs.length lc, .slice da c.v.ldr.length dc]]) (by kernel_rfl) (H.drew.sub sU) ?_
                replace H := H.drew
                have HS := H
                refine rg_take (i := 0) rfl kR kR kR (Yld.o rfl) (H.sub sU) ?_; simp only [pS]
                first | (refine rg_take (i := 1) rfl kR kR kR (Yld.ldr rfl rfl agg36 size36 rfl mR sZ) (H.sub sU) ?_; simp only [pS]) | (refine rg_take (i := 1) rfl kR kR kR (Yld.ldl rfl rfl agg36 size36 rfl mR (by simp)) (H.sub sU) ?_; simp only [pS]; simp only [List.drop_succ_cons, List.drop_zero, List.take_succ_cons, List.take_zero]) | (refine rg_take (i := 1) rfl kR kR kR (Yld.ldor rfl rfl agg36 size36 rfl (by assumption) sZ (by assumption)) (H.sub sU) ?_; simp only [pS])
                refine rg_take (i := 2) rfl kR kR kR (Yld.o rfl) (H.sub sU) ?_; simp only [pS]
                first | (refine rg_take (i := 3) rfl kR kR kR (Yld.ldc rfl rfl agg22 rfl mR cE) (H.sub sU) ?_; simp only [pS]) | (refine rg_take (i := 3) rfl kR kR kR (Yld.ldo rfl rfl agg22 rfl (by assumption) (by assumption)) (H.sub sU) ?_; simp only [pS])
                refine rg_take (i := 4) rfl kR kR kR (Yld.o rfl) (H.sub sU) ?_; simp only [pS]
                first | (refine rg_take (i := 5) rfl kR kR kR (Yld.ldc rfl rfl agg22 rfl mR cE) (H.sub sU) ?_; simp only [pS]) | (refine rg_take (i := 5) rfl kR kR kR (Yld.ldo rfl rfl agg22 rfl (by assumption) (by assumption)) (H.sub sU) ?_; simp only [pS])
                refine rg_take (i := 6) rfl kR kR kR (Yld.o rfl) (H.sub sU) ?_; simp only [pS]
                first | (refine rg_take (i := 7) rfl kR kR kR (Yld.ldc rfl rfl agg37 rfl mR cE) (H.sub sU) ?_; simp only [pS]) | (refine rg_take (i := 7) rfl kR kR kR (Yld.ldo rfl rfl agg37 rfl (by assumption) (by assumption)) (H.sub sU) ?_; simp only [pS])
                refine rg_take (i := 8) rfl kR kR kR (Yld.o rfl) (H.sub sU) ?_; simp only [pS]
                refine rg_one (i := 9) (by kernel_rfl) rfl rfl (fun K hK => ?_)
                refine Stp.wp (Stp.stl (m := [.int .u16 (c.fr.1 : Int), .int .u32 (c.fr.2 : Int)]) rfl size36 rfl rfl (by rfl) rfl H uP (by simp) ?_)
                clear H
                intro w1 H
                simp only [List.drop_succ_cons, List.drop_zero, List.take_succ_cons, List.take_zero, List.nil_append, List.cons_append, Nat.reduceAdd] at H
                clear HS
                have HS := H
                refine hK.out _ _ (H.sub sU) ?_
                clear hK K
                simp only [pS]
                refine rg_take (i := 10) rfl kR kR kR (Yld.o rfl) (H.sub sU) ?_; simp only [pS]
                refine rg_one (i := 11) (by kernel_rfl) rfl rfl (fun K hK => ?_)
                refine Stp.wp (Stp.stc rfl size22 rfl rfl rfl rfl H uP (by simp) ?_)
                clear H
                intro w1 H
                simp only [pE, nC, pS] at H
                clear HS
                have HS := H
                refine hK.out _ _ (H.sub sU) ?_
                clear hK K
                simp only [pS]
                refine rg_take (i := 12) rfl kR kR kR (Yld.o rfl) (H.sub sU) ?_; simp only [pS]
                refine rg_one (i := 13) (by kernel_rfl) rfl rfl (fun K hK => ?_)
                refine Stp.wp (Stp.stc rfl size22 rfl rfl rfl rfl H uP (by simp) ?_)
                clear H
                intro w1 H
                simp only [pE, nC, pS] at H
                clear HS
                have HS := H
                refine hK.out _ _ (H.sub sU) ?_
                clear hK K
                simp only [pS]
                refine rg_take (i := 14) rfl kR kR kR (Yld.o rfl) (H.sub sU) ?_; simp only [pS]
                refine rg_one (i := 15) (by kernel_rfl) rfl rfl (fun K hK => ?_)
                refine Stp.wp (Stp.stc rfl size37 rfl rfl rfl rfl H uP (by simp) ?_)
                clear H
                intro w1 H
                simp only [pE, nC, pS] at H
                clear HS
                have HS := H
                refine hK.out _ _ (H.sub sU) ?_
                clear hK K
                simp only [pS]
                refine rg_done (by kernel_rfl) ?_
                go_wp2_with (first | (go_at_call 101; (with_reducible refine (same2_ok c _ _ _ _ _ _ _ _ WD.out _ _ (hx.grow H.below) HSM.out).mono ?_); rintro e w1 ⟨v, rfl, hr⟩; obtain ⟨rfl, hb1⟩ := hr; replace H := H.grow hb1; clear hb1) | (with_reducible refine wpl rfl (Stp.ldr rfl agg43 size43 rfl H mR sZ ?_); simp only [pS]) | (with_reducible refine wpl rfl (Stp.ldc rfl agg37 rfl H mR cE ?_); simp only [pS]))
                go_ret
                exact ⟨_, rfl, by rw [HV.out]; rfl, H.below⟩
    · have i2 : (c.kind == 2) = false := by simp [k2]
      by_cases k3 : c.kind = 3
      · have i3 : (c.kind == 3) = true := by simp [k3]
        have ho : only c = ⟨c.kind, (0, 0), 0, 0, [], c.v⟩ := by unfold only; simp [k3]
        cases hv : vOk c.v
        · have HVC : Hid (vErr c.v = 1) := Lib.hid (by unfold vErr; simp [hv])
          have HV : Hid (cErr c = 1) := Lib.hid (by unfold cErr kindOk; simp [k3, hv])
          clear k1 k2 k3 ho hv
          go_enter Try.func62, Try.ntmps62
          go_wp2_with (first | (with_reducible refine wpl rfl (Stp.build (v := (.agg #[.int .i64 c.kind, .int .u16 0, .int .u32 0, .int .u64 0, .int .u64 0, .slice none 0 0, .int .u64 0, .slice none 0 0, .slice none 0 0, .slice none 0 0])) 6 rfl rfl (fun W => by kernel_rfl) ?_); simp only [pS]) | (go_at_call 79; (with_reducible refine (vcheck_ok c.v _ _ _ _ _ _ hm hw.v _ (hx2.grow H.below)).mono ?_); rintro e w1 ⟨v, rfl, hr⟩; obtain ⟨rfl, hb1⟩ := hr; replace H := H.grow hb1; clear hb1; rw [HVC.out]) | (with_reducible refine wpl rfl (Stp.box 1 rfl rfl rfl H ?_); clear H; intro g1 w1 H; simp only [pS]; simp only [pE, nC, pS] at H) | (with_reducible refine wpl rfl (Stp.ldc rfl agg3 rfl H mR cE ?_); simp only [pS]) | (with_reducible refine wpl rfl (Stp.alloc 3 rfl rfl zero43 H ?_); clear H; intro g3 w1 H; simp only [pS]; simp only [nC] at H) | (with_reducible refine wpl rfl (Stp.str rfl size43 rfl rfl (by first | rfl | (simp [Value.oneCell']; done) | assumption) H uP sZ sZ ?_); clear H; intro w1 H; simp only [pS]) | (with_reducible refine wpl rfl (Stp.ldl rfl agg26 size26 rfl H mR (by simp) ?_); simp only [pS]; simp only [List.drop_succ_cons, List.drop_zero, List.take_succ_cons, List.take_zero]))
          go_ret
          exact ⟨_, rfl, by rw [HV.out]; rfl, H.below⟩
        · have HVC : Hid (vErr c.v = 0) := Lib.hid (by unfold vErr; simp [hv])
          have hk : kindOk c = true := by unfold kindOk; simp [k3, hv]
          clear k1 k2 k3 hv
          cases hs : cSame c ⟨c.kind, (0, 0), 0, 0, [], c.v⟩
          · have HSM := Lib.hid hs
            have HV : Hid (cErr c = 1) := Lib.hid (by unfold cErr; simp [hk, ho, hs])
            clear hk ho hs
            go_enter Try.func62, Try.ntmps62
            go_wp2_with (first | (with_reducible refine wpl rfl (Stp.build (v := (.agg #[.int .i64 c.kind, .int .u16 0, .int .u32 0, .int .u64 0, .int .u64 0, .slice none 0 0, .int .u64 0, .slice none 0 0, .slice none 0 0, .slice none 0 0])) 6 rfl rfl (fun W => by kernel_rfl) ?_); simp only [pS]) | (go_at_call 79; (with_reducible refine (vcheck_ok c.v _ _ _ _ _ _ hm hw.v _ (hx2.grow H.below)).mono ?_); rintro e w1 ⟨v, rfl, hr⟩; obtain ⟨rfl, hb1⟩ := hr; replace H := H.grow hb1; clear hb1; rw [HVC.out]) | (go_at_call 101; (with_reducible refine (same3_ok c _ _ _ _ _ _ _ _ WD.out _ _ (hx.grow H.below) HSM.out).mono ?_); rintro e w1 ⟨v, rfl, hr⟩; obtain ⟨rfl, hb1⟩ := hr; replace H := H.grow hb1; clear hb1) | (with_reducible refine wpl rfl (Stp.box 1 rfl rfl rfl H ?_); clear H; intro g1 w1 H; simp only [pS]; simp only [pE, nC, pS] at H) | (with_reducible refine wpl rfl (Stp.ldc rfl agg3 rfl H mR cE ?_); simp only [pS]) | (with_reducible refine wpl rfl (Stp.alloc 3 rfl rfl zero43 H ?_); clear H; intro g3 w1 H; simp only [pS]; simp only [nC] at H) | (with_reducible refine wpl rfl (Stp.str rfl size43 rfl rfl (by first | rfl | (simp [Value.oneCell']; done) | assumption) H uP sZ sZ ?_); clear H; intro w1 H; simp only [pS]) | (with_reducible refine wpl rfl (Stp.ldl rfl agg26 size26 rfl H mR (by simp) ?_); simp only [pS]; simp only [List.drop_succ_cons, List.drop_zero, List.take_succ_cons, List.take_zero]) | (with_reducible refine wpl rfl (Stp.stl rfl size26 rfl rfl rfl rfl H uP (by simp) ?_); clear H; intro w1 H; simp only [pS]; simp only [List.drop_succ_cons, List.drop_zero, List.take_succ_cons, List.take_zero, List.nil_append, List.cons_append, Nat.reduceAdd] at H) | (with_reducible refine wpl rfl (Stp.ldr rfl agg43 size43 rfl H mR sZ ?_); simp only [pS]))
            go_ret
            exact ⟨_, rfl, by rw [HV.out]; rfl, H.below⟩
          · have HSM := Lib.hid hs
            by_cases hl : 200 < c.data.length
            · have HV : Hid (cErr c = 14) := Lib.hid (by unfold cErr; simp [hk, ho, hs, hl])
              have hli : (200 : Int) < (c.data.length : Int) := by omega
              clear hk ho hs
              go_enter Try.func62, Try.ntmps62
              go_wp2_with (first | (with_reducible refine wpl rfl (Stp.build (v := (.agg #[.int .i64 c.kind, .int .u16 0, .int .u32 0, .int .u64 0, .int .u64 0, .slice none 0 0, .int .u64 0, .slice none 0 0, .slice none 0 0, .slice none 0 0])) 6 rfl rfl (fun W => by kernel_rfl) ?_); simp only [pS]) | (go_at_call 79; (with_reducible refine (vcheck_ok c.v _ _ _ _ _ _ hm hw.v _ (hx2.grow H.below)).mono ?_); rintro e w1 ⟨v, rfl, hr⟩; obtain ⟨rfl, hb1⟩ := hr; replace H := H.grow hb1; clear hb1; rw [HVC.out]) | (go_at_call 101; (with_reducible refine (same3_ok c _ _ _ _ _ _ _ _ WD.out _ _ (hx.grow H.below) HSM.out).mono ?_); rintro e w1 ⟨v, rfl, hr⟩; obtain ⟨rfl, hb1⟩ := hr; replace H := H.grow hb1; clear hb1) | (with_reducible refine wpl rfl (Stp.box 1 rfl rfl rfl H ?_); clear H; intro g1 w1 H; simp only [pS]; simp only [pE, nC, pS] at H) | (with_reducible refine wpl rfl (Stp.ldc rfl agg3 rfl H mR cE ?_); simp only [pS]) | (with_reducible refine wpl rfl (Stp.alloc 3 rfl rfl zero43 H ?_); clear H; intro g3 w1 H; simp only [pS]; simp only [nC] at H) | (with_reducible refine wpl rfl (Stp.str rfl size43 rfl rfl (by first | rfl | (simp [Value.oneCell']; done) | assumption) H uP sZ sZ ?_); clear H; intro w1 H; simp only [pS]) | (with_reducible refine wpl rfl (Stp.ldl rfl agg26 size26 rfl H mR (by simp) ?_); simp only [pS]; simp only [List.drop_succ_cons, List.drop_zero, List.take_succ_cons, List.take_zero]) | (with_reducible refine wpl rfl (Stp.stl rfl size26 rfl rfl rfl rfl H uP (by simp) ?_); clear H; intro w1 H; simp only [pS]; simp only [List.drop_succ_cons, List.drop_zero, List.take_succ_cons, List.take_zero, List.nil_append, List.cons_append, Nat.reduceAdd] at H) | (with_reducible refine wpl rfl (Stp.ldr rfl agg43 size43 rfl H mR sZ ?_); simp only [pS]) | (with_reducible refine wpl rfl (Stp.ldc rfl agg37 rfl H mR cE ?_); simp only [pS]))
              go_ret
              exact ⟨_, rfl, by rw [HV.out]; rfl, H.below⟩
            · have HV : Hid (cErr c = 0) := Lib.hid (by unfold cErr; simp [hk, ho, hs]; omega)
              have hli : ¬ (200 : Int) < (c.data.length : Int) := by omega
              clear hk ho hs
              go_enter Try.func62, Try.ntmps62
              go_wp2_with (first | (with_reducible refine wpl rfl (Stp.build (v := (.agg #[.int .i64 c.kind, .int .u16 0, .int .u32 0, .int .u64 0, .int .u64 0, .slice none 0 0, .int .u64 0, .slice none 0 0, .slice none 0 0, .slice none 0 0])) 6 rfl rfl (fun W => by kernel_rfl) ?_); simp only [pS]) | (go_at_call 79; (with_reducible refine (vcheck_ok c.v _ _ _ _ _ _ hm hw.v _ (hx2.grow H.below)).mono ?_); rintro e w1 ⟨v, rfl, hr⟩; obtain ⟨rfl, hb1⟩ := hr; replace H := H.grow hb1; clear hb1; rw [HVC.out]) | (go_at_call 101; (with_reducible refine (same3_ok c _ _ _ _ _ _ _ _ WD.out _ _ (hx.grow H.below) HSM.out).mono ?_); rintro e w1 ⟨v, rfl, hr⟩; obtain ⟨rfl, hb1⟩ := hr; replace H := H.grow hb1; clear hb1) | (with_reducible refine wpl rfl (Stp.box 1 rfl rfl rfl H ?_); clear H; intro g1 w1 H; simp only [pS]; simp only [pE, nC, pS] at H) | (with_reducible refine wpl rfl (Stp.ldc rfl agg3 rfl H mR cE ?_); simp only [pS]) | (with_reducible refine wpl rfl (Stp.alloc 3 rfl rfl zero43 H ?_); clear H; intro g3 w1 H; simp only [pS]; simp only [nC] at H) | (with_reducible refine wpl rfl (Stp.str rfl size43 rfl rfl (by first | rfl | (simp [Value.oneCell']; done) | assumption) H uP sZ sZ ?_); clear H; intro w1 H; simp only [pS]) | (with_reducible refine wpl rfl (Stp.ldl rfl agg26 size26 rfl H mR (by simp) ?_); simp only [pS]; simp only [List.drop_succ_cons, List.drop_zero, List.take_succ_cons, List.take_zero]) | (with_reducible refine wpl rfl (Stp.stl rfl size26 rfl rfl rfl rfl H uP (by simp) ?_); clear H; intro w1 H; simp only [pS]; simp only [List.drop_succ_cons, List.drop_zero, List.take_succ_cons, List.take_zero, List.nil_append, List.cons_append, Nat.reduceAdd] at H) | (with_reducible refine wpl rfl (Stp.ldr rfl agg43 size43 rfl H mR sZ ?_); simp only [pS]) | (with_reducible refine wpl rfl (Stp.ldc rfl agg37 rfl H mR cE ?_); simp only [pS]))
              go_ret
              exact ⟨_, rfl, by rw [HV.out]; rfl, H.below⟩
      · have i3 : (c.kind == 3) = false := by simp [k3]
        have HV : Hid (cErr c = 1) := Lib.hid (by unfold cErr kindOk; simp [k1, k2, k3])
        clear k1 k2 k3
        go_enter Try.func62, Try.ntmps62
        go_wp2_with (first | (with_reducible refine wpl rfl (Stp.build (v := (.agg #[.int .i64 c.kind, .int .u16 0, .int .u32 0, .int .u64 0, .int .u64 0, .slice none 0 0, .int .u64 0, .slice none 0 0, .slice none 0 0, .slice none 0 0])) 6 rfl rfl (fun W => by kernel_rfl) ?_); simp only [pS]) | (with_reducible refine wpl rfl (Stp.box 1 rfl rfl rfl H ?_); clear H; intro g1 w1 H; simp only [pS]; simp only [pE, nC, pS] at H) | (with_reducible refine wpl rfl (Stp.ldc rfl agg3 rfl H mR cE ?_); simp only [pS]) | (with_reducible refine wpl rfl (Stp.alloc 3 rfl rfl zero43 H ?_); clear H; intro g3 w1 H; simp only [pS]; simp only [nC] at H) | (with_reducible refine wpl rfl (Stp.str rfl size43 rfl rfl (by first | rfl | (simp [Value.oneCell']; done) | assumption) H uP sZ sZ ?_); clear H; intro w1 H; simp only [pS]))
        go_ret
        exact ⟨_, rfl, by rw [HV.out]; rfl, H.below⟩
end Go.Proofs.Ytjghcmejmdllbaa
namespace Go.Proofs.Ytjghcmejmdllbaa
open Go.ChangeShapes Go.WideShapes Go.ChangeAt Go.RowKit Go.Maps
set_option linter.unusedVariables false
set_option linter.unusedSimpArgs false
/-- Where a process stands first; -1 if it does not. -/
def atR (l : List Pr) (p : Pr) : Int := match rank l p with | some k => (k : Int) | none => -1
theorem rank_at {l : List Pr} {p : Pr} {k : Nat} (hk : k < l.length) (h0 : rank (l.take k) p = none) (h : l[k] = p) : rank l p = some k := by
  induction l generalizing k with
  | nil => cases hk
  | cons x l ih =>
    cases k with
    | zero => simp only [List.getElem_cons_zero] at h; simp [rank, h]
    | succ k =>
      simp only [List.take_succ_cons, rank] at h0
      unfold rank
      by_cases hx : x = p
      · rw [if_pos hx] at h0; cases h0
      · rw [if_neg hx] at h0 ⊢
        rw [ih (by simpa using hk) (Option.map_eq_none_iff.1 h0) (by simpa using h)]
        rfl
set_option maxRecDepth 100000 in
set_option maxHeartbeats 1000000 in
theorem rat_is (va : Value) (l : List Pr) (p : Pr) (w : World) (ha : Sl w 2 l.length va (elQ l)) :
    Calls Try.prog 65 #[va, .agg #[.int .u16 (p.1 : Int), .int .u32 (p.2 : Int)]] w (Ret fun v w' => v = .int .i64 (atR l p) ∧ Below w.heap.size w w') := by
  have H := St.init w
  have ha' := ha
  obtain ⟨aa, ca, rfl, hma, _⟩ := ha'
  unfold maxLen at hma
  obtain ⟨n, hn⟩ : ∃ n, l.length = n := ⟨_, rfl⟩
  have HN := Lib.hid hn
  rw [hn] at ha hma ⊢
  clear hn
  go_enter Try.func65, Try.ntmps65
  go_wp2_with (first | (with_reducible refine wpl rfl (Stp.box 3 rfl rfl rfl H ?_); clear H; intro g3 w1 H; simp only [pS]; simp only [pE, nC, pS] at H))
  go_loopw [5] (fun i wr => ∃ k : Nat, k ≤ n ∧ i = .int .i64 k ∧ Hid (rank (l.take k) p = none) ∧ St w.heap.size w wr [row 36 g3 #[.int .u16 (p.1 : Int), .int .u32 (p.2 : Int)]]) (fun i _ => n - (intOf i).toNat)
  case atStart => exact ⟨0, Nat.zero_le _, rfl, Lib.hid (by simp [rank]), H⟩
  case round =>
    clear H
    obtain ⟨k, hk, rfl, HT, H⟩ := hrel
    by_cases hlt : k < n
    · have hl1 : k < l.length := by rw [HN.out]; exact hlt
      obtain ⟨b1, o1, rfl, hb1⟩ := ha.addr (by omega)
      have hc1 := ha.cell hlt
      unfold elQ at hc1
      rw [getD_at hl1] at hc1
      have hs1 := List.take_succ_eq_append_getElem hl1
      have hra := rank_at (p := p) hl1 HT.out
      obtain ⟨⟨x, y⟩, hx⟩ : ∃ x, l[k] = x := ⟨_, rfl⟩
      rw [hx] at hc1 hs1 hra
      have kli : (k : Int) < (n : Int) := by omega
      by_cases he0 : (x, y) = p
      · have HV : Hid (atR l p = k) := Lib.hid (by unfold atR; rw [hra he0])
        obtain ⟨z, t⟩ := p
        injection he0 with e1 e2
        subst e1 e2
        have he := eqPD_yes x y
        clear hs1 hx hra
        go_wp2_with fail
        refine rg_begin 6 rfl (S := fun W => St _ _ W _) (by kernel_rfl) H.drew ?_
        replace H := H.drew
        have HS := H
        refine rg_take (i := 0) rfl kR kR kR (Yld.move rfl rfl) HS ?_; simp only [pS, pE]
        refine rg_take (i := 1) rfl kR kR kR (Yld.move rfl rfl) HS ?_; simp only [pS, pE]
        refine rg_take (i := 2) rfl kR kR kR (Yld.o rfl) HS ?_; simp only [pS]
        first | (refine rg_take (i := 3) rfl kR kR kR (Yld.ldr rfl rfl agg36 size36 rfl mR sZ) HS ?_; simp only [pS]) | (refine rg_take (i := 3) rfl kR kR kR (Yld.ldl rfl rfl agg36 size36 rfl mR (by simp)) HS ?_; simp only [pS]; simp only [List.drop_succ_cons, List.drop_zero, List.take_succ_cons, List.take_zero]) | (refine rg_take (i := 3) rfl kR kR kR (Yld.ldor rfl rfl agg36 size36 rfl (by assumption) sZ (by assumption)) HS ?_; simp only [pS])
        first | (refine rg_take (i := 4) rfl kR kR kR (Yld.ldr rfl rfl agg36 size36 rfl mR sZ) HS ?_; simp only [pS]) | (refine rg_take (i := 4) rfl kR kR kR (Yld.ldl rfl rfl agg36 size36 rfl mR (by simp)) HS ?_; simp only [pS]; simp only [List.drop_succ_cons, List.drop_zero, List.take_succ_cons, List.take_zero]) | (refine rg_take (i := 4) rfl kR kR kR (Yld.ldor rfl rfl agg36 size36 rfl (by assumption) sZ (by assumption)) HS ?_; simp only [pS])
        refine rg_take (i := 5) rfl kR kR kR (Yld.o rfl) HS ?_; simp only [pS]
        refine rg_done (by kernel_rfl) ?_
        go_wp2_with fail
        go_ret
        exact ⟨_, rfl, by rw [HV.out]; rfl, H.below⟩
      · have HRK : Hid (rank (l.take (k + 1)) p = none) := Lib.hid (by rw [hs1, rank_snoc, HT.out, if_neg he0])
        obtain ⟨z, t⟩ := p
        have he := eqPD_no x y z t he0
        clear hs1 hx hra he0
        go_wp2_with fail
        refine rg_begin 6 rfl (S := fun W => St _ _ W _) (by kernel_rfl) H.drew ?_
        replace H := H.drew
        have HS := H
        refine rg_take (i := 0) rfl kR kR kR (Yld.move rfl rfl) HS ?_; simp only [pS, pE]
        refine rg_take (i := 1) rfl kR kR kR (Yld.move rfl rfl) HS ?_; simp only [pS, pE]
        refine rg_take (i := 2) rfl kR kR kR (Yld.o rfl) HS ?_; simp only [pS]
        first | (refine rg_take (i := 3) rfl kR kR kR (Yld.ldr rfl rfl agg36 size36 rfl mR sZ) HS ?_; simp only [pS]) | (refine rg_take (i := 3) rfl kR kR kR (Yld.ldl rfl rfl agg36 size36 rfl mR (by simp)) HS ?_; simp only [pS]; simp only [List.drop_succ_cons, List.drop_zero, List.take_succ_cons, List.take_zero]) | (refine rg_take (i := 3) rfl kR kR kR (Yld.ldor rfl rfl agg36 size36 rfl (by assumption) sZ (by assumption)) HS ?_; simp only [pS])
        first | (refine rg_take (i := 4) rfl kR kR kR (Yld.ldr rfl rfl agg36 size36 rfl mR sZ) HS ?_; simp only [pS]) | (refine rg_take (i := 4) rfl kR kR kR (Yld.ldl rfl rfl agg36 size36 rfl mR (by simp)) HS ?_; simp only [pS]; simp only [List.drop_succ_cons, List.drop_zero, List.take_succ_cons, List.take_zero]) | (refine rg_take (i := 4) rfl kR kR kR (Yld.ldor rfl rfl agg36 size36 rfl (by assumption) sZ (by assumption)) HS ?_; simp only [pS])
        refine rg_take (i := 5) rfl kR kR kR (Yld.o rfl) HS ?_; simp only [pS]
        refine rg_done (by kernel_rfl) ?_
        go_wp2_with fail
        go_roundw
        case rel => exact ⟨k + 1, by omega, by go_num, HRK, H⟩
        case measure => simp [intOf]; omega
    · obtain rfl : k = n := by omega
      have HV : Hid (atR l p = -1) := Lib.hid (by
        have := HT.out
        rw [List.take_of_length_le (by rw [HN.out]; omega)] at this
        unfold atR; rw [this])
      go_wp2_with fail
      go_ret
      exact ⟨_, rfl, by rw [HV.out]; rfl, H.below⟩
end Go.Proofs.Ytjghcmejmdllbaa
namespace Go.Proofs.Ytjghcmejmdllbaa
open Go.ChangeShapes Go.WideShapes Go.ChangeAt Go.RowKit Go.Deep
set_option linter.unusedVariables false
set_option linter.unusedSimpArgs false
set_option maxRecDepth 100000
/-- The blocks that were there. -/
abbrev Old (W : World) : Nat → Prop := fun b => b < W.heap.size
section
variable {H : Type} {enc : TypeId × Value → H}
theorem cells_ps {fuel : Nat} {W : World} {cs : List Value} {y : DataW H × List MemPlace} (hf : DataW.trod enc Try.prog W 0 (fun _ => true) true fuel 23 cs = some y) :
    ∃ (a : Option Addr) (c : Nat) (l : List Pr), cs = [.slice a l.length c] ∧ l.length ≤ c ∧ okPids l ∧ SlG (Old W) W 2 l.length (.slice a l.length c) (elQ l) := by
  obtain ⟨a, n, c, E, rfl, hc, hS, hel⟩ := cells_sl (size := 2) Try.underlying23 (by kernel_rfl) (by omega) hf
  have hex : ∀ i, ∃ q : Pr, i < n → E i = #[.int .u16 (q.1 : Int), .int .u32 (q.2 : Int)] ∧ q.1 < 65536 ∧ q.2 < 4294967296 := fun i => by
    by_cases hi : i < n
    · obtain ⟨hs, fuel, y, ht⟩ := hel i hi
      obtain ⟨p, q, e0, h1, h2⟩ := cells_pid ht
      exact ⟨(p, q), fun _ => ⟨Array.toList_inj.1 e0, h1, h2⟩⟩
    · exact ⟨(0, 0), fun hn => absurd hn hi⟩
  have hlen : ((List.range n).map fun i => Classical.choose (hex i)).length = n := by simp
  refine ⟨a, c, (List.range n).map fun i => Classical.choose (hex i), by rw [hlen], by rw [hlen]; exact hc, ?_, ?_⟩
  · intro q hq
    obtain ⟨i, hi, rfl⟩ := List.mem_map.1 hq
    exact ((Classical.choose_spec (hex i)) (by simpa using hi)).2
  · rw [hlen]
    refine SlG.of_sl ?_
    obtain ⟨a', c', e, hm, hc'⟩ := hS
    injection e with e1 e2 e3
    subst e1
    refine ⟨a, c, rfl, hm, fun h0 => ?_⟩
    obtain ⟨b, off, rfl, hb, hcell⟩ := hc' h0
    refine ⟨b, off, rfl, hb, fun i hi j hj => ?_⟩
    rw [hcell i hi j hj, (Classical.choose_spec (hex i) hi).1]
    simp [elQ, List.getD, hi]
theorem cells_lv {fuel : Nat} {W : World} {cs : List Value} {y : DataW H × List MemPlace} (hf : DataW.trod enc Try.prog W 0 (fun _ => true) true fuel 24 cs = some y) :
    ∃ (a : Option Addr) (c : Nat) (ls : List (List Pr)), cs = [.slice a ls.length c] ∧ ls.length ≤ c ∧ (∀ l ∈ ls, okPids l) ∧ LvG (Old W) W (.slice a ls.length c) ls := by
  obtain ⟨a, n, c, E, rfl, hc, hS, hel⟩ := cells_sl (size := 1) Try.underlying24 (by kernel_rfl) (by omega) hf
  have hex : ∀ i, ∃ q : Option Addr × Nat × List Pr, i < n → E i = #[.slice q.1 q.2.2.length q.2.1] ∧ okPids q.2.2 ∧ SlG (Old W) W 2 q.2.2.length (.slice q.1 q.2.2.length q.2.1) (elQ q.2.2) := fun i => by
    by_cases hi : i < n
    · obtain ⟨hs, fuel, y, ht⟩ := hel i hi
      obtain ⟨p, q, l, e0, _, h1, h2⟩ := cells_ps ht
      exact ⟨(p, q, l), fun _ => ⟨Array.toList_inj.1 e0, h1, h2⟩⟩
    · exact ⟨(none, 0, []), fun hn => absurd hn hi⟩
  have hlen : ((List.range n).map fun i => (Classical.choose (hex i)).2.2).length = n := by simp
  have hget : ∀ i, i < n → ((List.range n).map fun i => (Classical.choose (hex i)).2.2).getD i [] = (Classical.choose (hex i)).2.2 := fun i hi => by simp [List.getD, hi]
  refine ⟨a, c, (List.range n).map fun i => (Classical.choose (hex i)).2.2, by rw [hlen], by rw [hlen]; exact hc, ?_, ?_⟩
  · intro q hq
    obtain ⟨i, hi, rfl⟩ := List.mem_map.1 hq
    exact ((Classical.choose_spec (hex i)) (by simpa using hi)).2.1
  · refine ⟨fun i => .slice (Classical.choose (hex i)).1 (Classical.choose (hex i)).2.2.length (Classical.choose (hex i)).2.1, ?_, ?_⟩
    · rw [hlen]
      refine SlG.of_sl ?_
      obtain ⟨a', c', e, hm, hc'⟩ := hS
      injection e with e1 e2 e3
      subst e1
      refine ⟨a, c, rfl, hm, fun h0 => ?_⟩
      obtain ⟨b, off, rfl, hb, hcell⟩ := hc' h0
      refine ⟨b, off, rfl, hb, fun i hi j hj => ?_⟩
      rw [hcell i hi j hj, (Classical.choose_spec (hex i) hi).1]
    · intro i hi
      rw [hlen] at hi
      rw [hget i hi]
      exact ((Classical.choose_spec (hex i)) hi).2.2
theorem cells_vw {fuel : Nat} {W : World} {cs : List Value} {y : DataW H × List MemPlace} (hf : DataW.trod enc Try.prog W 0 (fun _ => true) true fuel 26 cs = some y) :
    ∃ (x : Vw) (ma la da : Option Addr) (mc lc dc : Nat), cs = (vwC x ma la da mc lc dc).toList ∧ wfV x ∧ VwG (Old W) W (.slice ma x.mem.length mc) (.slice la x.lvs.length lc) (.slice da x.ldr.length dc) x := by
  obtain ⟨xs, n, _, _, hl, hx, hfl⟩ := DataW.trod_struct Try.underlying26 hf
  have hC26 : Try.prog.cellsOf 26 = 4 := by kernel_rfl
  have hC22 : Try.prog.cellsOf 22 = 1 := by kernel_rfl
  have hC23 : Try.prog.cellsOf 23 = 1 := by kernel_rfl
  have hC24 : Try.prog.cellsOf 24 = 1 := by kernel_rfl
  rw [hC26] at hl
  match cs, hl with
  | [c0, c1, c2, c3], _ =>
    match xs, hx with
    | [x0, x1, x2, x3], _ =>
      have h0 := hfl 0 _ rfl
      have h1 := hfl 1 _ rfl
      have h2 := hfl 2 _ rfl
      have h3 := hfl 3 _ rfl
      simp only [List.getElem_toArray, List.getElem_cons_zero, List.getElem_cons_succ, hC22, hC23, hC24, List.drop_zero, List.drop_succ_cons, List.take_succ_cons, List.take_zero, List.getElem?_cons_zero, List.getElem?_cons_succ] at h0 h1 h2 h3
      obtain ⟨k0, e0, _, w0⟩ := DataW.trod_int Try.underlying22 h0
      obtain ⟨ma, mc, l1, e1, _, o1, s1⟩ := cells_ps h1
      obtain ⟨la, lc, l2, e2, _, o2, s2⟩ := cells_lv h2
      obtain ⟨da, dc, l3, e3, _, o3, s3⟩ := cells_ps h3
      have b0 := bounds_u64 w0
      simp only [List.cons.injEq, and_true] at e0 e1 e2 e3
      subst e0 e1 e2 e3
      refine ⟨⟨k0.toNat, l1, l2, l3⟩, ma, la, da, mc, lc, dc, ?_, ⟨by simp only; omega, o1, o2, o3⟩, s1, s2, s3⟩
      simp only [vwC]
      rw [show ((k0.toNat : Nat) : Int) = k0 by omega]
end
end Go.Proofs.Ytjghcmejmdllbaa
