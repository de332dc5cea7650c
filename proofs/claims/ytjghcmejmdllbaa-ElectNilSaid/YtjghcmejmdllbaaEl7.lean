/- The statement ElectNil of layer 21 (elect), proved; no condition: who is none, messages that came in, the law's walk, and the row round it. -/
import Derived.Test.YtjghcmejmdllbaaEl6
import Derived.Test.YtjghcmejmdllbaaOpenV
import Derived.Test.YtjghcmejmdllbaaLaw
namespace Go.Proofs.Ytjghcmejmdllbaa
open Go.ChangeShapes Go.WideShapes Go.ChangeAt Go.RowKit Go.Maps Go.Deep
set_option linter.unusedVariables false
set_option linter.unusedSimpArgs false
set_option linter.unusedSectionVars false
set_option maxRecDepth 100000
set_option maxHeartbeats 4000000
/-! ### Who is none -/
theorem eStart_nil (v0 v1 v2 v3 : Value) (s : Int) (w : World) : Calls Try.prog 36 #[.pointer none, .agg #[v0, v1, v2, v3], .int .u64 s] w (Ret fun v w' => v = .tuple #[.agg #[.int .u32 0, .int .u16 0, .int .u32 0], .int .i64 8] ∧ Below w.heap.size w w') := by
  have H := St.init w
  go_enter Try.func36, Try.ntmps36
  go_wp2_with (first | (with_reducible refine wpl rfl (Stp.build (v := (.agg #[.int .u32 0, .int .u16 0, .int .u32 0])) 13 rfl rfl (fun W => by kernel_rfl) ?_); simp only [pS]) | (with_reducible refine wpl rfl (Stp.box 4 rfl rfl rfl H ?_); clear H; intro g4 w1 H; simp only [pS]; simp only [pE, nC, pS] at H) | (with_reducible refine wpl rfl (Stp.alloc 6 rfl rfl zero67 H ?_); clear H; intro g6 w1 H; simp only [pS]; simp only [nC] at H) | (with_reducible refine wpl rfl (Stp.str rfl size67 rfl rfl (by first | rfl | (simp [Value.oneCell']; done) | assumption) H uP sZ sZ ?_); clear H; intro w1 H; simp only [pS]) | (with_reducible refine wpl rfl (Stp.stl rfl size67 rfl rfl rfl rfl H uP (by simp) ?_); clear H; intro w1 H; simp only [pS]; simp only [List.drop_succ_cons, List.drop_zero, List.take_succ_cons, List.take_zero, List.nil_append, List.cons_append, Nat.reduceAdd] at H) | (with_reducible refine wpl rfl (Stp.stc rfl size3 rfl rfl rfl rfl H uP (by first | omega | (simp; done) | (simp; omega)) ?_); clear H; intro w1 H; simp only [pS]; simp only [pE, nC, pS] at H) | (with_reducible refine wpl rfl (Stp.stc rfl size22 rfl rfl rfl rfl H uP (by first | omega | (simp; done) | (simp; omega)) ?_); clear H; intro w1 H; simp only [pS]; simp only [pE, nC, pS] at H) | (with_reducible refine wpl rfl (Stp.stc rfl size125 rfl rfl rfl rfl H uP (by first | omega | (simp; done) | (simp; omega)) ?_); clear H; intro w1 H; simp only [pS]; simp only [pE, nC, pS] at H) | (with_reducible refine wpl rfl (Stp.ldc rfl agg23 rfl H mR cE ?_); simp only [pS]) | (with_reducible refine wpl rfl (Stp.ldo rfl agg23 rfl H (by assumption) (by assumption) ?_); simp only [pS]) | (with_reducible refine wpl rfl (Stp.stc rfl size23 rfl rfl rfl rfl H uP (by first | omega | (simp; done) | (simp; omega)) ?_); clear H; intro w1 H; simp only [pS]; simp only [pE, nC, pS] at H) | (with_reducible refine wpl rfl (Stp.str rfl size127 rfl rfl (by first | rfl | (simp [Value.oneCell']; done) | assumption) H uP sZ sZ ?_); clear H; intro w1 H; simp only [pS]) | (with_reducible refine wpl rfl (Stp.stl rfl size127 rfl rfl rfl rfl H uP (by simp) ?_); clear H; intro w1 H; simp only [pS]; simp only [List.drop_succ_cons, List.drop_zero, List.take_succ_cons, List.take_zero, List.nil_append, List.cons_append, Nat.reduceAdd] at H) | (with_reducible refine wpl rfl (Stp.ldr rfl agg67 size67 rfl H mR sZ ?_); simp only [pS]) | (with_reducible refine wpl rfl (Stp.ldl rfl agg67 size67 rfl H mR (by simp) ?_); simp only [pS]; simp only [List.drop_succ_cons, List.drop_zero, List.take_succ_cons, List.take_zero]) | (with_reducible refine wpl rfl (Stp.ldor rfl agg67 size67 rfl H (by assumption) sZ (by assumption) ?_); simp only [pS]))
  exact post_row2 rfl agg67 size67 rfl H mE rfl rfl ⟨_, rfl, rfl, H.below⟩
theorem ePropose_nil (cs : Array Value) (w : World) : Calls Try.prog 37 #[.pointer none, .agg cs] w (Ret fun v w' => v = .tuple #[.agg #[.int .i64 0, .int .u16 0, .int .u32 0, .int .u64 0, .int .u64 0, .slice none 0 0, .int .u64 0, .slice none 0 0, .slice none 0 0, .slice none 0 0], .int .i64 8] ∧ Below w.heap.size w w') := by
  have H := St.init w
  go_enter Try.func37, Try.ntmps37
  go_wp2_with (first | (with_reducible refine wpl rfl (Stp.build (v := (.agg #[.int .i64 0, .int .u16 0, .int .u32 0, .int .u64 0, .int .u64 0, .slice none 0 0, .int .u64 0, .slice none 0 0, .slice none 0 0, .slice none 0 0])) 16 rfl rfl (fun W => by kernel_rfl) ?_); simp only [pS]) | (with_reducible refine wpl rfl (Stp.box 3 rfl rfl rfl H ?_); clear H; intro g3 w1 H; simp only [pS]; simp only [pE, nC, pS] at H) | (with_reducible refine wpl rfl (Stp.alloc 4 rfl rfl zero43 H ?_); clear H; intro g4 w1 H; simp only [pS]; simp only [nC] at H) | (with_reducible refine wpl rfl (Stp.ldc rfl agg3 rfl H mR cE ?_); simp only [pS]) | (with_reducible refine wpl rfl (Stp.ldo rfl agg3 rfl H (by assumption) (by assumption) ?_); simp only [pS]) | (with_reducible refine wpl rfl (Stp.str rfl size43 rfl rfl (by first | rfl | (simp [Value.oneCell']; done) | assumption) H uP sZ sZ ?_); clear H; intro w1 H; simp only [pS]) | (with_reducible refine wpl rfl (Stp.stl rfl size43 rfl rfl rfl rfl H uP (by simp) ?_); clear H; intro w1 H; simp only [pS]; simp only [List.drop_succ_cons, List.drop_zero, List.take_succ_cons, List.take_zero, List.nil_append, List.cons_append, Nat.reduceAdd] at H) | (with_reducible refine wpl rfl (Stp.ldr rfl agg43 size43 rfl H mR sZ ?_); simp only [pS]) | (with_reducible refine wpl rfl (Stp.ldl rfl agg43 size43 rfl H mR (by simp) ?_); simp only [pS]; simp only [List.drop_succ_cons, List.drop_zero, List.take_succ_cons, List.take_zero]) | (with_reducible refine wpl rfl (Stp.ldor rfl agg43 size43 rfl H (by assumption) sZ (by assumption) ?_); simp only [pS]) | (with_reducible refine wpl rfl (Stp.ldc rfl agg125 rfl H mR cE ?_); simp only [pS]) | (with_reducible refine wpl rfl (Stp.ldo rfl agg125 rfl H (by assumption) (by assumption) ?_); simp only [pS]) | (with_reducible refine wpl rfl (Stp.stc rfl size3 rfl rfl rfl rfl H uP (by first | omega | (simp; done) | (simp; omega)) ?_); clear H; intro w1 H; simp only [pS]; simp only [pE, nC, pS] at H) | (with_reducible refine wpl rfl (Stp.str rfl size127 rfl rfl (by first | rfl | (simp [Value.oneCell']; done) | assumption) H uP sZ sZ ?_); clear H; intro w1 H; simp only [pS]) | (with_reducible refine wpl rfl (Stp.stl rfl size127 rfl rfl rfl rfl H uP (by simp) ?_); clear H; intro w1 H; simp only [pS]; simp only [List.drop_succ_cons, List.drop_zero, List.take_succ_cons, List.take_zero, List.nil_append, List.cons_append, Nat.reduceAdd] at H))
  exact post_row2 rfl agg43 size43 rfl H mE rfl rfl ⟨_, rfl, rfl, H.below⟩
theorem eValue_nil (w : World) : Calls Try.prog 38 #[.pointer none] w (Ret fun v w' => v = .tuple #[.agg #[.int .i64 0, .int .u16 0, .int .u32 0, .int .u64 0, .int .u64 0, .slice none 0 0, .int .u64 0, .slice none 0 0, .slice none 0 0, .slice none 0 0], .bool false] ∧ Below w.heap.size w w') := by
  have H := St.init w
  go_enter Try.func38, Try.ntmps38
  go_wp2_with (first | (with_reducible refine wpl rfl (Stp.build (v := (.agg #[.int .i64 0, .int .u16 0, .int .u32 0, .int .u64 0, .int .u64 0, .slice none 0 0, .int .u64 0, .slice none 0 0, .slice none 0 0, .slice none 0 0])) 13 rfl rfl (fun W => by kernel_rfl) ?_); simp only [pS]) | (with_reducible refine wpl rfl (Stp.alloc 2 rfl rfl zero43 H ?_); clear H; intro g2 w1 H; simp only [pS]; simp only [nC] at H) | (with_reducible refine wpl rfl (Stp.ldc rfl agg125 rfl H mR cE ?_); simp only [pS]) | (with_reducible refine wpl rfl (Stp.ldo rfl agg125 rfl H (by assumption) (by assumption) ?_); simp only [pS]) | (with_reducible refine wpl rfl (Stp.str rfl size43 rfl rfl (by first | rfl | (simp [Value.oneCell']; done) | assumption) H uP sZ sZ ?_); clear H; intro w1 H; simp only [pS]) | (with_reducible refine wpl rfl (Stp.stl rfl size43 rfl rfl rfl rfl H uP (by simp) ?_); clear H; intro w1 H; simp only [pS]; simp only [List.drop_succ_cons, List.drop_zero, List.take_succ_cons, List.take_zero, List.nil_append, List.cons_append, Nat.reduceAdd] at H) | (with_reducible refine wpl rfl (Stp.ldr rfl agg43 size43 rfl H mR sZ ?_); simp only [pS]) | (with_reducible refine wpl rfl (Stp.ldl rfl agg43 size43 rfl H mR (by simp) ?_); simp only [pS]; simp only [List.drop_succ_cons, List.drop_zero, List.take_succ_cons, List.take_zero]) | (with_reducible refine wpl rfl (Stp.ldor rfl agg43 size43 rfl H (by assumption) sZ (by assumption) ?_); simp only [pS]))
  exact post_row2 rfl agg43 size43 rfl H mE rfl rfl ⟨_, rfl, rfl, H.below⟩
theorem eSee_nil (v0 v1 v2 : Value) (w : World) : Calls Try.prog 39 #[.pointer none, .agg #[v0, v1, v2]] w (Ret fun v w' => v = .tuple #[] ∧ Below w.heap.size w w') := by
  have H := St.init w
  go_enter Try.func39, Try.ntmps39
  go_wp2_with (first | (with_reducible refine wpl rfl (Stp.box 3 rfl rfl rfl H ?_); clear H; intro g3 w1 H; simp only [pS]; simp only [pE, nC, pS] at H) | (with_reducible refine wpl rfl (Stp.ldr rfl agg67 size67 rfl H mR sZ ?_); simp only [pS]) | (with_reducible refine wpl rfl (Stp.ldl rfl agg67 size67 rfl H mR (by simp) ?_); simp only [pS]; simp only [List.drop_succ_cons, List.drop_zero, List.take_succ_cons, List.take_zero]) | (with_reducible refine wpl rfl (Stp.ldor rfl agg67 size67 rfl H (by assumption) sZ (by assumption) ?_); simp only [pS]) | (with_reducible refine wpl rfl (Stp.str rfl size67 rfl rfl (by first | rfl | (simp [Value.oneCell']; done) | assumption) H uP sZ sZ ?_); clear H; intro w1 H; simp only [pS]) | (with_reducible refine wpl rfl (Stp.stl rfl size67 rfl rfl rfl rfl H uP (by simp) ?_); clear H; intro w1 H; simp only [pS]; simp only [List.drop_succ_cons, List.drop_zero, List.take_succ_cons, List.take_zero, List.nil_append, List.cons_append, Nat.reduceAdd] at H))
  refine rg_begin 10 rfl (S := fun W => St _ _ W _) (by kernel_rfl) H.drew ?_
  replace H := H.drew
  have HS := H
  refine rg_take (i := 0) rfl kR kR kR (Yld.move rfl rfl) (H.sub sU) ?_; simp only [pS, pE]
  refine rg_take (i := 1) rfl kR kR kR (Yld.o rfl) (H.sub sU) ?_; simp only [pS]
  refine rg_take (i := 2) rfl kR kR kR (Yld.move rfl rfl) (H.sub sU) ?_; simp only [pS, pE]
  refine rg_take (i := 3) rfl kR kR kR (Yld.skip rfl) (H.sub sU) ?_; simp only [pS]
  refine rg_take (i := 4) rfl kR kR kR (Yld.skip rfl) (H.sub sU) ?_; simp only [pS]
  refine rg_take (i := 5) rfl kR kR kR (Yld.skip rfl) (H.sub sU) ?_; simp only [pS]
  refine rg_take (i := 6) rfl kR kR kR (Yld.skip rfl) (H.sub sU) ?_; simp only [pS]
  refine rg_take (i := 7) rfl kR kR kR (Yld.skip rfl) (H.sub sU) ?_; simp only [pS]
  refine rg_take (i := 8) rfl kR kR kR (Yld.skip rfl) (H.sub sU) ?_; simp only [pS]
  refine rg_take (i := 9) rfl kR kR kR (Yld.pick rfl rfl rfl) (H.sub sU) ?_; simp only [pS, pE]
  refine rg_done (by kernel_rfl) ?_
  go_wp2_with (first | (with_reducible refine wpl rfl (Stp.box 3 rfl rfl rfl H ?_); clear H; intro g3 w1 H; simp only [pS]; simp only [pE, nC, pS] at H) | (with_reducible refine wpl rfl (Stp.ldr rfl agg67 size67 rfl H mR sZ ?_); simp only [pS]) | (with_reducible refine wpl rfl (Stp.ldl rfl agg67 size67 rfl H mR (by simp) ?_); simp only [pS]; simp only [List.drop_succ_cons, List.drop_zero, List.take_succ_cons, List.take_zero]) | (with_reducible refine wpl rfl (Stp.ldor rfl agg67 size67 rfl H (by assumption) sZ (by assumption) ?_); simp only [pS]) | (with_reducible refine wpl rfl (Stp.str rfl size67 rfl rfl (by first | rfl | (simp [Value.oneCell']; done) | assumption) H uP sZ sZ ?_); clear H; intro w1 H; simp only [pS]) | (with_reducible refine wpl rfl (Stp.stl rfl size67 rfl rfl rfl rfl H uP (by simp) ?_); clear H; intro w1 H; simp only [pS]; simp only [List.drop_succ_cons, List.drop_zero, List.take_succ_cons, List.take_zero, List.nil_append, List.cons_append, Nat.reduceAdd] at H))
  go_end0
  exact ⟨_, rfl, rfl, H.below⟩
theorem eStop_nil (w : World) : Calls Try.prog 40 #[.pointer none] w (Ret fun v w' => v = .tuple #[] ∧ Below w.heap.size w w') := by
  have H := St.init w
  go_enter Try.func40, Try.ntmps40
  go_wp2_with (first | (with_reducible refine wpl rfl (Stp.stc rfl size3 rfl rfl rfl rfl H uP (by first | omega | (simp; done) | (simp; omega)) ?_); clear H; intro w1 H; simp only [pS]; simp only [pE, nC, pS] at H) | (with_reducible refine wpl rfl (Stp.stc rfl size125 rfl rfl rfl rfl H uP (by first | omega | (simp; done) | (simp; omega)) ?_); clear H; intro w1 H; simp only [pS]; simp only [pE, nC, pS] at H))
  go_end0
  exact ⟨_, rfl, rfl, H.below⟩
theorem eanswer_nil (p0 k0 : Int) (cs ds : Array Value) (w : World) : Calls Try.prog 85 #[.pointer none, .int .i64 p0, .int .i64 k0, .agg cs, .agg ds] w (Ret fun v w' => v = .bool false ∧ Below w.heap.size w w') := by
  have H := St.init w
  go_enter Try.func85, Try.ntmps85
  go_wp2_with (first | (with_reducible refine wpl rfl (Stp.box 8 rfl rfl rfl H ?_); clear H; intro g8 w1 H; simp only [pS]; simp only [pE, nC, pS] at H) | (with_reducible refine wpl rfl (Stp.box 9 rfl rfl rfl H ?_); clear H; intro g9 w1 H; simp only [pS]; simp only [pE, nC, pS] at H) | (with_reducible refine wpl rfl (Stp.ldr rfl agg127 size127 rfl H mR sZ ?_); simp only [pS]) | (with_reducible refine wpl rfl (Stp.ldl rfl agg127 size127 rfl H mR (by simp) ?_); simp only [pS]; simp only [List.drop_succ_cons, List.drop_zero, List.take_succ_cons, List.take_zero]) | (with_reducible refine wpl rfl (Stp.ldor rfl agg127 size127 rfl H (by assumption) sZ (by assumption) ?_); simp only [pS]) | (with_reducible refine wpl rfl (Stp.str rfl size127 rfl rfl (by first | rfl | (simp [Value.oneCell']; done) | assumption) H uP sZ sZ ?_); clear H; intro w1 H; simp only [pS]) | (with_reducible refine wpl rfl (Stp.stl rfl size127 rfl rfl rfl rfl H uP (by simp) ?_); clear H; intro w1 H; simp only [pS]; simp only [List.drop_succ_cons, List.drop_zero, List.take_succ_cons, List.take_zero, List.nil_append, List.cons_append, Nat.reduceAdd] at H))
  refine rg_begin 34 rfl (S := fun W => St _ _ W _) (by kernel_rfl) H.drew ?_
  replace H := H.drew
  have HS := H
  refine rg_take (i := 0) rfl kR kR kR (Yld.move rfl rfl) (H.sub sU) ?_; simp only [pS, pE]
  refine rg_take (i := 1) rfl kR kR kR (Yld.o rfl) (H.sub sU) ?_; simp only [pS]
  refine rg_take (i := 2) rfl kR kR kR (Yld.move rfl rfl) (H.sub sU) ?_; simp only [pS, pE]
  refine rg_take (i := 3) rfl kR kR kR (Yld.skip rfl) (H.sub sU) ?_; simp only [pS]
  refine rg_take (i := 4) rfl kR kR kR (Yld.skip rfl) (H.sub sU) ?_; simp only [pS]
  refine rg_take (i := 5) rfl kR kR kR (Yld.skip rfl) (H.sub sU) ?_; simp only [pS]
  refine rg_take (i := 6) rfl kR kR kR (Yld.skip rfl) (H.sub sU) ?_; simp only [pS]
  refine rg_take (i := 7) rfl kR kR kR (Yld.skip rfl) (H.sub sU) ?_; simp only [pS]
  refine rg_take (i := 8) rfl kR kR kR (Yld.skip rfl) (H.sub sU) ?_; simp only [pS]
  refine rg_take (i := 9) rfl kR kR kR (Yld.pick rfl rfl rfl) (H.sub sU) ?_; simp only [pS, pE]
  refine rg_take (i := 10) rfl kR kR kR (Yld.move rfl rfl) (H.sub sU) ?_; simp only [pS, pE]
  refine rg_take (i := 11) rfl kR kR kR (Yld.skip rfl) (H.sub sU) ?_; simp only [pS]
  refine rg_take (i := 12) rfl kR kR kR (Yld.skip rfl) (H.sub sU) ?_; simp only [pS]
  refine rg_take (i := 13) rfl kR kR kR (Yld.skip rfl) (H.sub sU) ?_; simp only [pS]
  refine rg_take (i := 14) rfl kR kR kR (Yld.skip rfl) (H.sub sU) ?_; simp only [pS]
  refine rg_take (i := 15) rfl kR kR kR (Yld.pick rfl rfl rfl) (H.sub sU) ?_; simp only [pS, pE]
  refine rg_take (i := 16) rfl kR kR kR (Yld.move rfl rfl) (H.sub sU) ?_; simp only [pS, pE]
  refine rg_take (i := 17) rfl kR kR kR (Yld.skip rfl) (H.sub sU) ?_; simp only [pS]
  refine rg_take (i := 18) rfl kR kR kR (Yld.skip rfl) (H.sub sU) ?_; simp only [pS]
  refine rg_take (i := 19) rfl kR kR kR (Yld.skip rfl) (H.sub sU) ?_; simp only [pS]
  refine rg_take (i := 20) rfl kR kR kR (Yld.skip rfl) (H.sub sU) ?_; simp only [pS]
  refine rg_take (i := 21) rfl kR kR kR (Yld.skip rfl) (H.sub sU) ?_; simp only [pS]
  refine rg_take (i := 22) rfl kR kR kR (Yld.skip rfl) (H.sub sU) ?_; simp only [pS]
  refine rg_take (i := 23) rfl kR kR kR (Yld.skip rfl) (H.sub sU) ?_; simp only [pS]
  refine rg_take (i := 24) rfl kR kR kR (Yld.pick rfl rfl rfl) (H.sub sU) ?_; simp only [pS, pE]
  refine rg_take (i := 25) rfl kR kR kR (Yld.move rfl rfl) (H.sub sU) ?_; simp only [pS, pE]
  refine rg_take (i := 26) rfl kR kR kR (Yld.skip rfl) (H.sub sU) ?_; simp only [pS]
  refine rg_take (i := 27) rfl kR kR kR (Yld.skip rfl) (H.sub sU) ?_; simp only [pS]
  refine rg_take (i := 28) rfl kR kR kR (Yld.skip rfl) (H.sub sU) ?_; simp only [pS]
  refine rg_take (i := 29) rfl kR kR kR (Yld.skip rfl) (H.sub sU) ?_; simp only [pS]
  refine rg_take (i := 30) rfl kR kR kR (Yld.skip rfl) (H.sub sU) ?_; simp only [pS]
  refine rg_take (i := 31) rfl kR kR kR (Yld.skip rfl) (H.sub sU) ?_; simp only [pS]
  refine rg_take (i := 32) rfl kR kR kR (Yld.skip rfl) (H.sub sU) ?_; simp only [pS]
  refine rg_take (i := 33) rfl kR kR kR (Yld.pick rfl rfl rfl) (H.sub sU) ?_; simp only [pS, pE]
  refine rg_done (by kernel_rfl) ?_
  go_wp2_with (first | (with_reducible refine wpl rfl (Stp.box 8 rfl rfl rfl H ?_); clear H; intro g8 w1 H; simp only [pS]; simp only [pE, nC, pS] at H) | (with_reducible refine wpl rfl (Stp.box 9 rfl rfl rfl H ?_); clear H; intro g9 w1 H; simp only [pS]; simp only [pE, nC, pS] at H) | (with_reducible refine wpl rfl (Stp.ldr rfl agg127 size127 rfl H mR sZ ?_); simp only [pS]) | (with_reducible refine wpl rfl (Stp.ldl rfl agg127 size127 rfl H mR (by simp) ?_); simp only [pS]; simp only [List.drop_succ_cons, List.drop_zero, List.take_succ_cons, List.take_zero]) | (with_reducible refine wpl rfl (Stp.ldor rfl agg127 size127 rfl H (by assumption) sZ (by assumption) ?_); simp only [pS]) | (with_reducible refine wpl rfl (Stp.str rfl size127 rfl rfl (by first | rfl | (simp [Value.oneCell']; done) | assumption) H uP sZ sZ ?_); clear H; intro w1 H; simp only [pS]) | (with_reducible refine wpl rfl (Stp.stl rfl size127 rfl rfl rfl rfl H uP (by simp) ?_); clear H; intro w1 H; simp only [pS]; simp only [List.drop_succ_cons, List.drop_zero, List.take_succ_cons, List.take_zero, List.nil_append, List.cons_append, Nat.reduceAdd] at H))
  go_ret
  exact ⟨_, rfl, rfl, H.below⟩
theorem ePromise_nil (q1 q2 : Value) (kd m1 m2 m3 m5 m6 : Int) (ms : Nat) (mb ma : Bl) (mh : Bool) (mc : Cm) (me : Hd) (mv : Vw) (mx : Hd) (my : Option Addr) (m7 mz : Nat) (w : World) : Calls Try.prog 41 #[.pointer none, .agg #[q1, q2], .agg #[.int .i64 kd, .int .u16 m1, .int .u32 m2, .int .u64 m3, .int .u64 (ms : Int), .int .u64 m5, .int .i64 m6, .int .u32 (mb.r : Int), .int .u16 (mb.w.1 : Int), .int .u32 (mb.w.2 : Int), .int .u32 (ma.r : Int), .int .u16 (ma.w.1 : Int), .int .u32 (ma.w.2 : Int), .bool mh, .int .i64 mc.kind, .int .u16 (mc.fr.1 : Int), .int .u32 (mc.fr.2 : Int), .int .u64 (mc.num : Int), .int .u64 (mc.vw : Int), .slice me.ba mc.data.length me.bc, .int .u64 (mc.v.id : Int), .slice me.ma mc.v.mem.length me.mc, .slice me.la mc.v.lvs.length me.lc, .slice me.da mc.v.ldr.length me.dc, .int .u64 (mv.id : Int), .slice mx.ma mv.mem.length mx.mc, .slice mx.la mv.lvs.length mx.lc, .slice mx.da mv.ldr.length mx.dc, .slice my m7 mz]] w (Ret fun v w' => v = .bool false ∧ Below w.heap.size w w') := by
  have H := St.init w
  go_enter Try.func41, Try.ntmps41
  go_wp2_with (first | (go_at_call 85; (with_reducible refine (eanswer_nil _ _ _ _ _).mono ?_); rintro e w1 ⟨v, rfl, hr⟩; obtain ⟨rfl, hb1⟩ := hr; replace H := H.grow hb1; clear hb1) | (with_reducible refine wpl rfl (Stp.box 4 rfl rfl rfl H ?_); clear H; intro g4 w1 H; simp only [pS]; simp only [pE, nC, pS] at H) | (with_reducible refine wpl rfl (Stp.box 5 rfl rfl rfl H ?_); clear H; intro g5 w1 H; simp only [pS]; simp only [pE, nC, pS] at H) | (with_reducible refine wpl rfl (Stp.ldr rfl agg36 size36 rfl H mR sZ ?_); simp only [pS]) | (with_reducible refine wpl rfl (Stp.ldl rfl agg36 size36 rfl H mR (by simp) ?_); simp only [pS]; simp only [List.drop_succ_cons, List.drop_zero, List.take_succ_cons, List.take_zero]) | (with_reducible refine wpl rfl (Stp.ldor rfl agg36 size36 rfl H (by assumption) sZ (by assumption) ?_); simp only [pS]) | (with_reducible refine wpl rfl (Stp.ldr rfl agg74 size74 rfl H mR sZ ?_); simp only [pS]) | (with_reducible refine wpl rfl (Stp.ldl rfl agg74 size74 rfl H mR (by simp) ?_); simp only [pS]; simp only [List.drop_succ_cons, List.drop_zero, List.take_succ_cons, List.take_zero]) | (with_reducible refine wpl rfl (Stp.ldor rfl agg74 size74 rfl H (by assumption) sZ (by assumption) ?_); simp only [pS]) | (with_reducible refine wpl rfl (Stp.stc rfl size3 rfl rfl rfl rfl H uP (by first | omega | (simp; done) | (simp; omega)) ?_); clear H; intro w1 H; simp only [pS]; simp only [pE, nC, pS] at H))
  go_ret
  exact ⟨_, rfl, rfl, H.below⟩
theorem eAccepted_nil (q1 q2 : Value) (kd m1 m2 m3 m5 m6 : Int) (ms : Nat) (mb ma : Bl) (mh : Bool) (mc : Cm) (me : Hd) (mv : Vw) (mx : Hd) (my : Option Addr) (m7 mz : Nat) (w : World) : Calls Try.prog 42 #[.pointer none, .agg #[q1, q2], .agg #[.int .i64 kd, .int .u16 m1, .int .u32 m2, .int .u64 m3, .int .u64 (ms : Int), .int .u64 m5, .int .i64 m6, .int .u32 (mb.r : Int), .int .u16 (mb.w.1 : Int), .int .u32 (mb.w.2 : Int), .int .u32 (ma.r : Int), .int .u16 (ma.w.1 : Int), .int .u32 (ma.w.2 : Int), .bool mh, .int .i64 mc.kind, .int .u16 (mc.fr.1 : Int), .int .u32 (mc.fr.2 : Int), .int .u64 (mc.num : Int), .int .u64 (mc.vw : Int), .slice me.ba mc.data.length me.bc, .int .u64 (mc.v.id : Int), .slice me.ma mc.v.mem.length me.mc, .slice me.la mc.v.lvs.length me.lc, .slice me.da mc.v.ldr.length me.dc, .int .u64 (mv.id : Int), .slice mx.ma mv.mem.length mx.mc, .slice mx.la mv.lvs.length mx.lc, .slice mx.da mv.ldr.length mx.dc, .slice my m7 mz]] w (Ret fun v w' => v = .bool false ∧ Below w.heap.size w w') := by
  have H := St.init w
  go_enter Try.func42, Try.ntmps42
  go_wp2_with (first | (go_at_call 85; (with_reducible refine (eanswer_nil _ _ _ _ _).mono ?_); rintro e w1 ⟨v, rfl, hr⟩; obtain ⟨rfl, hb1⟩ := hr; replace H := H.grow hb1; clear hb1) | (with_reducible refine wpl rfl (Stp.box 4 rfl rfl rfl H ?_); clear H; intro g4 w1 H; simp only [pS]; simp only [pE, nC, pS] at H) | (with_reducible refine wpl rfl (Stp.box 5 rfl rfl rfl H ?_); clear H; intro g5 w1 H; simp only [pS]; simp only [pE, nC, pS] at H) | (with_reducible refine wpl rfl (Stp.ldr rfl agg36 size36 rfl H mR sZ ?_); simp only [pS]) | (with_reducible refine wpl rfl (Stp.ldl rfl agg36 size36 rfl H mR (by simp) ?_); simp only [pS]; simp only [List.drop_succ_cons, List.drop_zero, List.take_succ_cons, List.take_zero]) | (with_reducible refine wpl rfl (Stp.ldor rfl agg36 size36 rfl H (by assumption) sZ (by assumption) ?_); simp only [pS]) | (with_reducible refine wpl rfl (Stp.ldr rfl agg74 size74 rfl H mR sZ ?_); simp only [pS]) | (with_reducible refine wpl rfl (Stp.ldl rfl agg74 size74 rfl H mR (by simp) ?_); simp only [pS]; simp only [List.drop_succ_cons, List.drop_zero, List.take_succ_cons, List.take_zero]) | (with_reducible refine wpl rfl (Stp.ldor rfl agg74 size74 rfl H (by assumption) sZ (by assumption) ?_); simp only [pS]) | (with_reducible refine wpl rfl (Stp.stc rfl size3 rfl rfl rfl rfl H uP (by first | omega | (simp; done) | (simp; omega)) ?_); clear H; intro w1 H; simp only [pS]; simp only [pE, nC, pS] at H) | (with_reducible refine wpl rfl (Stp.stc rfl size125 rfl rfl rfl rfl H uP (by first | omega | (simp; done) | (simp; omega)) ?_); clear H; intro w1 H; simp only [pS]; simp only [pE, nC, pS] at H) | (with_reducible refine wpl rfl (Stp.ldc rfl agg22 rfl H mR cE ?_); simp only [pS]) | (with_reducible refine wpl rfl (Stp.ldo rfl agg22 rfl H (by assumption) (by assumption) ?_); simp only [pS]) | (with_reducible refine wpl rfl (Stp.stc rfl size22 rfl rfl rfl rfl H uP (by first | omega | (simp; done) | (simp; omega)) ?_); clear H; intro w1 H; simp only [pS]; simp only [pE, nC, pS] at H))
  go_ret
  exact ⟨_, rfl, rfl, H.below⟩
theorem eNack_nil (cs : Array Value) (w : World) : Calls Try.prog 43 #[.pointer none, .agg cs] w (Ret fun v w' => v = .bool false ∧ Below w.heap.size w w') := by
  have H := St.init w
  go_enter Try.func43, Try.ntmps43
  go_wp2_with (first | (with_reducible refine wpl rfl (Stp.box 3 rfl rfl rfl H ?_); clear H; intro g3 w1 H; simp only [pS]; simp only [pE, nC, pS] at H) | (with_reducible refine wpl rfl (Stp.ldr rfl agg67 size67 rfl H mR sZ ?_); simp only [pS]) | (with_reducible refine wpl rfl (Stp.ldl rfl agg67 size67 rfl H mR (by simp) ?_); simp only [pS]; simp only [List.drop_succ_cons, List.drop_zero, List.take_succ_cons, List.take_zero]) | (with_reducible refine wpl rfl (Stp.ldor rfl agg67 size67 rfl H (by assumption) sZ (by assumption) ?_); simp only [pS]))
  refine rg_begin 24 rfl (S := fun W => St _ _ W _) (by kernel_rfl) H.drew ?_
  replace H := H.drew
  have HS := H
  refine rg_take (i := 0) rfl kR kR kR (Yld.move rfl rfl) (H.sub sU) ?_; simp only [pS, pE]
  refine rg_take (i := 1) rfl kR kR kR (Yld.o rfl) (H.sub sU) ?_; simp only [pS]
  refine rg_take (i := 2) rfl kR kR kR (Yld.move rfl rfl) (H.sub sU) ?_; simp only [pS, pE]
  refine rg_take (i := 3) rfl kR kR kR (Yld.skip rfl) (H.sub sU) ?_; simp only [pS]
  refine rg_take (i := 4) rfl kR kR kR (Yld.skip rfl) (H.sub sU) ?_; simp only [pS]
  refine rg_take (i := 5) rfl kR kR kR (Yld.skip rfl) (H.sub sU) ?_; simp only [pS]
  refine rg_take (i := 6) rfl kR kR kR (Yld.skip rfl) (H.sub sU) ?_; simp only [pS]
  refine rg_take (i := 7) rfl kR kR kR (Yld.skip rfl) (H.sub sU) ?_; simp only [pS]
  refine rg_take (i := 8) rfl kR kR kR (Yld.pick rfl rfl rfl) (H.sub sU) ?_; simp only [pS, pE]
  refine rg_take (i := 9) rfl kR kR kR (Yld.move rfl rfl) (H.sub sU) ?_; simp only [pS, pE]
  refine rg_take (i := 10) rfl kR kR kR (Yld.skip rfl) (H.sub sU) ?_; simp only [pS]
  refine rg_take (i := 11) rfl kR kR kR (Yld.skip rfl) (H.sub sU) ?_; simp only [pS]
  refine rg_take (i := 12) rfl kR kR kR (Yld.skip rfl) (H.sub sU) ?_; simp only [pS]
  refine rg_take (i := 13) rfl kR kR kR (Yld.pick rfl rfl rfl) (H.sub sU) ?_; simp only [pS, pE]
  refine rg_take (i := 14) rfl kR kR kR (Yld.move rfl rfl) (H.sub sU) ?_; simp only [pS, pE]
  refine rg_take (i := 15) rfl kR kR kR (Yld.skip rfl) (H.sub sU) ?_; simp only [pS]
  refine rg_take (i := 16) rfl kR kR kR (Yld.skip rfl) (H.sub sU) ?_; simp only [pS]
  refine rg_take (i := 17) rfl kR kR kR (Yld.skip rfl) (H.sub sU) ?_; simp only [pS]
  refine rg_take (i := 18) rfl kR kR kR (Yld.skip rfl) (H.sub sU) ?_; simp only [pS]
  refine rg_take (i := 19) rfl kR kR kR (Yld.skip rfl) (H.sub sU) ?_; simp only [pS]
  refine rg_take (i := 20) rfl kR kR kR (Yld.skip rfl) (H.sub sU) ?_; simp only [pS]
  refine rg_take (i := 21) rfl kR kR kR (Yld.skip rfl) (H.sub sU) ?_; simp only [pS]
  refine rg_take (i := 22) rfl kR kR kR (Yld.skip rfl) (H.sub sU) ?_; simp only [pS]
  refine rg_take (i := 23) rfl kR kR kR (Yld.pick rfl rfl rfl) (H.sub sU) ?_; simp only [pS, pE]
  refine rg_done (by kernel_rfl) ?_
  go_wp2_with (first | (with_reducible refine wpl rfl (Stp.box 3 rfl rfl rfl H ?_); clear H; intro g3 w1 H; simp only [pS]; simp only [pE, nC, pS] at H) | (with_reducible refine wpl rfl (Stp.ldr rfl agg67 size67 rfl H mR sZ ?_); simp only [pS]) | (with_reducible refine wpl rfl (Stp.ldl rfl agg67 size67 rfl H mR (by simp) ?_); simp only [pS]; simp only [List.drop_succ_cons, List.drop_zero, List.take_succ_cons, List.take_zero]) | (with_reducible refine wpl rfl (Stp.ldor rfl agg67 size67 rfl H (by assumption) sZ (by assumption) ?_); simp only [pS]))
  go_ret
  exact ⟨_, rfl, rfl, H.below⟩
theorem eMove_nil (s : Int) (w : World) : Calls Try.prog 44 #[.pointer none, .int .u64 s] w (Ret fun v w' => v = .bool false ∧ Below w.heap.size w w') := by
  have H := St.init w
  go_enter Try.func44, Try.ntmps44
  go_wp2_with (first | (with_reducible refine wpl rfl (Stp.ldc rfl agg3 rfl H mR cE ?_); simp only [pS]) | (with_reducible refine wpl rfl (Stp.ldo rfl agg3 rfl H (by assumption) (by assumption) ?_); simp only [pS]) | (with_reducible refine wpl rfl (Stp.ldc rfl agg22 rfl H mR cE ?_); simp only [pS]) | (with_reducible refine wpl rfl (Stp.ldo rfl agg22 rfl H (by assumption) (by assumption) ?_); simp only [pS]))
  go_ret
  exact ⟨_, rfl, rfl, H.below⟩
theorem ePhase_nil (w : World) : Calls Try.prog 45 #[.pointer none] w (Ret fun v w' => v = .int .i64 0 ∧ Below w.heap.size w w') := by
  have H := St.init w
  go_enter Try.func45, Try.ntmps45
  go_wp2_with (first | (with_reducible refine wpl rfl (Stp.ldc rfl agg3 rfl H mR cE ?_); simp only [pS]) | (with_reducible refine wpl rfl (Stp.ldo rfl agg3 rfl H (by assumption) (by assumption) ?_); simp only [pS]))
  go_ret
  exact ⟨_, rfl, rfl, H.below⟩
theorem eSlot_nil (w : World) : Calls Try.prog 46 #[.pointer none] w (Ret fun v w' => v = .int .u64 0 ∧ Below w.heap.size w w') := by
  have H := St.init w
  go_enter Try.func46, Try.ntmps46
  go_wp2_with (first | (with_reducible refine wpl rfl (Stp.ldc rfl agg22 rfl H mR cE ?_); simp only [pS]) | (with_reducible refine wpl rfl (Stp.ldo rfl agg22 rfl H (by assumption) (by assumption) ?_); simp only [pS]))
  go_ret
  exact ⟨_, rfl, rfl, H.below⟩
theorem eBallot_nil (w : World) : Calls Try.prog 31 #[.pointer none] w (Ret fun v w' => v = .agg #[.int .u32 0, .int .u16 0, .int .u32 0] ∧ Below w.heap.size w w') := by
  have H := St.init w
  go_enter Try.func31, Try.ntmps31
  go_wp2_with (first | (with_reducible refine wpl rfl (Stp.build (v := (.agg #[.int .u32 0, .int .u16 0, .int .u32 0])) 5 rfl rfl (fun W => by kernel_rfl) ?_); simp only [pS]) | (with_reducible refine wpl rfl (Stp.alloc 2 rfl rfl zero67 H ?_); clear H; intro g2 w1 H; simp only [pS]; simp only [nC] at H) | (with_reducible refine wpl rfl (Stp.str rfl size67 rfl rfl (by first | rfl | (simp [Value.oneCell']; done) | assumption) H uP sZ sZ ?_); clear H; intro w1 H; simp only [pS]) | (with_reducible refine wpl rfl (Stp.stl rfl size67 rfl rfl rfl rfl H uP (by simp) ?_); clear H; intro w1 H; simp only [pS]; simp only [List.drop_succ_cons, List.drop_zero, List.take_succ_cons, List.take_zero, List.nil_append, List.cons_append, Nat.reduceAdd] at H) | (with_reducible refine wpl rfl (Stp.ldr rfl agg67 size67 rfl H mR sZ ?_); simp only [pS]) | (with_reducible refine wpl rfl (Stp.ldl rfl agg67 size67 rfl H mR (by simp) ?_); simp only [pS]; simp only [List.drop_succ_cons, List.drop_zero, List.take_succ_cons, List.take_zero]) | (with_reducible refine wpl rfl (Stp.ldor rfl agg67 size67 rfl H (by assumption) sZ (by assumption) ?_); simp only [pS]))
  exact post_row rfl agg67 size67 rfl H mE rfl rfl ⟨_, rfl, rfl, H.below⟩
theorem eWaits_nil (w : World) : Calls Try.prog 47 #[.pointer none] w (Ret fun v w' => v = .slice none 0 0 ∧ Below w.heap.size w w') := by
  have H := St.init w
  go_enter Try.func47, Try.ntmps47
  go_wp2_with (first | (with_reducible refine wpl rfl (Stp.ldc rfl agg3 rfl H mR cE ?_); simp only [pS]) | (with_reducible refine wpl rfl (Stp.ldo rfl agg3 rfl H (by assumption) (by assumption) ?_); simp only [pS]) | (with_reducible refine wpl rfl (Stp.ldc rfl agg23 rfl H mR cE ?_); simp only [pS]) | (with_reducible refine wpl rfl (Stp.ldo rfl agg23 rfl H (by assumption) (by assumption) ?_); simp only [pS]) | (with_reducible refine wpl rfl (Stp.ldr rfl agg36 size36 rfl H mR sZ ?_); simp only [pS]) | (with_reducible refine wpl rfl (Stp.ldl rfl agg36 size36 rfl H mR (by simp) ?_); simp only [pS]; simp only [List.drop_succ_cons, List.drop_zero, List.take_succ_cons, List.take_zero]) | (with_reducible refine wpl rfl (Stp.ldor rfl agg36 size36 rfl H (by assumption) sZ (by assumption) ?_); simp only [pS]) | (with_reducible refine wpl rfl (Stp.alloc 5 rfl rfl zero36 H ?_); clear H; intro g5 w1 H; simp only [pS]; simp only [nC] at H) | (with_reducible refine wpl rfl (Stp.str rfl size36 rfl rfl (by first | rfl | (simp [Value.oneCell']; done) | assumption) H uP sZ sZ ?_); clear H; intro w1 H; simp only [pS]) | (with_reducible refine wpl rfl (Stp.stl rfl size36 rfl rfl rfl rfl H uP (by simp) ?_); clear H; intro w1 H; simp only [pS]; simp only [List.drop_succ_cons, List.drop_zero, List.take_succ_cons, List.take_zero, List.nil_append, List.cons_append, Nat.reduceAdd] at H) | (with_reducible refine wpl rfl (Stp.ldr rfl agg127 size127 rfl H mR sZ ?_); simp only [pS]) | (with_reducible refine wpl rfl (Stp.ldl rfl agg127 size127 rfl H mR (by simp) ?_); simp only [pS]; simp only [List.drop_succ_cons, List.drop_zero, List.take_succ_cons, List.take_zero]) | (with_reducible refine wpl rfl (Stp.ldor rfl agg127 size127 rfl H (by assumption) sZ (by assumption) ?_); simp only [pS]))
  go_ret
  exact ⟨_, rfl, rfl, H.below⟩
/-! ### Messages -/
/-- What any message that came in has. -/
structure wfM (W : World) (ms : Nat) (mb ma : Bl) (mc : Cm) (me : Hd) (mv : Vw) (mx : Hd) (m7 mz : Nat) : Prop where
  s : ms < 18446744073709551616
  b0 : mb.r < 4294967296
  b1 : mb.w.1 < 65536
  b2 : mb.w.2 < 4294967296
  a0 : ma.r < 4294967296
  a1 : ma.w.1 < 65536
  a2 : ma.w.2 < 4294967296
  c : wfC mc
  x : CmG (Old W) W (.slice me.ba mc.data.length me.bc) (.slice me.ma mc.v.mem.length me.mc) (.slice me.la mc.v.lvs.length me.lc) (.slice me.da mc.v.ldr.length me.dc) mc
  v : wfV mv
  y : VwG (Old W) W (.slice mx.ma mv.mem.length mx.mc) (.slice mx.la mv.lvs.length mx.lc) (.slice mx.da mv.ldr.length mx.dc) mv
  cap : mc.data.length ≤ me.bc
def gM (mc : Cm) (mv : Vw) (m7 : Nat) : Bool := decide (400 < m7) || gC mc || gV mv
attribute [local irreducible] gC gV
theorem rmgreat_is {G1 G2 : Nat → Prop} (kd m1 m2 m3 m5 m6 : Int) (ms : Nat) (mb ma : Bl) (mh : Bool) (mc : Cm) (me : Hd) (mv : Vw) (mx : Hd) (my : Option Addr) (m7 mz : Nat) (w : World) (e : Bool) (he : gM mc mv m7 = e) (hx : CmG G1 w (.slice me.ba mc.data.length me.bc) (.slice me.ma mc.v.mem.length me.mc) (.slice me.la mc.v.lvs.length me.lc) (.slice me.da mc.v.ldr.length me.dc) mc) (hy : VwG G2 w (.slice mx.ma mv.mem.length mx.mc) (.slice mx.la mv.lvs.length mx.lc) (.slice mx.da mv.ldr.length mx.dc) mv) :
    Calls Try.prog 35 #[.agg #[.int .i64 kd, .int .u16 m1, .int .u32 m2, .int .u64 m3, .int .u64 (ms : Int), .int .u64 m5, .int .i64 m6, .int .u32 (mb.r : Int), .int .u16 (mb.w.1 : Int), .int .u32 (mb.w.2 : Int), .int .u32 (ma.r : Int), .int .u16 (ma.w.1 : Int), .int .u32 (ma.w.2 : Int), .bool mh, .int .i64 mc.kind, .int .u16 (mc.fr.1 : Int), .int .u32 (mc.fr.2 : Int), .int .u64 (mc.num : Int), .int .u64 (mc.vw : Int), .slice me.ba mc.data.length me.bc, .int .u64 (mc.v.id : Int), .slice me.ma mc.v.mem.length me.mc, .slice me.la mc.v.lvs.length me.lc, .slice me.da mc.v.ldr.length me.dc, .int .u64 (mv.id : Int), .slice mx.ma mv.mem.length mx.mc, .slice mx.la mv.lvs.length mx.lc, .slice mx.da mv.ldr.length mx.dc, .slice my m7 mz]] w (Ret fun v w' => v = .bool e ∧ Below w.heap.size w w') := by
  have H := St.init w
  obtain ⟨e1, he1⟩ : ∃ e1, gC mc = e1 := ⟨_, rfl⟩
  obtain ⟨e2, he2⟩ : ∃ e2, gV mv = e2 := ⟨_, rfl⟩
  have HGC := Lib.hid he1
  have HGV := Lib.hid he2
  subst he
  unfold gM
  rw [he1, he2]
  clear he1 he2
  by_cases h7 : 400 < m7
  · have hi : (400 : Int) < (m7 : Int) := by omega
    rw [decide_eq_true h7]
    clear h7
    go_enter Try.func35, Try.ntmps35
    go_wp2_with (first | (with_reducible refine wpl rfl (Stp.box 1 rfl rfl rfl H ?_); clear H; intro g1 w1 H; simp only [pS]; simp only [pE, nC, pS] at H) | (with_reducible refine wpl rfl (Stp.ldc rfl agg37 rfl H mR cE ?_); simp only [pS]) | (with_reducible refine wpl rfl (Stp.ldo rfl agg37 rfl H (by assumption) (by assumption) ?_); simp only [pS]) | (with_reducible refine wpl rfl (Stp.ldr rfl agg43 size43 rfl H mR sZ ?_); simp only [pS]) | (with_reducible refine wpl rfl (Stp.ldl rfl agg43 size43 rfl H mR (by simp) ?_); simp only [pS]; simp only [List.drop_succ_cons, List.drop_zero, List.take_succ_cons, List.take_zero]) | (with_reducible refine wpl rfl (Stp.ldor rfl agg43 size43 rfl H (by assumption) sZ (by assumption) ?_); simp only [pS]) | (with_reducible refine wpl rfl (Stp.ldr rfl agg26 size26 rfl H mR sZ ?_); simp only [pS]) | (with_reducible refine wpl rfl (Stp.ldl rfl agg26 size26 rfl H mR (by simp) ?_); simp only [pS]; simp only [List.drop_succ_cons, List.drop_zero, List.take_succ_cons, List.take_zero]) | (with_reducible refine wpl rfl (Stp.ldor rfl agg26 size26 rfl H (by assumption) sZ (by assumption) ?_); simp only [pS]))
    go_ret
    exact ⟨_, rfl, rfl, H.below⟩
  · have hi : decide ((400 : Int) < (m7 : Int)) = false := decide_eq_false (by omega)
    rw [decide_eq_false h7]
    clear h7
    cases e1
    all_goals
      go_enter Try.func35, Try.ntmps35
      go_wp2_with (first | (go_at_call 58; (with_reducible refine (rcgreat_is mc me.ba me.ma me.la me.da me.bc me.mc me.lc me.dc _ _ HGC.out (hx.grow H.below)).mono ?_); rintro e w1 ⟨v, rfl, hr⟩; obtain ⟨rfl, hb1⟩ := hr; replace H := H.grow hb1; clear hb1) | (go_at_call 27; (with_reducible refine (rgreat_is mv mx.ma mx.la mx.da mx.mc mx.lc mx.dc _ _ HGV.out (hy.grow H.below)).mono ?_); rintro e w1 ⟨v, rfl, hr⟩; obtain ⟨rfl, hb1⟩ := hr; replace H := H.grow hb1; clear hb1) | (with_reducible refine wpl rfl (Stp.box 1 rfl rfl rfl H ?_); clear H; intro g1 w1 H; simp only [pS]; simp only [pE, nC, pS] at H) | (with_reducible refine wpl rfl (Stp.ldc rfl agg37 rfl H mR cE ?_); simp only [pS]) | (with_reducible refine wpl rfl (Stp.ldo rfl agg37 rfl H (by assumption) (by assumption) ?_); simp only [pS]) | (with_reducible refine wpl rfl (Stp.ldr rfl agg43 size43 rfl H mR sZ ?_); simp only [pS]) | (with_reducible refine wpl rfl (Stp.ldl rfl agg43 size43 rfl H mR (by simp) ?_); simp only [pS]; simp only [List.drop_succ_cons, List.drop_zero, List.take_succ_cons, List.take_zero]) | (with_reducible refine wpl rfl (Stp.ldor rfl agg43 size43 rfl H (by assumption) sZ (by assumption) ?_); simp only [pS]) | (with_reducible refine wpl rfl (Stp.ldr rfl agg26 size26 rfl H mR sZ ?_); simp only [pS]) | (with_reducible refine wpl rfl (Stp.ldl rfl agg26 size26 rfl H mR (by simp) ?_); simp only [pS]; simp only [List.drop_succ_cons, List.drop_zero, List.take_succ_cons, List.take_zero]) | (with_reducible refine wpl rfl (Stp.ldor rfl agg26 size26 rfl H (by assumption) sZ (by assumption) ?_); simp only [pS]))
      go_ret
      exact ⟨_, rfl, rfl, H.below⟩
section
variable {a : Act} {w : World} {o : Oper} {N : Act → World → Prop} {x y : Operand}
theorem Stp.eqBl0 (ho : o.op = .binOp .eql 67 x y 67) (hx : a.eval x = .agg #[.int .u32 0, .int .u16 0, .int .u32 0]) (hy : a.eval y = .agg #[.int .u32 0, .int .u16 0, .int .u32 0]) (h : N (a.put o.dst (.bool true)) w) : Stp Try.prog o a w N := by
  refine ⟨w, .inl ⟨_, ?_, h⟩⟩
  have h2 : (Op.equal 67 (.agg #[.int .u32 0, .int .u16 0, .int .u32 0]) (.agg #[.int .u32 0, .int .u16 0, .int .u32 0])).run Try.prog w = .ok true w := eqBT 0 0 0 0 0 0 w
  have h3 : (binOp .eql 67 (.agg #[.int .u32 0, .int .u16 0, .int .u32 0]) (.agg #[.int .u32 0, .int .u16 0, .int .u32 0])).run Try.prog w = .ok (.bool true) w := by
    simp only [binOp]
    simp [h2]
  unfold execOp; simp only [ho, hx, hy]
  simp [h3, eqGuard, eqg_BT]
end
section
variable {H : Type} {enc : TypeId × Value → H}
theorem cells_bl {fuel : Nat} {W : World} {cs : List Value} {y : DataW H × List MemPlace} (hf : DataW.trod enc Try.prog W 0 (fun _ => true) true fuel 67 cs = some y) :
    ∃ b : Bl, cs = (blC b).toList ∧ b.r < 4294967296 ∧ b.w.1 < 65536 ∧ b.w.2 < 4294967296 := by
  obtain ⟨xs, n, _, _, hl, hx, hfl⟩ := DataW.trod_struct Try.underlying67 hf
  have hC67 : Try.prog.cellsOf 67 = 3 := by kernel_rfl
  have hC34 : Try.prog.cellsOf 34 = 1 := by kernel_rfl
  have hC36 : Try.prog.cellsOf 36 = 2 := by kernel_rfl
  rw [hC67] at hl
  match cs, hl with
  | [c0, c1, c2], _ =>
    match xs, hx with
    | [x0, x1], _ =>
      have h0 := hfl 0 _ rfl
      have h1 := hfl 1 _ rfl
      simp only [List.getElem_toArray, List.getElem_cons_zero, List.getElem_cons_succ, hC34, hC36, List.drop_zero, List.drop_succ_cons, List.take_succ_cons, List.take_zero, List.getElem?_cons_zero, List.getElem?_cons_succ] at h0 h1
      obtain ⟨k0, e0, _, w0⟩ := DataW.trod_int Try.underlying34 h0
      obtain ⟨p, q, e1, hp, hq⟩ := cells_pid h1
      have b0 := bounds_u32 w0
      simp only [List.cons.injEq, and_true] at e0 e1
      obtain ⟨rfl, rfl⟩ := e1
      subst e0
      refine ⟨⟨k0.toNat, (p, q)⟩, ?_, by simp only; omega, hp, hq⟩
      simp only [blC]
      rw [show ((k0.toNat : Nat) : Int) = k0 by omega]
theorem cells_cmM {fuel : Nat} {W : World} {cs : List Value} {y : DataW H × List MemPlace} (hf : DataW.trod enc Try.prog W 0 (fun _ => true) true fuel 43 cs = some y) :
    ∃ (c : Cm) (ba ma la da : Option Addr) (bc mc lc dc : Nat), cs = (cmC c ba ma la da bc mc lc dc).toList ∧ c.data.length ≤ bc ∧ wfC c ∧ CmG (Old W) W (.slice ba c.data.length bc) (.slice ma c.v.mem.length mc) (.slice la c.v.lvs.length lc) (.slice da c.v.ldr.length dc) c := by
  obtain ⟨xs, n, _, _, hl, hx, hfl⟩ := DataW.trod_struct Try.underlying43 hf
  have hC43 : Try.prog.cellsOf 43 = 10 := by kernel_rfl
  have hC3 : Try.prog.cellsOf 3 = 1 := by kernel_rfl
  have hC22 : Try.prog.cellsOf 22 = 1 := by kernel_rfl
  have hC36 : Try.prog.cellsOf 36 = 2 := by kernel_rfl
  have hC37 : Try.prog.cellsOf 37 = 1 := by kernel_rfl
  have hC26 : Try.prog.cellsOf 26 = 4 := by kernel_rfl
  rw [hC43] at hl
  match cs, hl with
  | [c0, c1, c2, c3, c4, c5, c6, c7, c8, c9], _ =>
    match xs, hx with
    | [x0, x1, x2, x3, x4, x5], _ =>
      have h0 := hfl 0 _ rfl
      have h1 := hfl 1 _ rfl
      have h2 := hfl 2 _ rfl
      have h3 := hfl 3 _ rfl
      have h4 := hfl 4 _ rfl
      have h5 := hfl 5 _ rfl
      simp only [List.getElem_toArray, List.getElem_cons_zero, List.getElem_cons_succ, hC3, hC22, hC36, hC37, hC26, List.drop_zero, List.drop_succ_cons, List.take_succ_cons, List.take_zero, List.getElem?_cons_zero, List.getElem?_cons_succ] at h0 h1 h2 h3 h4 h5
      obtain ⟨k0, e0, _, w0⟩ := DataW.trod_int Try.underlying3 h0
      obtain ⟨p, q, e1, hp, hq⟩ := cells_pid h1
      obtain ⟨k2, e2, _, w2⟩ := DataW.trod_int Try.underlying22 h2
      obtain ⟨k3, e3, _, w3⟩ := DataW.trod_int Try.underlying22 h3
      obtain ⟨ba, bc, l, e4, hcap, hb, sb⟩ := cells_bs h4
      obtain ⟨v, ma, la, da, mc, lc, dc, e5, hv, sv⟩ := cells_vw h5
      have b2 := bounds_u64 w2
      have b3 := bounds_u64 w3
      simp only [vwC, List.toList_toArray, List.cons.injEq, and_true] at e0 e1 e2 e3 e4 e5
      obtain ⟨rfl, rfl⟩ := e1
      obtain ⟨rfl, rfl, rfl, rfl⟩ := e5
      subst e0 e2 e3 e4
      refine ⟨⟨k0, (p, q), k2.toNat, k3.toNat, l, v⟩, ba, ma, la, da, bc, mc, lc, dc, ?_, hcap, ⟨hp, hq, by simp only; omega, by simp only; omega, hb, hv⟩, SlG.of_sl sb, sv⟩
      simp only [cmC]
      rw [show ((k2.toNat : Nat) : Int) = k2 by omega, show ((k3.toNat : Nat) : Int) = k3 by omega]
theorem cells_msg {fuel : Nat} {W : World} {cs : List Value} {y : DataW H × List MemPlace} (hf : DataW.trod enc Try.prog W 0 (fun _ => true) true fuel 74 cs = some y) :
    ∃ (kd m1 m2 m3 m5 m6 : Int) (ms : Nat) (mb ma : Bl) (mh : Bool) (mc : Cm) (me : Hd) (mv : Vw) (mx : Hd) (my : Option Addr) (m7 mz : Nat), cs = (#[.int .i64 kd, .int .u16 m1, .int .u32 m2, .int .u64 m3, .int .u64 (ms : Int), .int .u64 m5, .int .i64 m6, .int .u32 (mb.r : Int), .int .u16 (mb.w.1 : Int), .int .u32 (mb.w.2 : Int), .int .u32 (ma.r : Int), .int .u16 (ma.w.1 : Int), .int .u32 (ma.w.2 : Int), .bool mh, .int .i64 mc.kind, .int .u16 (mc.fr.1 : Int), .int .u32 (mc.fr.2 : Int), .int .u64 (mc.num : Int), .int .u64 (mc.vw : Int), .slice me.ba mc.data.length me.bc, .int .u64 (mc.v.id : Int), .slice me.ma mc.v.mem.length me.mc, .slice me.la mc.v.lvs.length me.lc, .slice me.da mc.v.ldr.length me.dc, .int .u64 (mv.id : Int), .slice mx.ma mv.mem.length mx.mc, .slice mx.la mv.lvs.length mx.lc, .slice mx.da mv.ldr.length mx.dc, .slice my m7 mz] : Array Value).toList ∧ wfM W ms mb ma mc me mv mx m7 mz := by
  obtain ⟨xs, n, _, _, hl, hx, hfl⟩ := DataW.trod_struct Try.underlying74 hf
  have hC74 : Try.prog.cellsOf 74 = 29 := by kernel_rfl
  have hC3 : Try.prog.cellsOf 3 = 1 := by kernel_rfl
  have hC22 : Try.prog.cellsOf 22 = 1 := by kernel_rfl
  have hC36 : Try.prog.cellsOf 36 = 2 := by kernel_rfl
  have hC67 : Try.prog.cellsOf 67 = 3 := by kernel_rfl
  have hC4 : Try.prog.cellsOf 4 = 1 := by kernel_rfl
  have hC43 : Try.prog.cellsOf 43 = 10 := by kernel_rfl
  have hC26 : Try.prog.cellsOf 26 = 4 := by kernel_rfl
  have hC37 : Try.prog.cellsOf 37 = 1 := by kernel_rfl
  rw [hC74] at hl
  match cs, hl with
  | [c0, c1, c2, c3, c4, c5, c6, c7, c8, c9, c10, c11, c12, c13, c14, c15, c16, c17, c18, c19, c20, c21, c22, c23, c24, c25, c26, c27, c28], _ =>
    match xs, hx with
    | [x0, x1, x2, x3, x4, x5, x6, x7, x8, x9, x10, x11], _ =>
      have h0 := hfl 0 _ rfl
      have h1 := hfl 1 _ rfl
      have h2 := hfl 2 _ rfl
      have h3 := hfl 3 _ rfl
      have h4 := hfl 4 _ rfl
      have h5 := hfl 5 _ rfl
      have h6 := hfl 6 _ rfl
      have h7 := hfl 7 _ rfl
      have h8 := hfl 8 _ rfl
      have h9 := hfl 9 _ rfl
      have h10 := hfl 10 _ rfl
      have h11 := hfl 11 _ rfl
      simp only [List.getElem_toArray, List.getElem_cons_zero, List.getElem_cons_succ, hC3, hC22, hC36, hC67, hC4, hC43, hC26, hC37, List.drop_zero, List.drop_succ_cons, List.take_succ_cons, List.take_zero, List.getElem?_cons_zero, List.getElem?_cons_succ] at h0 h1 h2 h3 h4 h5 h6 h7 h8 h9 h10 h11
      obtain ⟨k0, e0, _, w0⟩ := DataW.trod_int Try.underlying3 h0
      obtain ⟨p1, p2, e1, _, _⟩ := cells_pid h1
      obtain ⟨k2, e2, _, w2⟩ := DataW.trod_int Try.underlying22 h2
      obtain ⟨k3, e3, _, w3⟩ := DataW.trod_int Try.underlying22 h3
      obtain ⟨k4, e4, _, w4⟩ := DataW.trod_int Try.underlying22 h4
      obtain ⟨k5, e5, _, w5⟩ := DataW.trod_int Try.underlying3 h5
      obtain ⟨b, e6, bb0, bb1, bb2⟩ := cells_bl h6
      obtain ⟨b', e7, aa0, aa1, aa2⟩ := cells_bl h7
      obtain ⟨tv, e8, _⟩ := DataW.trod_bool Try.underlying4 h8
      obtain ⟨c, ba, ma, la, da, bc, mc, lc, dc, e9, hcap, hw, hc⟩ := cells_cmM h9
      obtain ⟨v, mav, lav, dav, mcv, lcv, dcv, e10, hvw, hvx⟩ := cells_vw h10
      obtain ⟨a11, c11', l11, e11, _, _, _⟩ := cells_bs h11
      have bs3 := bounds_u64 w3
      simp only [blC, cmC, vwC, List.toList_toArray, List.cons.injEq, and_true] at e0 e1 e2 e3 e4 e5 e6 e7 e8 e9 e10 e11
      obtain ⟨rfl, rfl⟩ := e1
      obtain ⟨rfl, rfl, rfl⟩ := e6
      obtain ⟨rfl, rfl, rfl⟩ := e7
      obtain ⟨rfl, rfl, rfl, rfl, rfl, rfl, rfl, rfl, rfl, rfl⟩ := e9
      obtain ⟨rfl, rfl, rfl, rfl⟩ := e10
      subst e0 e2 e3 e4 e5 e8 e11
      refine ⟨k0, p1, p2, k2, k4, k5, k3.toNat, b, b', tv, c, ⟨ba, ma, la, da, bc, mc, lc, dc⟩, v, ⟨none, mav, lav, dav, 0, mcv, lcv, dcv⟩, a11, l11.length, c11', ?_, ⟨by omega, bb0, bb1, bb2, aa0, aa1, aa2, hw, hc, hvw, hvx, hcap⟩⟩
      rw [show ((k3.toNat : Nat) : Int) = k3 by omega]
theorem open_msg {W : World} {base : Nat} {v : Value} {d : DataW H} {p : List MemPlace} (hv : Value.okWide Try.prog W .any base 74 v) (h : DataW.Trod enc Try.prog W 0 (fun _ => true) true 74 v d p) :
    ∃ (kd m1 m2 m3 m5 m6 : Int) (ms : Nat) (mb ma : Bl) (mh : Bool) (mc : Cm) (me : Hd) (mv : Vw) (mx : Hd) (my : Option Addr) (m7 mz : Nat), v = .agg #[.int .i64 kd, .int .u16 m1, .int .u32 m2, .int .u64 m3, .int .u64 (ms : Int), .int .u64 m5, .int .i64 m6, .int .u32 (mb.r : Int), .int .u16 (mb.w.1 : Int), .int .u32 (mb.w.2 : Int), .int .u32 (ma.r : Int), .int .u16 (ma.w.1 : Int), .int .u32 (ma.w.2 : Int), .bool mh, .int .i64 mc.kind, .int .u16 (mc.fr.1 : Int), .int .u32 (mc.fr.2 : Int), .int .u64 (mc.num : Int), .int .u64 (mc.vw : Int), .slice me.ba mc.data.length me.bc, .int .u64 (mc.v.id : Int), .slice me.ma mc.v.mem.length me.mc, .slice me.la mc.v.lvs.length me.lc, .slice me.da mc.v.ldr.length me.dc, .int .u64 (mv.id : Int), .slice mx.ma mv.mem.length mx.mc, .slice mx.la mv.lvs.length mx.lc, .slice mx.da mv.ldr.length mx.dc, .slice my m7 mz] ∧ wfM W ms mb ma mc me mv mx m7 mz := by
  unfold Value.okWide at hv
  simp only [Try.underlying74] at hv
  obtain ⟨cs, rfl, hs, _⟩ := hv
  obtain ⟨fuel, hf⟩ := h
  obtain ⟨kd, m1, m2, m3, m5, m6, ms, mb, ma, mh, mc, me, mv, mx, my, m7, mz, e, hh⟩ := cells_msg hf
  exact ⟨kd, m1, m2, m3, m5, m6, ms, mb, ma, mh, mc, me, mv, mx, my, m7, mz, congrArg Value.agg (Array.toList_inj.1 e), hh⟩
theorem open_pe {W : World} {base : Nat} {v : Value} {d : DataW H} {p : List MemPlace} (hv : Value.okWide Try.prog W .any base 36 v) (h : DataW.Trod enc Try.prog W 0 (fun _ => true) true 36 v d p) :
    ∃ q : Pr, v = .agg #[.int .u16 (q.1 : Int), .int .u32 (q.2 : Int)] ∧ q.1 < 65536 ∧ q.2 < 4294967296 := by
  unfold Value.okWide at hv
  simp only [Try.underlying36] at hv
  obtain ⟨cs, rfl, hs, _⟩ := hv
  obtain ⟨fuel, hf⟩ := h
  obtain ⟨i, c, e, h1, h2⟩ := cells_pid hf
  exact ⟨(i, c), congrArg Value.agg (Array.toList_inj.1 e), h1, h2⟩
end
/-! ### The law -/
theorem law_enil (x : Vw) (xa xl xr : Option Addr) (xc xd xe : Nat) (q : Pr) (kd m1 m2 m3 m5 m6 : Int) (ms : Nat) (mb ma : Bl) (mh : Bool) (mc : Cm) (me : Hd) (mv : Vw) (mx : Hd) (my : Option Addr) (m7 mz : Nat) (w : World) (hx : VwG (Old w) w (.slice xa x.mem.length xc) (.slice xl x.lvs.length xd) (.slice xr x.ldr.length xe) x) (hm : wfM w ms mb ma mc me mv mx m7 mz) :
    Calls Try.prog 9 #[.agg #[.int .u64 (x.id : Int), .slice xa x.mem.length xc, .slice xl x.lvs.length xd, .slice xr x.ldr.length xe], .agg #[.int .u16 (q.1 : Int), .int .u32 (q.2 : Int)], .agg #[.int .i64 kd, .int .u16 m1, .int .u32 m2, .int .u64 m3, .int .u64 (ms : Int), .int .u64 m5, .int .i64 m6, .int .u32 (mb.r : Int), .int .u16 (mb.w.1 : Int), .int .u32 (mb.w.2 : Int), .int .u32 (ma.r : Int), .int .u16 (ma.w.1 : Int), .int .u32 (ma.w.2 : Int), .bool mh, .int .i64 mc.kind, .int .u16 (mc.fr.1 : Int), .int .u32 (mc.fr.2 : Int), .int .u64 (mc.num : Int), .int .u64 (mc.vw : Int), .slice me.ba mc.data.length me.bc, .int .u64 (mc.v.id : Int), .slice me.ma mc.v.mem.length me.mc, .slice me.la mc.v.lvs.length me.lc, .slice me.da mc.v.ldr.length me.dc, .int .u64 (mv.id : Int), .slice mx.ma mv.mem.length mx.mc, .slice mx.la mv.lvs.length mx.lc, .slice mx.da mv.ldr.length mx.dc, .slice my m7 mz]] w (Ret fun v w' => v = .bool true ∧ Below w.heap.size w w') := by
  have H := St.init w
  obtain ⟨e, he⟩ : ∃ e, gV x = e := ⟨_, rfl⟩
  have HE := Lib.hid he
  obtain ⟨e2, he2⟩ : ∃ e, gM mc mv m7 = e := ⟨_, rfl⟩
  have HM := Lib.hid he2
  clear he he2
  cases e
  · cases e2
    · go_enter Try.func9, Try.ntmps9
      go_wp2_with (first | (go_at_call 27; (with_reducible refine (rgreat_is x xa xl xr xc xd xe _ _ HE.out (hx.grow H.below)).mono ?_); rintro e w1 ⟨v, rfl, hr⟩; obtain ⟨rfl, hb1⟩ := hr; replace H := H.grow hb1; clear hb1) | (go_at_call 35; (with_reducible refine (rmgreat_is kd m1 m2 m3 m5 m6 ms mb ma mh mc me mv mx my m7 mz _ _ HM.out (hm.x.grow H.below) (hm.y.grow H.below)).mono ?_); rintro e w1 ⟨v, rfl, hr⟩; obtain ⟨rfl, hb1⟩ := hr; replace H := H.grow hb1; clear hb1) | (go_at_call 36; (with_reducible refine (eStart_nil _ _ _ _ _ _).mono ?_); rintro e w1 ⟨v, rfl, hr⟩; obtain ⟨rfl, hb1⟩ := hr; replace H := H.grow hb1; clear hb1) | (go_at_call 37; (with_reducible refine (ePropose_nil _ _).mono ?_); rintro e w1 ⟨v, rfl, hr⟩; obtain ⟨rfl, hb1⟩ := hr; replace H := H.grow hb1; clear hb1) | (go_at_call 38; (with_reducible refine (eValue_nil _).mono ?_); rintro e w1 ⟨v, rfl, hr⟩; obtain ⟨rfl, hb1⟩ := hr; replace H := H.grow hb1; clear hb1) | (go_at_call 39; (with_reducible refine (eSee_nil _ _ _ _).mono ?_); rintro e w1 ⟨v, rfl, hr⟩; obtain ⟨rfl, hb1⟩ := hr; replace H := H.grow hb1; clear hb1) | (go_at_call 40; (with_reducible refine (eStop_nil _).mono ?_); rintro e w1 ⟨v, rfl, hr⟩; obtain ⟨rfl, hb1⟩ := hr; replace H := H.grow hb1; clear hb1) | (go_at_call 41; (with_reducible refine (ePromise_nil _ _ kd m1 m2 m3 m5 m6 ms mb ma mh mc me mv mx my m7 mz _).mono ?_); rintro e w1 ⟨v, rfl, hr⟩; obtain ⟨rfl, hb1⟩ := hr; replace H := H.grow hb1; clear hb1) | (go_at_call 42; (with_reducible refine (eAccepted_nil _ _ kd m1 m2 m3 m5 m6 ms mb ma mh mc me mv mx my m7 mz _).mono ?_); rintro e w1 ⟨v, rfl, hr⟩; obtain ⟨rfl, hb1⟩ := hr; replace H := H.grow hb1; clear hb1) | (go_at_call 43; (with_reducible refine (eNack_nil _ _).mono ?_); rintro e w1 ⟨v, rfl, hr⟩; obtain ⟨rfl, hb1⟩ := hr; replace H := H.grow hb1; clear hb1) | (go_at_call 44; (with_reducible refine (eMove_nil _ _).mono ?_); rintro e w1 ⟨v, rfl, hr⟩; obtain ⟨rfl, hb1⟩ := hr; replace H := H.grow hb1; clear hb1) | (go_at_call 45; (with_reducible refine (ePhase_nil _).mono ?_); rintro e w1 ⟨v, rfl, hr⟩; obtain ⟨rfl, hb1⟩ := hr; replace H := H.grow hb1; clear hb1) | (go_at_call 46; (with_reducible refine (eSlot_nil _).mono ?_); rintro e w1 ⟨v, rfl, hr⟩; obtain ⟨rfl, hb1⟩ := hr; replace H := H.grow hb1; clear hb1) | (go_at_call 31; (with_reducible refine (eBallot_nil _).mono ?_); rintro e w1 ⟨v, rfl, hr⟩; obtain ⟨rfl, hb1⟩ := hr; replace H := H.grow hb1; clear hb1) | (go_at_call 47; (with_reducible refine (eWaits_nil _).mono ?_); rintro e w1 ⟨v, rfl, hr⟩; obtain ⟨rfl, hb1⟩ := hr; replace H := H.grow hb1; clear hb1) | (with_reducible refine wpl rfl (Stp.build (v := (.agg #[.int .u32 0, .int .u16 0, .int .u32 0])) 97 rfl rfl (fun W => by kernel_rfl) ?_); simp only [pS]) | (with_reducible refine wpl rfl (Stp.eqBl0 rfl rfl rfl ?_); simp only [pS]) | (go_at_call 29; (with_reducible refine (aw21_ok _).mono ?_); rintro e w1 ⟨v, rfl, hr⟩; obtain ⟨rfl, hb1⟩ := hr; replace H := H.grow hb1; clear hb1) | (with_reducible refine wpl rfl (Stp.box 3 rfl rfl rfl H ?_); clear H; intro g3 w1 H; simp only [pS]; simp only [pE, nC, pS] at H) | (with_reducible refine wpl rfl (Stp.box 4 rfl rfl rfl H ?_); clear H; intro g4 w1 H; simp only [pS]; simp only [pE, nC, pS] at H) | (with_reducible refine wpl rfl (Stp.box 5 rfl rfl rfl H ?_); clear H; intro g5 w1 H; simp only [pS]; simp only [pE, nC, pS] at H) | (with_reducible refine wpl rfl (Stp.ldr rfl agg26 size26 rfl H mR sZ ?_); simp only [pS]) | (with_reducible refine wpl rfl (Stp.ldl rfl agg26 size26 rfl H mR (by simp) ?_); simp only [pS]; simp only [List.drop_succ_cons, List.drop_zero, List.take_succ_cons, List.take_zero]) | (with_reducible refine wpl rfl (Stp.ldor rfl agg26 size26 rfl H (by assumption) sZ (by assumption) ?_); simp only [pS]) | (with_reducible refine wpl rfl (Stp.ldr rfl agg74 size74 rfl H mR sZ ?_); simp only [pS]) | (with_reducible refine wpl rfl (Stp.ldl rfl agg74 size74 rfl H mR (by simp) ?_); simp only [pS]; simp only [List.drop_succ_cons, List.drop_zero, List.take_succ_cons, List.take_zero]) | (with_reducible refine wpl rfl (Stp.ldor rfl agg74 size74 rfl H (by assumption) sZ (by assumption) ?_); simp only [pS]) | (with_reducible refine wpl rfl (Stp.ldc rfl agg22 rfl H mR cE ?_); simp only [pS]) | (with_reducible refine wpl rfl (Stp.ldo rfl agg22 rfl H (by assumption) (by assumption) ?_); simp only [pS]) | (with_reducible refine wpl rfl (Stp.alloc 8 rfl rfl zero67 H ?_); clear H; intro g8 w1 H; simp only [pS]; simp only [nC] at H) | (with_reducible refine wpl rfl (Stp.str rfl size67 rfl rfl (by first | rfl | (simp [Value.oneCell']; done) | assumption) H uP sZ sZ ?_); clear H; intro w1 H; simp only [pS]) | (with_reducible refine wpl rfl (Stp.stl rfl size67 rfl rfl rfl rfl H uP (by simp) ?_); clear H; intro w1 H; simp only [pS]; simp only [List.drop_succ_cons, List.drop_zero, List.take_succ_cons, List.take_zero, List.nil_append, List.cons_append, Nat.reduceAdd] at H) | (with_reducible refine wpl rfl (Stp.ldr rfl agg43 size43 rfl H mR sZ ?_); simp only [pS]) | (with_reducible refine wpl rfl (Stp.ldl rfl agg43 size43 rfl H mR (by simp) ?_); simp only [pS]; simp only [List.drop_succ_cons, List.drop_zero, List.take_succ_cons, List.take_zero]) | (with_reducible refine wpl rfl (Stp.ldor rfl agg43 size43 rfl H (by assumption) sZ (by assumption) ?_); simp only [pS]) | (with_reducible refine wpl rfl (Stp.alloc 10 rfl rfl zero43 H ?_); clear H; intro g10 w1 H; simp only [pS]; simp only [nC] at H) | (with_reducible refine wpl rfl (Stp.str rfl size43 rfl rfl (by first | rfl | (simp [Value.oneCell']; done) | assumption) H uP sZ sZ ?_); clear H; intro w1 H; simp only [pS]) | (with_reducible refine wpl rfl (Stp.stl rfl size43 rfl rfl rfl rfl H uP (by simp) ?_); clear H; intro w1 H; simp only [pS]; simp only [List.drop_succ_cons, List.drop_zero, List.take_succ_cons, List.take_zero, List.nil_append, List.cons_append, Nat.reduceAdd] at H) | (with_reducible refine wpl rfl (Stp.alloc 12 rfl rfl zero43 H ?_); clear H; intro g12 w1 H; simp only [pS]; simp only [nC] at H) | (with_reducible refine wpl rfl (Stp.ldr rfl agg67 size67 rfl H mR sZ ?_); simp only [pS]) | (with_reducible refine wpl rfl (Stp.ldl rfl agg67 size67 rfl H mR (by simp) ?_); simp only [pS]; simp only [List.drop_succ_cons, List.drop_zero, List.take_succ_cons, List.take_zero]) | (with_reducible refine wpl rfl (Stp.ldor rfl agg67 size67 rfl H (by assumption) sZ (by assumption) ?_); simp only [pS]) | (with_reducible refine wpl rfl (Stp.ldr rfl agg36 size36 rfl H mR sZ ?_); simp only [pS]) | (with_reducible refine wpl rfl (Stp.ldl rfl agg36 size36 rfl H mR (by simp) ?_); simp only [pS]; simp only [List.drop_succ_cons, List.drop_zero, List.take_succ_cons, List.take_zero]) | (with_reducible refine wpl rfl (Stp.ldor rfl agg36 size36 rfl H (by assumption) sZ (by assumption) ?_); simp only [pS]))
      go_ret
      exact ⟨_, rfl, rfl, H.below⟩
    · go_enter Try.func9, Try.ntmps9
      go_wp2_with (first | (go_at_call 27; (with_reducible refine (rgreat_is x xa xl xr xc xd xe _ _ HE.out (hx.grow H.below)).mono ?_); rintro e w1 ⟨v, rfl, hr⟩; obtain ⟨rfl, hb1⟩ := hr; replace H := H.grow hb1; clear hb1) | (go_at_call 35; (with_reducible refine (rmgreat_is kd m1 m2 m3 m5 m6 ms mb ma mh mc me mv mx my m7 mz _ _ HM.out (hm.x.grow H.below) (hm.y.grow H.below)).mono ?_); rintro e w1 ⟨v, rfl, hr⟩; obtain ⟨rfl, hb1⟩ := hr; replace H := H.grow hb1; clear hb1) | (go_at_call 29; (with_reducible refine (aw21_ok _).mono ?_); rintro e w1 ⟨v, rfl, hr⟩; obtain ⟨rfl, hb1⟩ := hr; replace H := H.grow hb1; clear hb1) | (with_reducible refine wpl rfl (Stp.box 3 rfl rfl rfl H ?_); clear H; intro g3 w1 H; simp only [pS]; simp only [pE, nC, pS] at H) | (with_reducible refine wpl rfl (Stp.box 4 rfl rfl rfl H ?_); clear H; intro g4 w1 H; simp only [pS]; simp only [pE, nC, pS] at H) | (with_reducible refine wpl rfl (Stp.box 5 rfl rfl rfl H ?_); clear H; intro g5 w1 H; simp only [pS]; simp only [pE, nC, pS] at H) | (with_reducible refine wpl rfl (Stp.ldr rfl agg26 size26 rfl H mR sZ ?_); simp only [pS]) | (with_reducible refine wpl rfl (Stp.ldl rfl agg26 size26 rfl H mR (by simp) ?_); simp only [pS]; simp only [List.drop_succ_cons, List.drop_zero, List.take_succ_cons, List.take_zero]) | (with_reducible refine wpl rfl (Stp.ldor rfl agg26 size26 rfl H (by assumption) sZ (by assumption) ?_); simp only [pS]) | (with_reducible refine wpl rfl (Stp.ldr rfl agg74 size74 rfl H mR sZ ?_); simp only [pS]) | (with_reducible refine wpl rfl (Stp.ldl rfl agg74 size74 rfl H mR (by simp) ?_); simp only [pS]; simp only [List.drop_succ_cons, List.drop_zero, List.take_succ_cons, List.take_zero]) | (with_reducible refine wpl rfl (Stp.ldor rfl agg74 size74 rfl H (by assumption) sZ (by assumption) ?_); simp only [pS]) | (with_reducible refine wpl rfl (Stp.ldc rfl agg22 rfl H mR cE ?_); simp only [pS]) | (with_reducible refine wpl rfl (Stp.ldo rfl agg22 rfl H (by assumption) (by assumption) ?_); simp only [pS]) | (with_reducible refine wpl rfl (Stp.alloc 8 rfl rfl zero67 H ?_); clear H; intro g8 w1 H; simp only [pS]; simp only [nC] at H) | (with_reducible refine wpl rfl (Stp.str rfl size67 rfl rfl (by first | rfl | (simp [Value.oneCell']; done) | assumption) H uP sZ sZ ?_); clear H; intro w1 H; simp only [pS]) | (with_reducible refine wpl rfl (Stp.stl rfl size67 rfl rfl rfl rfl H uP (by simp) ?_); clear H; intro w1 H; simp only [pS]; simp only [List.drop_succ_cons, List.drop_zero, List.take_succ_cons, List.take_zero, List.nil_append, List.cons_append, Nat.reduceAdd] at H) | (with_reducible refine wpl rfl (Stp.ldr rfl agg43 size43 rfl H mR sZ ?_); simp only [pS]) | (with_reducible refine wpl rfl (Stp.ldl rfl agg43 size43 rfl H mR (by simp) ?_); simp only [pS]; simp only [List.drop_succ_cons, List.drop_zero, List.take_succ_cons, List.take_zero]) | (with_reducible refine wpl rfl (Stp.ldor rfl agg43 size43 rfl H (by assumption) sZ (by assumption) ?_); simp only [pS]) | (with_reducible refine wpl rfl (Stp.alloc 10 rfl rfl zero43 H ?_); clear H; intro g10 w1 H; simp only [pS]; simp only [nC] at H) | (with_reducible refine wpl rfl (Stp.str rfl size43 rfl rfl (by first | rfl | (simp [Value.oneCell']; done) | assumption) H uP sZ sZ ?_); clear H; intro w1 H; simp only [pS]) | (with_reducible refine wpl rfl (Stp.stl rfl size43 rfl rfl rfl rfl H uP (by simp) ?_); clear H; intro w1 H; simp only [pS]; simp only [List.drop_succ_cons, List.drop_zero, List.take_succ_cons, List.take_zero, List.nil_append, List.cons_append, Nat.reduceAdd] at H) | (with_reducible refine wpl rfl (Stp.alloc 12 rfl rfl zero43 H ?_); clear H; intro g12 w1 H; simp only [pS]; simp only [nC] at H) | (with_reducible refine wpl rfl (Stp.ldr rfl agg67 size67 rfl H mR sZ ?_); simp only [pS]) | (with_reducible refine wpl rfl (Stp.ldl rfl agg67 size67 rfl H mR (by simp) ?_); simp only [pS]; simp only [List.drop_succ_cons, List.drop_zero, List.take_succ_cons, List.take_zero]) | (with_reducible refine wpl rfl (Stp.ldor rfl agg67 size67 rfl H (by assumption) sZ (by assumption) ?_); simp only [pS]) | (with_reducible refine wpl rfl (Stp.ldr rfl agg36 size36 rfl H mR sZ ?_); simp only [pS]) | (with_reducible refine wpl rfl (Stp.ldl rfl agg36 size36 rfl H mR (by simp) ?_); simp only [pS]; simp only [List.drop_succ_cons, List.drop_zero, List.take_succ_cons, List.take_zero]) | (with_reducible refine wpl rfl (Stp.ldor rfl agg36 size36 rfl H (by assumption) sZ (by assumption) ?_); simp only [pS]))
      go_ret
      exact ⟨_, rfl, rfl, H.below⟩
  · go_enter Try.func9, Try.ntmps9
    go_wp2_with (first | (go_at_call 27; (with_reducible refine (rgreat_is x xa xl xr xc xd xe _ _ HE.out (hx.grow H.below)).mono ?_); rintro e w1 ⟨v, rfl, hr⟩; obtain ⟨rfl, hb1⟩ := hr; replace H := H.grow hb1; clear hb1) | (go_at_call 29; (with_reducible refine (aw21_ok _).mono ?_); rintro e w1 ⟨v, rfl, hr⟩; obtain ⟨rfl, hb1⟩ := hr; replace H := H.grow hb1; clear hb1) | (with_reducible refine wpl rfl (Stp.box 3 rfl rfl rfl H ?_); clear H; intro g3 w1 H; simp only [pS]; simp only [pE, nC, pS] at H) | (with_reducible refine wpl rfl (Stp.box 4 rfl rfl rfl H ?_); clear H; intro g4 w1 H; simp only [pS]; simp only [pE, nC, pS] at H) | (with_reducible refine wpl rfl (Stp.box 5 rfl rfl rfl H ?_); clear H; intro g5 w1 H; simp only [pS]; simp only [pE, nC, pS] at H) | (with_reducible refine wpl rfl (Stp.ldr rfl agg26 size26 rfl H mR sZ ?_); simp only [pS]) | (with_reducible refine wpl rfl (Stp.ldl rfl agg26 size26 rfl H mR (by simp) ?_); simp only [pS]; simp only [List.drop_succ_cons, List.drop_zero, List.take_succ_cons, List.take_zero]) | (with_reducible refine wpl rfl (Stp.ldor rfl agg26 size26 rfl H (by assumption) sZ (by assumption) ?_); simp only [pS]) | (with_reducible refine wpl rfl (Stp.ldr rfl agg74 size74 rfl H mR sZ ?_); simp only [pS]) | (with_reducible refine wpl rfl (Stp.ldl rfl agg74 size74 rfl H mR (by simp) ?_); simp only [pS]; simp only [List.drop_succ_cons, List.drop_zero, List.take_succ_cons, List.take_zero]) | (with_reducible refine wpl rfl (Stp.ldor rfl agg74 size74 rfl H (by assumption) sZ (by assumption) ?_); simp only [pS]) | (with_reducible refine wpl rfl (Stp.ldc rfl agg22 rfl H mR cE ?_); simp only [pS]) | (with_reducible refine wpl rfl (Stp.ldo rfl agg22 rfl H (by assumption) (by assumption) ?_); simp only [pS]) | (with_reducible refine wpl rfl (Stp.alloc 8 rfl rfl zero67 H ?_); clear H; intro g8 w1 H; simp only [pS]; simp only [nC] at H) | (with_reducible refine wpl rfl (Stp.str rfl size67 rfl rfl (by first | rfl | (simp [Value.oneCell']; done) | assumption) H uP sZ sZ ?_); clear H; intro w1 H; simp only [pS]) | (with_reducible refine wpl rfl (Stp.stl rfl size67 rfl rfl rfl rfl H uP (by simp) ?_); clear H; intro w1 H; simp only [pS]; simp only [List.drop_succ_cons, List.drop_zero, List.take_succ_cons, List.take_zero, List.nil_append, List.cons_append, Nat.reduceAdd] at H) | (with_reducible refine wpl rfl (Stp.ldr rfl agg43 size43 rfl H mR sZ ?_); simp only [pS]) | (with_reducible refine wpl rfl (Stp.ldl rfl agg43 size43 rfl H mR (by simp) ?_); simp only [pS]; simp only [List.drop_succ_cons, List.drop_zero, List.take_succ_cons, List.take_zero]) | (with_reducible refine wpl rfl (Stp.ldor rfl agg43 size43 rfl H (by assumption) sZ (by assumption) ?_); simp only [pS]) | (with_reducible refine wpl rfl (Stp.alloc 10 rfl rfl zero43 H ?_); clear H; intro g10 w1 H; simp only [pS]; simp only [nC] at H) | (with_reducible refine wpl rfl (Stp.str rfl size43 rfl rfl (by first | rfl | (simp [Value.oneCell']; done) | assumption) H uP sZ sZ ?_); clear H; intro w1 H; simp only [pS]) | (with_reducible refine wpl rfl (Stp.stl rfl size43 rfl rfl rfl rfl H uP (by simp) ?_); clear H; intro w1 H; simp only [pS]; simp only [List.drop_succ_cons, List.drop_zero, List.take_succ_cons, List.take_zero, List.nil_append, List.cons_append, Nat.reduceAdd] at H) | (with_reducible refine wpl rfl (Stp.alloc 12 rfl rfl zero43 H ?_); clear H; intro g12 w1 H; simp only [pS]; simp only [nC] at H) | (with_reducible refine wpl rfl (Stp.ldr rfl agg67 size67 rfl H mR sZ ?_); simp only [pS]) | (with_reducible refine wpl rfl (Stp.ldl rfl agg67 size67 rfl H mR (by simp) ?_); simp only [pS]; simp only [List.drop_succ_cons, List.drop_zero, List.take_succ_cons, List.take_zero]) | (with_reducible refine wpl rfl (Stp.ldor rfl agg67 size67 rfl H (by assumption) sZ (by assumption) ?_); simp only [pS]) | (with_reducible refine wpl rfl (Stp.ldr rfl agg36 size36 rfl H mR sZ ?_); simp only [pS]) | (with_reducible refine wpl rfl (Stp.ldl rfl agg36 size36 rfl H mR (by simp) ?_); simp only [pS]; simp only [List.drop_succ_cons, List.drop_zero, List.take_succ_cons, List.take_zero]) | (with_reducible refine wpl rfl (Stp.ldor rfl agg36 size36 rfl H (by assumption) sZ (by assumption) ?_); simp only [pS]))
    go_ret
    exact ⟨_, rfl, rfl, H.below⟩
set_option maxRecDepth 100000 in
theorem electNil_lifted (os : Os) (started : os.Started) (H : Type) (enc : TypeId × Value → H) :
    ReturnsInHanded {} Try.checked os 9 .any (Rows.electNilSpec.pre6 enc Try.prog Try.f9 Rows.electNilRow.domain false) (Rows.electNilSpec.post enc Try.prog Try.f9 false true false false) := by
  refine law_lifted (C := Try.checked) own started (by kernel_rfl) Try.func9 laidOut rfl Try.underlying4 rfl (by kernel_rfl) (fun ds hd => ?_)
    (ChangeSpec.witness6 (enc := enc) (C := Try.checked) false ⟨#[], #[.agg #[.int .u64 0, .slice none 0 0, .slice none 0 0, .slice none 0 0], .agg #[.int .u16 0, .int .u32 0], .agg #[.int .i64 0, .int .u16 0, .int .u32 0, .int .u64 0, .int .u64 0, .int .u64 0, .int .i64 0, .int .u32 0, .int .u16 0, .int .u32 0, .int .u32 0, .int .u16 0, .int .u32 0, .bool false, .int .i64 0, .int .u16 0, .int .u32 0, .int .u64 0, .int .u64 0, .slice none 0 0, .int .u64 0, .slice none 0 0, .slice none 0 0, .slice none 0 0, .int .u64 0, .slice none 0 0, .slice none 0 0, .slice none 0 0, .slice none 0 0]], []⟩ 8 (by kernel_rfl) (by kernel_rfl) (by kernel_rfl) (by kernel_rfl)) ?_
  · match ds, hd with
    | [d0, d1, d2], _ => exact ⟨rfl, rfl, rfl⟩
  intro W base args ds p hval hA
  rw [Try.params9] at hA hval
  obtain ⟨v0, vs0, d0, ds0, p0, q0, hargs, rfl, rfl, h0, r0⟩ := trodAll_cons hA
  obtain ⟨v1, vs1, d1, ds1, p1, q1, rfl, rfl, rfl, h1, r1⟩ := trodAll_cons r0
  obtain ⟨v2, vs2, d2, ds2, p2, q2, rfl, rfl, rfl, h2, r2⟩ := trodAll_cons r1
  obtain ⟨rfl, rfl, rfl⟩ := trodAll_nil r2
  obtain rfl : args = #[v0, v1, v2] := by cases args; simp_all
  obtain ⟨x, xa, xl, xr, xc, xd, xe, rfl, hw, hx⟩ := open_vw (hval 0 26 v0 rfl rfl) h0
  obtain ⟨q, rfl, hq1, hq2⟩ := open_pe (hval 1 36 v1 rfl rfl) h1
  obtain ⟨kd, m1, m2, m3, m5, m6, ms, mb, ma, mh, mc, me, mv, mx, my, m7, mz, rfl, hm⟩ := open_msg (hval 2 74 v2 rfl rfl) h2
  exact law_enil x xa xl xr xc xd xe q kd m1 m2 m3 m5 m6 ms mb ma mh mc me mv mx my m7 mz W hx hm
theorem electNil_over : Rows.electNilRow.holds Try.pinned (OpenSpec.ofChange Rows.electNilSpec) :=
  OpenClaim.holds_of_wide 9 Try.f9 rfl rfl rfl rfl rfl rfl rfl ⟨rfl, rfl, rfl, rfl, rfl⟩ rfl rfl rfl rfl rfl (by kernel_rfl) Try.func9 (by kernel_rfl)
    (of_decide_eq_true (by kernel_rfl)) (by unfold Func.isWrapper; first | (rw [if_pos (by decide +kernel)]; kernel_rfl) | (rw [if_neg (by decide +kernel)]; exact ⟨rfl, rfl⟩))
    (fun os started H enc _ => electNil_lifted os started H enc)
theorem electNil_holds : Rows.ElectNilSaid := electNil_over
#print axioms electNil_holds
end Go.Proofs.Ytjghcmejmdllbaa
