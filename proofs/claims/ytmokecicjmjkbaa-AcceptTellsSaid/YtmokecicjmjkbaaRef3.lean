/- A message's cells, and a contract of the reference's Same over messages, where they are the same (choragusref10); no condition. -/
import Derived.Test.YtmokecicjmjkbaaAcc1
import Derived.Test.YtmokecicjmjkbaaRef2
import Derived.Test.YtmokecicjmjkbaaLed2
namespace Go.Proofs.Ytmokecicjmjkbaa
open Go.ChangeShapes Go.WideShapes Go.ChangeAt Go.RowKit Go.Maps
set_option linter.unusedVariables false
set_option linter.unusedSimpArgs false
/-- A message of one slot and ballot, with what was accepted before. -/
abbrev mgC (k s : Int) (b a : Bl) (has : Bool) (c : Cm) (h : Hd) : Array Value := #[.int .i64 k, .int .u16 0, .int .u32 0, .int .u64 0, .int .u64 s, .int .u64 0, .int .i64 0, .int .u32 (b.r : Int), .int .u16 (b.w.1 : Int), .int .u32 (b.w.2 : Int), .int .u32 (a.r : Int), .int .u16 (a.w.1 : Int), .int .u32 (a.w.2 : Int), .bool has,
  .int .i64 c.kind, .int .u16 (c.fr.1 : Int), .int .u32 (c.fr.2 : Int), .int .u64 (c.num : Int), .int .u64 (c.vw : Int), .slice h.ba c.data.length h.bc, .int .u64 (c.v.id : Int), .slice h.ma c.v.mem.length h.mc, .slice h.la c.v.lvs.length h.lc, .slice h.da c.v.ldr.length h.dc,
  .int .u64 0, .slice none 0 0, .slice none 0 0, .slice none 0 0, .slice none 0 0]
theorem eqBT_self (r a b : Int) (w : World) : (Op.equalIn 10000 47 (.agg #[.int .u32 r, .int .u16 a, .int .u32 b]) (.agg #[.int .u32 r, .int .u16 a, .int .u32 b])).run Try.prog w = .ok true w := by rw [eqBT]; simp
attribute [local go_sem] eqBT_self eqg_BT eqg_PD
theorem rvzero_ok (w : World) : Calls Try.prog 57 #[.agg #[.int .u64 0, .slice none 0 0, .slice none 0 0, .slice none 0 0], .agg #[.int .u64 0, .slice none 0 0, .slice none 0 0, .slice none 0 0]] w (Ret fun v w' => v = .bool true ∧ Below w.heap.size w w') :=
  rvsame_is (G1 := fun _ => False) (G2 := fun _ => False) vw0 vw0 none none none none none none 0 0 0 0 0 0 w true (VwG.nil _ _ _) (VwG.nil _ _ _) (vSame_iff.2 rfl)
set_option maxRecDepth 100000 in
set_option maxHeartbeats 4000000 in
theorem rmsame_eq {G1 G2 : Nat → Prop} (k s : Int) (b a : Bl) (has : Bool) (c : Cm) (h1 h2 : Hd) (w : World)
    (hx : CmG G1 w (.slice h1.ba c.data.length h1.bc) (.slice h1.ma c.v.mem.length h1.mc) (.slice h1.la c.v.lvs.length h1.lc) (.slice h1.da c.v.ldr.length h1.dc) c) (hy : CmG G2 w (.slice h2.ba c.data.length h2.bc) (.slice h2.ma c.v.mem.length h2.mc) (.slice h2.la c.v.lvs.length h2.lc) (.slice h2.da c.v.ldr.length h2.dc) c) :
    Calls Try.prog 25 #[.agg (mgC k s b a has c h1), .agg (mgC k s b a has c h2)] w (Ret fun v w' => v = .bool true ∧ Below w.heap.size w w') := by
  have H := St.init w
  have E5 : cSame c c = true := cSame_iff.2 rfl
  have he1 := eqPD_self (0 : Int) (0 : Int)
  have ik : (k != k) = false := by simp
  have is : (s != s) = false := by simp
  have ih : (has == has) = true := by simp
  simp only [mgC]
  go_enter Try.func25, Try.ntmps25
  go_wp2_with (first | (go_at_call 26; (with_reducible refine (rcsame_is c c _ _ _ _ _ _ _ _ _ _ _ _ _ _ _ _ _ _ E5 (hx.grow H.below) (hy.grow H.below)).mono ?_); rintro e w1 ⟨v, rfl, hr⟩; obtain ⟨rfl, hb1⟩ := hr; replace H := H.grow hb1; clear hb1) | (go_at_call 57; (with_reducible refine (rvzero_ok _).mono ?_); rintro e w1 ⟨v, rfl, hr⟩; obtain ⟨rfl, hb1⟩ := hr; replace H := H.grow hb1; clear hb1) | (go_at_call 17; (with_reducible refine (rbsame_is _ _ [] [] _ (SlG.nil (fun _ => False) _ _ _).sl (SlG.nil (fun _ => False) _ _ _).sl true rfl).mono ?_); rintro e w1 ⟨v, rfl, hr⟩; obtain ⟨rfl, hb1⟩ := hr; replace H := H.grow hb1; clear hb1) | (with_reducible refine wpl rfl (Stp.box 2 rfl rfl rfl H ?_); clear H; intro g2 w1 H; simp only [pS]; simp only [pE, nC, pS] at H) | (with_reducible refine wpl rfl (Stp.box 3 rfl rfl rfl H ?_); clear H; intro g3 w1 H; simp only [pS]; simp only [pE, nC, pS] at H) | (with_reducible refine wpl rfl (Stp.ldc rfl agg3 rfl H mR cE ?_); simp only [pS]) | (with_reducible refine wpl rfl (Stp.ldo rfl agg3 rfl H (by assumption) (by assumption) ?_); simp only [pS]) | (with_reducible refine wpl rfl (Stp.ldr rfl agg30 size30 rfl H mR sZ ?_); simp only [pS]) | (with_reducible refine wpl rfl (Stp.ldl rfl agg30 size30 rfl H mR (by simp) ?_); simp only [pS]; simp only [List.drop_succ_cons, List.drop_zero, List.take_succ_cons, List.take_zero]) | (with_reducible refine wpl rfl (Stp.ldor rfl agg30 size30 rfl H (by assumption) sZ (by assumption) ?_); simp only [pS]) | (with_reducible refine wpl rfl (Stp.ldc rfl agg26 rfl H mR cE ?_); simp only [pS]) | (with_reducible refine wpl rfl (Stp.ldo rfl agg26 rfl H (by assumption) (by assumption) ?_); simp only [pS]) | (with_reducible refine wpl rfl (Stp.ldr rfl agg47 size47 rfl H mR sZ ?_); simp only [pS]) | (with_reducible refine wpl rfl (Stp.ldl rfl agg47 size47 rfl H mR (by simp) ?_); simp only [pS]; simp only [List.drop_succ_cons, List.drop_zero, List.take_succ_cons, List.take_zero]) | (with_reducible refine wpl rfl (Stp.ldor rfl agg47 size47 rfl H (by assumption) sZ (by assumption) ?_); simp only [pS]) | (with_reducible refine wpl rfl (Stp.ldc rfl agg4 rfl H mR cE ?_); simp only [pS]) | (with_reducible refine wpl rfl (Stp.ldo rfl agg4 rfl H (by assumption) (by assumption) ?_); simp only [pS]) | (with_reducible refine wpl rfl (Stp.ldr rfl agg36 size36 rfl H mR sZ ?_); simp only [pS]) | (with_reducible refine wpl rfl (Stp.ldl rfl agg36 size36 rfl H mR (by simp) ?_); simp only [pS]; simp only [List.drop_succ_cons, List.drop_zero, List.take_succ_cons, List.take_zero]) | (with_reducible refine wpl rfl (Stp.ldor rfl agg36 size36 rfl H (by assumption) sZ (by assumption) ?_); simp only [pS]) | (with_reducible refine wpl rfl (Stp.ldr rfl agg34 size34 rfl H mR sZ ?_); simp only [pS]) | (with_reducible refine wpl rfl (Stp.ldl rfl agg34 size34 rfl H mR (by simp) ?_); simp only [pS]; simp only [List.drop_succ_cons, List.drop_zero, List.take_succ_cons, List.take_zero]) | (with_reducible refine wpl rfl (Stp.ldor rfl agg34 size34 rfl H (by assumption) sZ (by assumption) ?_); simp only [pS]) | (with_reducible refine wpl rfl (Stp.ldc rfl agg22 rfl H mR cE ?_); simp only [pS]) | (with_reducible refine wpl rfl (Stp.ldo rfl agg22 rfl H (by assumption) (by assumption) ?_); simp only [pS]))
  go_ret
  exact ⟨_, rfl, rfl, H.below⟩
end Go.Proofs.Ytmokecicjmjkbaa
