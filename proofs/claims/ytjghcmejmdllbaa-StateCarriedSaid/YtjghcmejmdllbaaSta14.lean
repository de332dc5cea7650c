/- Layer 19's may and Load (state), where a board may be; no condition. -/
import Derived.Test.YtjghcmejmdllbaaSta9
import Derived.Test.YtjghcmejmdllbaaSta11
namespace Go.Proofs.Ytjghcmejmdllbaa
open Go.ChangeShapes Go.WideShapes Go.ChangeAt Go.RowKit Go.Maps Go.Deep
set_option linter.unusedVariables false
set_option linter.unusedSimpArgs false
set_option linter.unusedSectionVars false
set_option maxRecDepth 100000
set_option maxHeartbeats 4000000
theorem Stp.idxV {t : TypeId} {x y : Operand} {P : Program} {a : Act} {w : World} {o : Oper} {N : Act → World → Prop} {v : Value} (ho : o.op = .index t x y) (hv : ∀ W : World, (execOp a.eval o).run P W = .ok (.value v) W) (h : N (a.put o.dst v) w) : Stp P o a w N := ⟨w, .inl ⟨v, hv w, h⟩⟩
def MayB (b : Nat → ByteArray) : Prop := ∀ i, (b i).size ≤ 16
theorem bd0_may : MayB bd0 := fun i => by show ByteArray.empty.size ≤ 16; decide
theorem strOf_size (l : List Nat) : (strOf l).size = l.length := by unfold strOf; simp [ByteArray.size]
theorem bwr_may {b : Nat → ByteArray} (h : MayB b) (data : List Nat) : MayB (bwr b data) := by
  intro i
  cases data with
  | nil => exact h i
  | cons d r =>
    unfold bwr bput
    simp only
    split
    · rw [strOf_size, List.length_take]; omega
    · exact h i
theorem nxB_may {r : Bool} {b : Nat → ByteArray} (h : MayB b) (c : Cm) : MayB (nxB r b c) := by
  unfold nxB; split
  · exact bwr_may h _
  · exact h
theorem smay_ok (b : Nat → ByteArray) (hm : Hid (MayB b)) (w : World) : Calls Try.prog 69 #[.agg #[.string (b 0), .string (b 1), .string (b 2), .string (b 3), .string (b 4), .string (b 5), .string (b 6), .string (b 7)]] w (Ret fun v w' => v = .bool true ∧ Below w.heap.size w w') := by
  have H := St.init w
  go_enter Try.func69, Try.ntmps69
  go_wp2_with (first | (with_reducible refine wpl rfl (Stp.box 1 rfl rfl rfl H ?_); clear H; intro g1 w1 H; simp only [pS]; simp only [pE, nC, pS] at H) | (with_reducible refine wpl rfl (Stp.ldr rfl agg46 size46 rfl H mR sZ ?_); simp only [pS]) | (with_reducible refine wpl rfl (Stp.ldl rfl agg46 size46 rfl H mR (by simp) ?_); simp only [pS]; simp only [List.drop_succ_cons, List.drop_zero, List.take_succ_cons, List.take_zero]) | (with_reducible refine wpl rfl (Stp.ldor rfl agg46 size46 rfl H (by assumption) sZ (by assumption) ?_); simp only [pS]))
  go_loopw [6] (fun i wr => ∃ kk : Nat, kk ≤ 8 ∧ i = .int .i64 (kk : Int) ∧ St w.heap.size w wr [row 46 g1 #[.string (b 0), .string (b 1), .string (b 2), .string (b 3), .string (b 4), .string (b 5), .string (b 6), .string (b 7)]]) (fun i _ => 8 - (intOf i).toNat)
  case atStart => exact ⟨0, by omega, rfl, H⟩
  case round =>
    clear H
    obtain ⟨kk, hkk, rfl, H⟩ := hrel
    by_cases hlt : kk < 8
    · have hk8 : kk = 0 ∨ kk = 1 ∨ kk = 2 ∨ kk = 3 ∨ kk = 4 ∨ kk = 5 ∨ kk = 6 ∨ kk = 7 := by omega
      have hs : ∀ i, ¬ (16 : Int) < ((b i).size : Int) := fun i => by have := hm.out i; omega
      rcases hk8 with rfl | rfl | rfl | rfl | rfl | rfl | rfl | rfl
      · have hs0 := hs 0
        clear hs
        go_wp2_with (first | (with_reducible refine wpl rfl (Stp.idxV (v := .string (b 0)) rfl (fun W => by kernel_rfl) ?_); simp only [pS]) | (with_reducible refine wpl rfl (Stp.box 1 rfl rfl rfl H ?_); clear H; intro g1 w1 H; simp only [pS]; simp only [pE, nC, pS] at H) | (with_reducible refine wpl rfl (Stp.ldr rfl agg46 size46 rfl H mR sZ ?_); simp only [pS]) | (with_reducible refine wpl rfl (Stp.ldl rfl agg46 size46 rfl H mR (by simp) ?_); simp only [pS]; simp only [List.drop_succ_cons, List.drop_zero, List.take_succ_cons, List.take_zero]) | (with_reducible refine wpl rfl (Stp.ldor rfl agg46 size46 rfl H (by assumption) sZ (by assumption) ?_); simp only [pS]))
        go_roundw
        case rel => exact ⟨1, by omega, by first | rfl | go_num, H⟩
        case measure => simp [intOf]
      · have hs1 := hs 1
        clear hs
        go_wp2_with (first | (with_reducible refine wpl rfl (Stp.idxV (v := .string (b 1)) rfl (fun W => by kernel_rfl) ?_); simp only [pS]) | (with_reducible refine wpl rfl (Stp.box 1 rfl rfl rfl H ?_); clear H; intro g1 w1 H; simp only [pS]; simp only [pE, nC, pS] at H) | (with_reducible refine wpl rfl (Stp.ldr rfl agg46 size46 rfl H mR sZ ?_); simp only [pS]) | (with_reducible refine wpl rfl (Stp.ldl rfl agg46 size46 rfl H mR (by simp) ?_); simp only [pS]; simp only [List.drop_succ_cons, List.drop_zero, List.take_succ_cons, List.take_zero]) | (with_reducible refine wpl rfl (Stp.ldor rfl agg46 size46 rfl H (by assumption) sZ (by assumption) ?_); simp only [pS]))
        go_roundw
        case rel => exact ⟨2, by omega, by first | rfl | go_num, H⟩
        case measure => simp [intOf]
      · have hs2 := hs 2
        clear hs
        go_wp2_with (first | (with_reducible refine wpl rfl (Stp.idxV (v := .string (b 2)) rfl (fun W => by kernel_rfl) ?_); simp only [pS]) | (with_reducible refine wpl rfl (Stp.box 1 rfl rfl rfl H ?_); clear H; intro g1 w1 H; simp only [pS]; simp only [pE, nC, pS] at H) | (with_reducible refine wpl rfl (Stp.ldr rfl agg46 size46 rfl H mR sZ ?_); simp only [pS]) | (with_reducible refine wpl rfl (Stp.ldl rfl agg46 size46 rfl H mR (by simp) ?_); simp only [pS]; simp only [List.drop_succ_cons, List.drop_zero, List.take_succ_cons, List.take_zero]) | (with_reducible refine wpl rfl (Stp.ldor rfl agg46 size46 rfl H (by assumption) sZ (by assumption) ?_); simp only [pS]))
        go_roundw
        case rel => exact ⟨3, by omega, by first | rfl | go_num, H⟩
        case measure => simp [intOf]
      · have hs3 := hs 3
        clear hs
        go_wp2_with (first | (with_reducible refine wpl rfl (Stp.idxV (v := .string (b 3)) rfl (fun W => by kernel_rfl) ?_); simp only [pS]) | (with_reducible refine wpl rfl (Stp.box 1 rfl rfl rfl H ?_); clear H; intro g1 w1 H; simp only [pS]; simp only [pE, nC, pS] at H) | (with_reducible refine wpl rfl (Stp.ldr rfl agg46 size46 rfl H mR sZ ?_); simp only [pS]) | (with_reducible refine wpl rfl (Stp.ldl rfl agg46 size46 rfl H mR (by simp) ?_); simp only [pS]; simp only [List.drop_succ_cons, List.drop_zero, List.take_succ_cons, List.take_zero]) | (with_reducible refine wpl rfl (Stp.ldor rfl agg46 size46 rfl H (by assumption) sZ (by assumption) ?_); simp only [pS]))
        go_roundw
        case rel => exact ⟨4, by omega, by first | rfl | go_num, H⟩
        case measure => simp [intOf]
      · have hs4 := hs 4
        clear hs
        go_wp2_with (first | (with_reducible refine wpl rfl (Stp.idxV (v := .string (b 4)) rfl (fun W => by kernel_rfl) ?_); simp only [pS]) | (with_reducible refine wpl rfl (Stp.box 1 rfl rfl rfl H ?_); clear H; intro g1 w1 H; simp only [pS]; simp only [pE, nC, pS] at H) | (with_reducible refine wpl rfl (Stp.ldr rfl agg46 size46 rfl H mR sZ ?_); simp only [pS]) | (with_reducible refine wpl rfl (Stp.ldl rfl agg46 size46 rfl H mR (by simp) ?_); simp only [pS]; simp only [List.drop_succ_cons, List.drop_zero, List.take_succ_cons, List.take_zero]) | (with_reducible refine wpl rfl (Stp.ldor rfl agg46 size46 rfl H (by assumption) sZ (by assumption) ?_); simp only [pS]))
        go_roundw
        case rel => exact ⟨5, by omega, by first | rfl | go_num, H⟩
        case measure => simp [intOf]
      · have hs5 := hs 5
        clear hs
        go_wp2_with (first | (with_reducible refine wpl rfl (Stp.idxV (v := .string (b 5)) rfl (fun W => by kernel_rfl) ?_); simp only [pS]) | (with_reducible refine wpl rfl (Stp.box 1 rfl rfl rfl H ?_); clear H; intro g1 w1 H; simp only [pS]; simp only [pE, nC, pS] at H) | (with_reducible refine wpl rfl (Stp.ldr rfl agg46 size46 rfl H mR sZ ?_); simp only [pS]) | (with_reducible refine wpl rfl (Stp.ldl rfl agg46 size46 rfl H mR (by simp) ?_); simp only [pS]; simp only [List.drop_succ_cons, List.drop_zero, List.take_succ_cons, List.take_zero]) | (with_reducible refine wpl rfl (Stp.ldor rfl agg46 size46 rfl H (by assumption) sZ (by assumption) ?_); simp only [pS]))
        go_roundw
        case rel => exact ⟨6, by omega, by first | rfl | go_num, H⟩
        case measure => simp [intOf]
      · have hs6 := hs 6
        clear hs
        go_wp2_with (first | (with_reducible refine wpl rfl (Stp.idxV (v := .string (b 6)) rfl (fun W => by kernel_rfl) ?_); simp only [pS]) | (with_reducible refine wpl rfl (Stp.box 1 rfl rfl rfl H ?_); clear H; intro g1 w1 H; simp only [pS]; simp only [pE, nC, pS] at H) | (with_reducible refine wpl rfl (Stp.ldr rfl agg46 size46 rfl H mR sZ ?_); simp only [pS]) | (with_reducible refine wpl rfl (Stp.ldl rfl agg46 size46 rfl H mR (by simp) ?_); simp only [pS]; simp only [List.drop_succ_cons, List.drop_zero, List.take_succ_cons, List.take_zero]) | (with_reducible refine wpl rfl (Stp.ldor rfl agg46 size46 rfl H (by assumption) sZ (by assumption) ?_); simp only [pS]))
        go_roundw
        case rel => exact ⟨7, by omega, by first | rfl | go_num, H⟩
        case measure => simp [intOf]
      · have hs7 := hs 7
        clear hs
        go_wp2_with (first | (with_reducible refine wpl rfl (Stp.idxV (v := .string (b 7)) rfl (fun W => by kernel_rfl) ?_); simp only [pS]) | (with_reducible refine wpl rfl (Stp.box 1 rfl rfl rfl H ?_); clear H; intro g1 w1 H; simp only [pS]; simp only [pE, nC, pS] at H) | (with_reducible refine wpl rfl (Stp.ldr rfl agg46 size46 rfl H mR sZ ?_); simp only [pS]) | (with_reducible refine wpl rfl (Stp.ldl rfl agg46 size46 rfl H mR (by simp) ?_); simp only [pS]; simp only [List.drop_succ_cons, List.drop_zero, List.take_succ_cons, List.take_zero]) | (with_reducible refine wpl rfl (Stp.ldor rfl agg46 size46 rfl H (by assumption) sZ (by assumption) ?_); simp only [pS]))
        go_roundw
        case rel => exact ⟨8, by omega, by first | rfl | go_num, H⟩
        case measure => simp [intOf]
    · obtain rfl : kk = 8 := by omega
      go_wp2_with (first | (with_reducible refine wpl rfl (Stp.box 1 rfl rfl rfl H ?_); clear H; intro g1 w1 H; simp only [pS]; simp only [pE, nC, pS] at H) | (with_reducible refine wpl rfl (Stp.ldr rfl agg46 size46 rfl H mR sZ ?_); simp only [pS]) | (with_reducible refine wpl rfl (Stp.ldl rfl agg46 size46 rfl H mR (by simp) ?_); simp only [pS]; simp only [List.drop_succ_cons, List.drop_zero, List.take_succ_cons, List.take_zero]) | (with_reducible refine wpl rfl (Stp.ldor rfl agg46 size46 rfl H (by assumption) sZ (by assumption) ?_); simp only [pS]))
      go_ret
      exact ⟨_, rfl, rfl, H.below⟩
theorem sload_ok {B : Nat} {w0 : World} {L : List Res} (g0 : Nat) (x : Vw) (M : List (Pr × Nat)) (b b2 : Nat → ByteArray) (hm : Hid (MayB b2)) (R : Res) (hR : StaR g0 x M b R) (w : World) (H : St B w0 w (R :: L)) :
    Calls Try.prog 26 #[.pointer (some ⟨g0, 0, none⟩), .agg #[.string (b2 0), .string (b2 1), .string (b2 2), .string (b2 3), .string (b2 4), .string (b2 5), .string (b2 6), .string (b2 7)]] w (Ret fun v w' => v = .bool true ∧ ∃ R', StaR g0 x M b2 R' ∧ St B w0 w' (R' :: L)) := by
  obtain ⟨ma, la, da, mc, lc, dc, gm, G, rfl⟩ := hR
  replace H := H.part.swap.part.pull (r := row 116 g0 (stC x ma la da mc lc dc gm b)) pU
  replace H := (H.pull (r := vwr G _ _ _ x) pU).swap
  go_enter Try.func26, Try.ntmps26
  go_wp2_with (first | (go_at_call 69; (with_reducible refine (smay_ok b2 hm _).mono ?_); rintro e w1 ⟨v, rfl, hr⟩; obtain ⟨rfl, hb1⟩ := hr; replace H := H.grow hb1; clear hb1) | (with_reducible refine wpl rfl (Stp.box 3 rfl rfl rfl H ?_); clear H; intro g3 w1 H; simp only [pS]; simp only [pE, nC, pS] at H) | (with_reducible refine wpl rfl (Stp.ldr rfl agg46 size46 rfl H mR sZ ?_); simp only [pS]) | (with_reducible refine wpl rfl (Stp.ldl rfl agg46 size46 rfl H mR (by simp) ?_); simp only [pS]; simp only [List.drop_succ_cons, List.drop_zero, List.take_succ_cons, List.take_zero]) | (with_reducible refine wpl rfl (Stp.ldor rfl agg46 size46 rfl H (by assumption) sZ (by assumption) ?_); simp only [pS]) | (with_reducible refine wpl rfl (Stp.str rfl size46 rfl rfl (by first | rfl | (simp [Value.oneCell']; done) | assumption) H uP sZ sZ ?_); clear H; intro w1 H; simp only [pS]) | (with_reducible refine wpl rfl (Stp.stl rfl size46 rfl rfl rfl rfl H uP (by simp) ?_); clear H; intro w1 H; simp only [pS]; simp only [List.drop_succ_cons, List.drop_zero, List.take_succ_cons, List.take_zero, List.nil_append, List.cons_append, Nat.reduceAdd] at H))
  go_ret
  refine ⟨_, rfl, rfl, _, ⟨ma, la, da, mc, lc, dc, gm, G, rfl⟩, ?_⟩
  exact ((((H.pull (r := mapr Try.prog 36 ekP evL gm M) pU).pull (r := vwr G _ _ _ x) pU).sep.pull (r := row 116 g0 (stC x ma la da mc lc dc gm b2)) pU).sep).sub sU
end Go.Proofs.Ytjghcmejmdllbaa
