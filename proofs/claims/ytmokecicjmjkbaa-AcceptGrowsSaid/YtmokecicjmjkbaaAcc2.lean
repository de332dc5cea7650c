/- Contracts of layer 20's Acceptor (accept): New, asked, nack; the bounds stand in each. -/
import Derived.Test.YtmokecicjmjkbaaAcc1
import Derived.Test.YtmokecicjmjkbaaOpenV
namespace Go.Proofs.Ytmokecicjmjkbaa
open Go.ChangeShapes Go.WideShapes Go.ChangeAt Go.RowKit Go.Maps
set_option linter.unusedVariables false
set_option linter.unusedSimpArgs false
set_option maxRecDepth 100000
set_option maxHeartbeats 2000000
/-- What is wrong with a slot and a ballot. -/
def asE (cur slot : Nat) (b : Bl) : Int := if may b.w.1 b.w.2 = false then 1 else if slot < cur then 10 else if cur < slot then 11 else 0
attribute [local irreducible] may
theorem asked_ok (g0 cur slot : Nat) (pr b : Bl) (x : Option Addr) (e : Int) (he : asE cur slot b = e) (w : World) (hr : w.heap[g0]? = some (.cells #[.int .u64 (cur : Int), .int .u32 (pr.r : Int), .int .u16 (pr.w.1 : Int), .int .u32 (pr.w.2 : Int), .pointer x] 105 (0, 0))) :
    Calls Try.prog 52 #[.pointer (some ⟨g0, 0, none⟩), .int .u64 (slot : Int), .agg (blC b)] w (Ret fun v w' => v = .int .i64 e ∧ Below w.heap.size w w') := by
  have H := St.init w
  have hc0 : w.cell? ⟨g0, 0, none⟩ = some (.int .u64 (cur : Int)) := by rw [cell_of_rowAt (rowAt_of hr)]; rfl
  have hc1 : w.cell? ⟨g0, 1, none⟩ = some (.int .u32 (pr.r : Int)) := by rw [cell_of_rowAt (rowAt_of hr)]; rfl
  have hc2 : w.cell? ⟨g0, 2, none⟩ = some (.int .u16 (pr.w.1 : Int)) := by rw [cell_of_rowAt (rowAt_of hr)]; rfl
  have hc3 : w.cell? ⟨g0, 3, none⟩ = some (.int .u32 (pr.w.2 : Int)) := by rw [cell_of_rowAt (rowAt_of hr)]; rfl
  have hlt : g0 < w.heap.size := rowAt_lt (rowAt_of hr)
  clear hr
  subst he
  unfold asE
  simp only [blC]
  cases hy : may b.w.1 b.w.2
  · have HY := Lib.hid hy
    rw [if_pos rfl]
    clear hy
    go_enter Try.func52, Try.ntmps52
    go_wp2_with (first | (go_at_call 80; (with_reducible refine (may_ok b.w.1 b.w.2 _).mono ?_); rintro e w1 ⟨v, rfl, hr⟩; obtain ⟨rfl, hb1⟩ := hr; replace H := H.grow hb1; clear hb1; rw [HY.out]) | (with_reducible refine wpl rfl (Stp.box 5 rfl rfl rfl H ?_); clear H; intro g5 w1 H; simp only [pS]; simp only [pE, nC, pS] at H) | (with_reducible refine wpl rfl (Stp.ldr rfl agg30 size30 rfl H mR sZ ?_); simp only [pS]) | (with_reducible refine wpl rfl (Stp.ldl rfl agg30 size30 rfl H mR (by simp) ?_); simp only [pS]; simp only [List.drop_succ_cons, List.drop_zero, List.take_succ_cons, List.take_zero]) | (with_reducible refine wpl rfl (Stp.ldor rfl agg30 size30 rfl H (by assumption) sZ (by assumption) ?_); simp only [pS]) | (with_reducible refine wpl rfl (Stp.ldc rfl agg26 rfl H mR cE ?_); simp only [pS]) | (with_reducible refine wpl rfl (Stp.ldo rfl agg26 rfl H (by assumption) (by assumption) ?_); simp only [pS]))
    go_ret
    exact ⟨_, rfl, rfl, H.below⟩
  · have HY := Lib.hid hy
    rw [if_neg (by simp)]
    clear hy
    by_cases h1 : slot < cur
    · have h1i : (slot : Int) < (cur : Int) := by omega
      rw [if_pos h1]
      clear h1
      go_enter Try.func52, Try.ntmps52
      go_wp2_with (first | (go_at_call 80; (with_reducible refine (may_ok b.w.1 b.w.2 _).mono ?_); rintro e w1 ⟨v, rfl, hr⟩; obtain ⟨rfl, hb1⟩ := hr; replace H := H.grow hb1; clear hb1; rw [HY.out]) | (with_reducible refine wpl rfl (Stp.box 5 rfl rfl rfl H ?_); clear H; intro g5 w1 H; simp only [pS]; simp only [pE, nC, pS] at H) | (with_reducible refine wpl rfl (Stp.ldr rfl agg30 size30 rfl H mR sZ ?_); simp only [pS]) | (with_reducible refine wpl rfl (Stp.ldl rfl agg30 size30 rfl H mR (by simp) ?_); simp only [pS]; simp only [List.drop_succ_cons, List.drop_zero, List.take_succ_cons, List.take_zero]) | (with_reducible refine wpl rfl (Stp.ldor rfl agg30 size30 rfl H (by assumption) sZ (by assumption) ?_); simp only [pS]) | (with_reducible refine wpl rfl (Stp.ldc rfl agg26 rfl H mR cE ?_); simp only [pS]) | (with_reducible refine wpl rfl (Stp.ldo rfl agg26 rfl H (by assumption) (by assumption) ?_); simp only [pS]))
      go_ret
      exact ⟨_, rfl, rfl, H.below⟩
    · have h1i : ¬ (slot : Int) < (cur : Int) := by omega
      rw [if_neg h1]
      by_cases h2 : cur < slot
      · have h2i : (cur : Int) < (slot : Int) := by omega
        rw [if_pos h2]
        clear h1 h2
        go_enter Try.func52, Try.ntmps52
        go_wp2_with (first | (go_at_call 80; (with_reducible refine (may_ok b.w.1 b.w.2 _).mono ?_); rintro e w1 ⟨v, rfl, hr⟩; obtain ⟨rfl, hb1⟩ := hr; replace H := H.grow hb1; clear hb1; rw [HY.out]) | (with_reducible refine wpl rfl (Stp.box 5 rfl rfl rfl H ?_); clear H; intro g5 w1 H; simp only [pS]; simp only [pE, nC, pS] at H) | (with_reducible refine wpl rfl (Stp.ldr rfl agg30 size30 rfl H mR sZ ?_); simp only [pS]) | (with_reducible refine wpl rfl (Stp.ldl rfl agg30 size30 rfl H mR (by simp) ?_); simp only [pS]; simp only [List.drop_succ_cons, List.drop_zero, List.take_succ_cons, List.take_zero]) | (with_reducible refine wpl rfl (Stp.ldor rfl agg30 size30 rfl H (by assumption) sZ (by assumption) ?_); simp only [pS]) | (with_reducible refine wpl rfl (Stp.ldc rfl agg26 rfl H mR cE ?_); simp only [pS]) | (with_reducible refine wpl rfl (Stp.ldo rfl agg26 rfl H (by assumption) (by assumption) ?_); simp only [pS]))
        go_ret
        exact ⟨_, rfl, rfl, H.below⟩
      · have h2i : ¬ (cur : Int) < (slot : Int) := by omega
        rw [if_neg h2]
        clear h1 h2
        go_enter Try.func52, Try.ntmps52
        go_wp2_with (first | (go_at_call 80; (with_reducible refine (may_ok b.w.1 b.w.2 _).mono ?_); rintro e w1 ⟨v, rfl, hr⟩; obtain ⟨rfl, hb1⟩ := hr; replace H := H.grow hb1; clear hb1; rw [HY.out]) | (with_reducible refine wpl rfl (Stp.box 5 rfl rfl rfl H ?_); clear H; intro g5 w1 H; simp only [pS]; simp only [pE, nC, pS] at H) | (with_reducible refine wpl rfl (Stp.ldr rfl agg30 size30 rfl H mR sZ ?_); simp only [pS]) | (with_reducible refine wpl rfl (Stp.ldl rfl agg30 size30 rfl H mR (by simp) ?_); simp only [pS]; simp only [List.drop_succ_cons, List.drop_zero, List.take_succ_cons, List.take_zero]) | (with_reducible refine wpl rfl (Stp.ldor rfl agg30 size30 rfl H (by assumption) sZ (by assumption) ?_); simp only [pS]) | (with_reducible refine wpl rfl (Stp.ldc rfl agg26 rfl H mR cE ?_); simp only [pS]) | (with_reducible refine wpl rfl (Stp.ldo rfl agg26 rfl H (by assumption) (by assumption) ?_); simp only [pS]))
        go_ret
        exact ⟨_, rfl, rfl, H.below⟩
theorem anew_ok {B : Nat} {w0 : World} {L : List Res} (s : Nat) (w : World) (H : St B w0 w L) :
    Calls Try.prog 20 #[.int .u64 (s : Int)] w (Ret fun v w' => ∃ g0, v = .pointer (some ⟨g0, 0, none⟩) ∧ St B w0 w' (row 105 g0 #[.int .u64 (s : Int), .int .u32 0, .int .u16 0, .int .u32 0, .pointer none] :: L)) := by
  go_enter Try.func20, Try.ntmps20
  go_wp2_with (first | (with_reducible refine wpl rfl (Stp.build (v := (.agg #[.int .u64 (s : Int), .int .u32 0, .int .u16 0, .int .u32 0, .pointer none])) 4 rfl rfl (fun W => by kernel_rfl) ?_); simp only [pS]) | (with_reducible refine wpl rfl (Stp.box 5 rfl rfl rfl H ?_); clear H; intro g5 w1 H; simp only [pS]; simp only [pE, nC, pS] at H))
  go_ret
  exact ⟨_, rfl, g5, rfl, H⟩
theorem nack_ok (g0 cur : Nat) (pr : Bl) (x : Option Addr) (w : World) (hr : w.heap[g0]? = some (.cells #[.int .u64 (cur : Int), .int .u32 (pr.r : Int), .int .u16 (pr.w.1 : Int), .int .u32 (pr.w.2 : Int), .pointer x] 105 (0, 0))) :
    Calls Try.prog 54 #[.pointer (some ⟨g0, 0, none⟩)] w (Ret fun v w' => v = .agg #[.int .i64 8, .int .u16 0, .int .u32 0, .int .u64 0, .int .u64 (cur : Int), .int .u64 0, .int .i64 0, .int .u32 (pr.r : Int), .int .u16 (pr.w.1 : Int), .int .u32 (pr.w.2 : Int), .int .u32 0, .int .u16 0, .int .u32 0, .bool false, .int .i64 0, .int .u16 0, .int .u32 0, .int .u64 0, .int .u64 0, .slice none 0 0, .int .u64 0, .slice none 0 0, .slice none 0 0, .slice none 0 0, .int .u64 0, .slice none 0 0, .slice none 0 0, .slice none 0 0, .slice none 0 0] ∧ Below w.heap.size w w') := by
  have H := St.init w
  have hc0 : w.cell? ⟨g0, 0, none⟩ = some (.int .u64 (cur : Int)) := by rw [cell_of_rowAt (rowAt_of hr)]; rfl
  have hc1 : w.cell? ⟨g0, 1, none⟩ = some (.int .u32 (pr.r : Int)) := by rw [cell_of_rowAt (rowAt_of hr)]; rfl
  have hc2 : w.cell? ⟨g0, 2, none⟩ = some (.int .u16 (pr.w.1 : Int)) := by rw [cell_of_rowAt (rowAt_of hr)]; rfl
  have hc3 : w.cell? ⟨g0, 3, none⟩ = some (.int .u32 (pr.w.2 : Int)) := by rw [cell_of_rowAt (rowAt_of hr)]; rfl
  have hcb : ∀ j, j < 3 → w.cell? ⟨g0, 1 + j, none⟩ = #[.int .u32 (pr.r : Int), .int .u16 (pr.w.1 : Int), .int .u32 (pr.w.2 : Int)][j]? := by
    intro j hj
    rw [cell_of_rowAt (rowAt_of hr)]
    have : j = 0 ∨ j = 1 ∨ j = 2 := by omega
    rcases this with rfl | rfl | rfl <;> rfl
  have hlt : g0 < w.heap.size := rowAt_lt (rowAt_of hr)
  clear hr
  go_enter Try.func54, Try.ntmps54
  go_wp2_with (first | (with_reducible refine wpl rfl (Stp.alloc 2 rfl rfl zero49 H ?_); clear H; intro g2 w1 H; simp only [pS]; simp only [nC] at H))
  refine rg_begin 10 rfl (S := fun W => St _ _ W []) (by kernel_rfl) (H.drew.sub sU) ?_
  replace H := H.drew
  have HS := H
  refine rg_take (i := 0) rfl kR kR kR (Yld.move rfl rfl) (H.sub sU) ?_; simp only [pS, pE]
  refine rg_take (i := 1) rfl kR kR kR (Yld.o rfl) (H.sub sU) ?_; simp only [pS]
  refine rg_take (i := 2) rfl kR kR kR (Yld.o rfl) (H.sub sU) ?_; simp only [pS]
  first | (refine rg_take (i := 3) rfl kR kR kR (Yld.ldc rfl rfl agg26 rfl mR cE) (H.sub sU) ?_; simp only [pS]) | (refine rg_take (i := 3) rfl kR kR kR (Yld.ldo rfl rfl agg26 rfl (by assumption) (by assumption)) (H.sub sU) ?_; simp only [pS])
  refine rg_take (i := 4) rfl kR kR kR (Yld.move rfl rfl) (H.sub sU) ?_; simp only [pS, pE]
  refine rg_take (i := 5) rfl kR kR kR (Yld.o rfl) (H.sub sU) ?_; simp only [pS]
  refine rg_take (i := 6) rfl kR kR kR (Yld.o rfl) (H.sub sU) ?_; simp only [pS]
  first | (refine rg_take (i := 7) rfl kR kR kR (Yld.ldr rfl rfl agg47 size47 rfl mR sZ) (H.sub sU) ?_; simp only [pS]) | (refine rg_take (i := 7) rfl kR kR kR (Yld.ldl rfl rfl agg47 size47 rfl mR (by simp)) (H.sub sU) ?_; simp only [pS]; simp only [List.drop_succ_cons, List.drop_zero, List.take_succ_cons, List.take_zero]) | (refine rg_take (i := 7) rfl kR kR kR (Yld.ldor rfl rfl agg47 size47 rfl (by assumption) sZ (by assumption)) (H.sub sU) ?_; simp only [pS])
  refine rg_take (i := 8) rfl kR kR kR (Yld.of (v := .agg #[.int .i64 8, .int .u16 0, .int .u32 0, .int .u64 0, .int .u64 (cur : Int), .int .u64 0, .int .i64 0, .int .u32 (pr.r : Int), .int .u16 (pr.w.1 : Int), .int .u32 (pr.w.2 : Int), .int .u32 0, .int .u16 0, .int .u32 0, .bool false, .int .i64 0, .int .u16 0, .int .u32 0, .int .u64 0, .int .u64 0, .slice none 0 0, .int .u64 0, .slice none 0 0, .slice none 0 0, .slice none 0 0, .int .u64 0, .slice none 0 0, .slice none 0 0, .slice none 0 0, .slice none 0 0]) rfl (fun W _ => by kernel_rfl)) (H.sub sU) ?_; simp only [pS, pE]
  refine rg_one (i := 9) (by kernel_rfl) rfl rfl (fun K hK => ?_)
  refine Stp.wp (Stp.str (ds := #[.int .i64 8, .int .u16 0, .int .u32 0, .int .u64 0, .int .u64 (cur : Int), .int .u64 0, .int .i64 0, .int .u32 (pr.r : Int), .int .u16 (pr.w.1 : Int), .int .u32 (pr.w.2 : Int), .int .u32 0, .int .u16 0, .int .u32 0, .bool false, .int .i64 0, .int .u16 0, .int .u32 0, .int .u64 0, .int .u64 0, .slice none 0 0, .int .u64 0, .slice none 0 0, .slice none 0 0, .slice none 0 0, .int .u64 0, .slice none 0 0, .slice none 0 0, .slice none 0 0, .slice none 0 0]) rfl size49 rfl rfl (by simp [Value.oneCell']) H uP rfl rfl ?_)
  clear H
  intro w1 H
  clear HS
  have HS := H
  refine hK.out _ _ (H.sub sU) ?_
  clear hK K
  simp only [pS]
  refine rg_done (by kernel_rfl) ?_
  go_wp2_with (first | (with_reducible refine wpl rfl (Stp.alloc 2 rfl rfl zero49 H ?_); clear H; intro g2 w1 H; simp only [pS]; simp only [nC] at H))
  exact post_row rfl agg49 size49 rfl H mE rfl rfl ⟨_, rfl, rfl, H.below⟩
end Go.Proofs.Ytmokecicjmjkbaa
