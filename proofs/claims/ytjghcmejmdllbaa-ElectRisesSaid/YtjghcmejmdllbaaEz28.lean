/- Layer 21's document's example (elect): the law's awake; no condition. The statement ElectNil of layer 21 (elect), proved; no condition: who is none, messages that came in, the law's walk, and the row round it. -/
import Derived.Test.YtjghcmejmdllbaaEz2
import Derived.Test.YtjghcmejmdllbaaEz8
import Derived.Test.YtjghcmejmdllbaaEz13
namespace Go.Proofs.Ytjghcmejmdllbaa
open Go.ChangeShapes Go.WideShapes Go.ChangeAt Go.RowKit Go.Maps Go.Deep
set_option linter.unusedVariables false
set_option linter.unusedSimpArgs false
set_option linter.unusedSectionVars false
set_option maxRecDepth 100000
set_option maxHeartbeats 4000000
def l3 : List Pr := [(1, 1), (2, 1), (3, 1)]
def awV3 : Vw := ⟨1, l3, [l3], l3⟩
def hdE : Hd := ⟨none, none, none, none, 0, 0, 0, 0⟩
def nopE : Cm := ⟨1, (0, 0), 0, 0, [], vw0⟩
theorem awV3_sm : smV awV3 := ⟨by decide, by decide, (by intro l hl; simp only [awV3, List.mem_singleton] at hl; subst hl; decide), by decide⟩
theorem awV3_wf : wfV awV3 := by
  have h3 : okPids l3 := by
    intro p hp
    simp only [l3, List.mem_cons, List.not_mem_nil, or_false] at hp
    rcases hp with rfl | rfl | rfl <;> exact ⟨by decide, by decide⟩
  exact ⟨by decide, h3, (by intro l hl; simp only [awV3, List.mem_singleton] at hl; subst hl; exact h3), h3⟩
theorem awV3_err : vErr awV3 = 0 := by decide +kernel
theorem nopE_err : cErr nopE = 0 := by
  have h1 : only nopE = nopE := rfl
  have h2 : cSame nopE nopE = true := cSame_iff.2 rfl
  unfold cErr kindOk
  rw [h1, h2]
  rfl
theorem nopE_sm : smC nopE := ⟨by decide, ⟨by decide, by decide, (by intro l hl; cases hl), by decide⟩⟩
theorem nopE_wf : wfC nopE := ⟨by decide, by decide, by decide, by decide, (by intro x hx; cases hx), ⟨by decide, (by intro p hp; cases hp), (by intro l hl; cases hl), (by intro p hp; cases hp)⟩⟩
theorem slg_l3 {G : Nat → Prop} {W : World} {gb : Nat} (h : W.heap[gb]? = some (.cells #[.int .u16 1, .int .u32 1, .int .u16 2, .int .u32 1, .int .u16 3, .int .u32 1] 36 (0, 0))) (hG : G gb) : SlG G W 2 3 (.slice (some ⟨gb, 0, none⟩) 3 3) (elQ l3) :=
  ⟨_, _, rfl, by simp [maxLen], fun _ => ⟨gb, 0, rfl, hG, rowAt_lt (rowAt_of h), fun i hi j hj => by
    rw [cell_of_rowAt (rowAt_of h)]
    have h1 : i = 0 ∨ i = 1 ∨ i = 2 := by omega
    have h2 : j = 0 ∨ j = 1 := by omega
    rcases h1 with rfl | rfl | rfl <;> rcases h2 with rfl | rfl <;> rfl⟩⟩
theorem three_ok {B : Nat} {w0 : World} {L : List Res} (w : World) (H : St B w0 w L) :
    Calls Try.prog 53 #[] w (Ret fun v w' => ∃ ga gb gc gd, v = .agg #[.int .u64 1, .slice (some ⟨ga, 0, none⟩) 3 3, .slice (some ⟨gc, 0, none⟩) 1 1, .slice (some ⟨gd, 0, none⟩) 3 3] ∧ St B w0 w' (row 36 gd #[.int .u16 1, .int .u32 1, .int .u16 2, .int .u32 1, .int .u16 3, .int .u32 1] :: row 23 gc #[.slice (some ⟨gb, 0, none⟩) 3 3] :: row 36 gb #[.int .u16 1, .int .u32 1, .int .u16 2, .int .u32 1, .int .u16 3, .int .u32 1] :: row 36 ga #[.int .u16 1, .int .u32 1, .int .u16 2, .int .u32 1, .int .u16 3, .int .u32 1] :: L)) := by
  go_enter Try.func53, Try.ntmps53
  go_wp2_with (first | (with_reducible refine wpl rfl (Stp.build (v := (.agg #[.int .u16 1, .int .u32 1])) 4 rfl rfl (fun W => by kernel_rfl) ?_); simp only [pS]) | (with_reducible refine wpl rfl (Stp.build (v := (.agg #[.int .u16 2, .int .u32 1])) 5 rfl rfl (fun W => by kernel_rfl) ?_); simp only [pS]) | (with_reducible refine wpl rfl (Stp.build (v := (.agg #[.int .u16 3, .int .u32 1])) 6 rfl rfl (fun W => by kernel_rfl) ?_); simp only [pS]) | (with_reducible refine wpl rfl (Stp.bsl (e := 36) (cs := #[.int .u16 1, .int .u32 1, .int .u16 2, .int .u32 1, .int .u16 3, .int .u32 1]) 10 rfl rfl (fun W => by kernel_rfl) H ?_); clear H; intro g10 w1 H; simp only [pS]) | (with_reducible refine wpl rfl (Stp.bsl (e := 36) (cs := #[.int .u16 1, .int .u32 1, .int .u16 2, .int .u32 1, .int .u16 3, .int .u32 1]) 14 rfl rfl (fun W => by kernel_rfl) H ?_); clear H; intro g14 w1 H; simp only [pS]) | (with_reducible refine wpl rfl (Stp.bsl (e := 23) (cs := #[.slice (some ⟨g14, 0, none⟩) 3 3]) 15 rfl rfl (fun W => by kernel_rfl) H ?_); clear H; intro g15 w1 H; simp only [pS]) | (with_reducible refine wpl rfl (Stp.bsl (e := 36) (cs := #[.int .u16 1, .int .u32 1, .int .u16 2, .int .u32 1, .int .u16 3, .int .u32 1]) 19 rfl rfl (fun W => by kernel_rfl) H ?_); clear H; intro g19 w1 H; simp only [pS]) | (with_reducible refine wpl rfl (Stp.alloc 0 rfl rfl zero26 H ?_); clear H; intro g0 w1 H; simp only [pS]; simp only [nC] at H) | (with_reducible refine wpl rfl (Stp.alloc 1 rfl rfl zero36 H ?_); clear H; intro g1 w1 H; simp only [pS]; simp only [nC] at H) | (with_reducible refine wpl rfl (Stp.alloc 2 rfl rfl zero36 H ?_); clear H; intro g2 w1 H; simp only [pS]; simp only [nC] at H) | (with_reducible refine wpl rfl (Stp.alloc 3 rfl rfl zero36 H ?_); clear H; intro g3 w1 H; simp only [pS]; simp only [nC] at H) | (with_reducible refine wpl rfl (Stp.str rfl size36 rfl rfl (by first | rfl | (simp [Value.oneCell']; done) | assumption) H uP sZ sZ ?_); clear H; intro w1 H; simp only [pS]) | (with_reducible refine wpl rfl (Stp.ldr rfl agg36 size36 rfl H mR sZ ?_); simp only [pS]) | (with_reducible refine wpl rfl (Stp.str rfl size26 rfl rfl (by first | rfl | (simp [Value.oneCell']; done) | assumption) H uP sZ sZ ?_); clear H; intro w1 H; simp only [pS]))
  refine post_row rfl agg26 size26 rfl H mE rfl rfl ⟨_, rfl, g10, g14, g15, g19, rfl, ?_⟩
  exact ((((H.pull (r := row 36 g10 #[.int .u16 1, .int .u32 1, .int .u16 2, .int .u32 1, .int .u16 3, .int .u32 1]) pU).pull (r := row 36 g14 #[.int .u16 1, .int .u32 1, .int .u16 2, .int .u32 1, .int .u16 3, .int .u32 1]) pU).pull (r := row 23 g15 _) pU).pull (r := row 36 g19 #[.int .u16 1, .int .u32 1, .int .u16 2, .int .u32 1, .int .u16 3, .int .u32 1]) pU).sub sU
theorem awenew_ok {B : Nat} {w0 : World} {L : List Res} (w : World) (H : St B w0 w L) : Calls Try.prog 30 #[.agg #[.int .u16 1, .int .u32 1]] w (Ret fun v w' => ∃ gp, v = .pointer (some ⟨gp, 0, none⟩) ∧ St B w0 w' (row 129 gp #[.int .u16 1, .int .u32 1, .int .u32 0, .int .u16 0, .int .u32 0, .int .i64 0, .slice none 0 0, .int .u64 0, .int .u32 0, .int .u16 0, .int .u32 0, .pointer none, .int .u64 0, .int .u64 0] :: L)) := enew_ok (1, 1) w H
theorem awstart_ok {B : Nat} {w0 : World} {L : List Res} (gp ga gb gc gd g1 : Nat) (w : World) (H : St B w0 w (row 129 gp #[.int .u16 1, .int .u32 1, .int .u32 0, .int .u16 0, .int .u32 0, .int .i64 0, .slice none 0 0, .int .u64 0, .int .u32 0, .int .u16 0, .int .u32 0, .pointer none, .int .u64 0, .int .u64 0] :: row 26 g1 #[.int .u64 1, .slice (some ⟨ga, 0, none⟩) 3 3, .slice (some ⟨gc, 0, none⟩) 1 1, .slice (some ⟨gd, 0, none⟩) 3 3] :: row 36 gd #[.int .u16 1, .int .u32 1, .int .u16 2, .int .u32 1, .int .u16 3, .int .u32 1] :: row 23 gc #[.slice (some ⟨gb, 0, none⟩) 3 3] :: row 36 gb #[.int .u16 1, .int .u32 1, .int .u16 2, .int .u32 1, .int .u16 3, .int .u32 1] :: row 36 ga #[.int .u16 1, .int .u32 1, .int .u16 2, .int .u32 1, .int .u16 3, .int .u32 1] :: L)) :
    Calls Try.prog 36 #[.pointer (some ⟨gp, 0, none⟩), .agg #[.int .u64 1, .slice (some ⟨ga, 0, none⟩) 3 3, .slice (some ⟨gc, 0, none⟩) 1 1, .slice (some ⟨gd, 0, none⟩) 3 3], .int .u64 1] w (Ret fun v w' => v = .tuple #[.agg #[.int .u32 1, .int .u16 1, .int .u32 1], .int .i64 0] ∧ ∃ (la : Option Addr) (lc : Nat), St B w0 w' (row 129 gp #[.int .u16 1, .int .u32 1, .int .u32 1, .int .u16 1, .int .u32 1, .int .i64 1, .slice la 3 lc, .int .u64 1, .int .u32 1, .int .u16 1, .int .u32 1, .pointer none, .int .u64 0, .int .u64 0] :: slc 36 2 (.slice la 3 lc) 3 (pv l3) :: row 26 g1 #[.int .u64 1, .slice (some ⟨ga, 0, none⟩) 3 3, .slice (some ⟨gc, 0, none⟩) 1 1, .slice (some ⟨gd, 0, none⟩) 3 3] :: row 36 gd #[.int .u16 1, .int .u32 1, .int .u16 2, .int .u32 1, .int .u16 3, .int .u32 1] :: row 23 gc #[.slice (some ⟨gb, 0, none⟩) 3 3] :: row 36 gb #[.int .u16 1, .int .u32 1, .int .u16 2, .int .u32 1, .int .u16 3, .int .u32 1] :: row 36 ga #[.int .u16 1, .int .u32 1, .int .u16 2, .int .u32 1, .int .u16 3, .int .u32 1] :: L)) := by
  refine estart_yes (G1 := fun _ => True) gp (1, 1) bl0 0 none 0 0 0 bl0 none 0 0 awV3 (some ⟨ga, 0, none⟩) (some ⟨gc, 0, none⟩) (some ⟨gd, 0, none⟩) 3 1 3 1 awV3_sm awV3_wf awV3_err (by decide) (by decide) (fun W _ q => ?_) w H
  have h1 := q _ (List.mem_cons_of_mem _ List.mem_cons_self)
  have h2 := q _ (List.mem_cons_of_mem _ (List.mem_cons_of_mem _ List.mem_cons_self))
  have h3 := q _ (List.mem_cons_of_mem _ (List.mem_cons_of_mem _ (List.mem_cons_of_mem _ List.mem_cons_self)))
  have h4 := q _ (List.mem_cons_of_mem _ (List.mem_cons_of_mem _ (List.mem_cons_of_mem _ (List.mem_cons_of_mem _ List.mem_cons_self))))
  refine ⟨slg_l3 h4 trivial, ⟨fun _ => .slice (some ⟨gb, 0, none⟩) 3 3, ⟨_, _, rfl, by simp [awV3, maxLen], fun _ => ⟨gc, 0, rfl, trivial, rowAt_lt (rowAt_of h2), fun i hi j hj => ?_⟩⟩, fun i hi => ?_⟩, slg_l3 h1 trivial⟩
  · rw [cell_of_rowAt (rowAt_of h2)]
    have : i = 0 := by simp only [awV3, List.length_singleton] at hi; omega
    subst this
    obtain rfl : j = 0 := by omega
    rfl
  · have : i = 0 := by simp only [awV3, List.length_singleton] at hi; omega
    subst this
    exact slg_l3 h3 trivial
theorem awp1_ok {B : Nat} {w0 : World} {L : List Res} (gp lc : Nat) (la : Option Addr) (w : World) (H : St B w0 w (row 129 gp #[.int .u16 1, .int .u32 1, .int .u32 1, .int .u16 1, .int .u32 1, .int .i64 1, .slice la 3 lc, .int .u64 1, .int .u32 1, .int .u16 1, .int .u32 1, .pointer none, .int .u64 0, .int .u64 0] :: slc 36 2 (.slice la 3 lc) 3 (pv l3) :: L)) :
    Calls Try.prog 41 #[.pointer (some ⟨gp, 0, none⟩), .agg #[.int .u16 1, .int .u32 1], .agg #[.int .i64 5, .int .u16 0, .int .u32 0, .int .u64 0, .int .u64 1, .int .u64 0, .int .i64 0, .int .u32 1, .int .u16 1, .int .u32 1, .int .u32 0, .int .u16 0, .int .u32 0, .bool false, .int .i64 0, .int .u16 0, .int .u32 0, .int .u64 0, .int .u64 0, .slice none 0 0, .int .u64 0, .slice none 0 0, .slice none 0 0, .slice none 0 0, .int .u64 0, .slice none 0 0, .slice none 0 0, .slice none 0 0, .slice none 0 0]] w (Ret fun v w' => v = .bool false ∧ St B w0 w' (row 129 gp #[.int .u16 1, .int .u32 1, .int .u32 1, .int .u16 1, .int .u32 1, .int .i64 1, .slice la 3 lc, .int .u64 1, .int .u32 1, .int .u16 1, .int .u32 1, .pointer none, .int .u64 1, .int .u64 0] :: slc 36 2 (.slice la 3 lc) 3 (pv l3) :: L)) :=
  prom0_ok gp (1, 1) ⟨1, (1, 1)⟩ la 3 lc 1 ⟨1, (1, 1)⟩ 0 0 l3 none (1, 1) 0 0 0 0 0 bl0 cm0 hdE vw0 hdE none 0 0 rfl (by omega) (by omega) (by omega) (by omega) 0 (by decide +kernel) (by omega) (by decide +kernel) 1 0 (by decide +kernel) (by omega) (by omega) false (by decide +kernel) w H

theorem awp2_ok {B : Nat} {w0 : World} {L : List Res} (gp lc : Nat) (la : Option Addr) (w : World) (H : St B w0 w (row 129 gp #[.int .u16 1, .int .u32 1, .int .u32 1, .int .u16 1, .int .u32 1, .int .i64 1, .slice la 3 lc, .int .u64 1, .int .u32 1, .int .u16 1, .int .u32 1, .pointer none, .int .u64 1, .int .u64 0] :: slc 36 2 (.slice la 3 lc) 3 (pv l3) :: L)) :
    Calls Try.prog 41 #[.pointer (some ⟨gp, 0, none⟩), .agg #[.int .u16 2, .int .u32 1], .agg #[.int .i64 5, .int .u16 0, .int .u32 0, .int .u64 0, .int .u64 1, .int .u64 0, .int .i64 0, .int .u32 1, .int .u16 1, .int .u32 1, .int .u32 0, .int .u16 0, .int .u32 0, .bool false, .int .i64 0, .int .u16 0, .int .u32 0, .int .u64 0, .int .u64 0, .slice none 0 0, .int .u64 0, .slice none 0 0, .slice none 0 0, .slice none 0 0, .int .u64 0, .slice none 0 0, .slice none 0 0, .slice none 0 0, .slice none 0 0]] w (Ret fun v w' => v = .bool true ∧ St B w0 w' (row 129 gp #[.int .u16 1, .int .u32 1, .int .u32 1, .int .u16 1, .int .u32 1, .int .i64 2, .slice la 3 lc, .int .u64 1, .int .u32 1, .int .u16 1, .int .u32 1, .pointer none, .int .u64 3, .int .u64 0] :: slc 36 2 (.slice la 3 lc) 3 (pv l3) :: L)) :=
  prom0_ok gp (1, 1) ⟨1, (1, 1)⟩ la 3 lc 1 ⟨1, (1, 1)⟩ 1 0 l3 none (2, 1) 0 0 0 0 0 bl0 cm0 hdE vw0 hdE none 0 0 rfl (by omega) (by omega) (by omega) (by omega) 1 (by decide +kernel) (by omega) (by decide +kernel) 3 0 (by decide +kernel) (by omega) (by omega) true (by decide +kernel) w H

theorem awa1_ok {B : Nat} {w0 : World} {L : List Res} (gp lc : Nat) (la : Option Addr) (gv : Nat) (w : World) (H : St B w0 w (row 129 gp #[.int .u16 1, .int .u32 1, .int .u32 1, .int .u16 1, .int .u32 1, .int .i64 3, .slice la 3 lc, .int .u64 1, .int .u32 1, .int .u16 1, .int .u32 1, .pointer (some ⟨gv, 0, none⟩), .int .u64 0, .int .u64 0] :: slc 36 2 (.slice la 3 lc) 3 (pv l3) :: L)) :
    Calls Try.prog 42 #[.pointer (some ⟨gp, 0, none⟩), .agg #[.int .u16 1, .int .u32 1], .agg #[.int .i64 7, .int .u16 0, .int .u32 0, .int .u64 0, .int .u64 1, .int .u64 0, .int .i64 0, .int .u32 1, .int .u16 1, .int .u32 1, .int .u32 0, .int .u16 0, .int .u32 0, .bool false, .int .i64 0, .int .u16 0, .int .u32 0, .int .u64 0, .int .u64 0, .slice none 0 0, .int .u64 0, .slice none 0 0, .slice none 0 0, .slice none 0 0, .int .u64 0, .slice none 0 0, .slice none 0 0, .slice none 0 0, .slice none 0 0]] w (Ret fun v w' => v = .bool false ∧ St B w0 w' (row 129 gp #[.int .u16 1, .int .u32 1, .int .u32 1, .int .u16 1, .int .u32 1, .int .i64 3, .slice la 3 lc, .int .u64 1, .int .u32 1, .int .u16 1, .int .u32 1, .pointer (some ⟨gv, 0, none⟩), .int .u64 1, .int .u64 0] :: slc 36 2 (.slice la 3 lc) 3 (pv l3) :: L)) :=
  accd_ok gp (1, 1) ⟨1, (1, 1)⟩ la 3 lc 1 ⟨1, (1, 1)⟩ 0 0 l3 (some ⟨gv, 0, none⟩) (1, 1) 0 0 0 0 0 bl0 cm0 hdE vw0 hdE none 0 0 rfl (by omega) (by omega) (by omega) (by omega) 0 (by decide +kernel) (by omega) (by decide +kernel) 1 0 (by decide +kernel) (by omega) (by omega) false (by decide +kernel) 2 rfl w H

theorem awa2_ok {B : Nat} {w0 : World} {L : List Res} (gp lc : Nat) (la : Option Addr) (gv : Nat) (w : World) (H : St B w0 w (row 129 gp #[.int .u16 1, .int .u32 1, .int .u32 1, .int .u16 1, .int .u32 1, .int .i64 3, .slice la 3 lc, .int .u64 1, .int .u32 1, .int .u16 1, .int .u32 1, .pointer (some ⟨gv, 0, none⟩), .int .u64 1, .int .u64 0] :: slc 36 2 (.slice la 3 lc) 3 (pv l3) :: L)) :
    Calls Try.prog 42 #[.pointer (some ⟨gp, 0, none⟩), .agg #[.int .u16 3, .int .u32 1], .agg #[.int .i64 7, .int .u16 0, .int .u32 0, .int .u64 0, .int .u64 1, .int .u64 0, .int .i64 0, .int .u32 1, .int .u16 1, .int .u32 1, .int .u32 0, .int .u16 0, .int .u32 0, .bool false, .int .i64 0, .int .u16 0, .int .u32 0, .int .u64 0, .int .u64 0, .slice none 0 0, .int .u64 0, .slice none 0 0, .slice none 0 0, .slice none 0 0, .int .u64 0, .slice none 0 0, .slice none 0 0, .slice none 0 0, .slice none 0 0]] w (Ret fun v w' => v = .bool true ∧ St B w0 w' (row 129 gp #[.int .u16 1, .int .u32 1, .int .u32 1, .int .u16 1, .int .u32 1, .int .i64 2, .slice la 3 lc, .int .u64 2, .int .u32 1, .int .u16 1, .int .u32 1, .pointer none, .int .u64 5, .int .u64 0] :: slc 36 2 (.slice la 3 lc) 3 (pv l3) :: L)) :=
  accd_ok gp (1, 1) ⟨1, (1, 1)⟩ la 3 lc 1 ⟨1, (1, 1)⟩ 1 0 l3 (some ⟨gv, 0, none⟩) (3, 1) 0 0 0 0 0 bl0 cm0 hdE vw0 hdE none 0 0 rfl (by omega) (by omega) (by omega) (by omega) 2 (by decide +kernel) (by omega) (by decide +kernel) 5 0 (by decide +kernel) (by omega) (by omega) true (by decide +kernel) 2 rfl w H

theorem awprop_ok {B : Nat} {w0 : World} {L : List Res} (gp lc : Nat) (la : Option Addr) (w : World) (H : St B w0 w (row 129 gp #[.int .u16 1, .int .u32 1, .int .u32 1, .int .u16 1, .int .u32 1, .int .i64 2, .slice la 3 lc, .int .u64 1, .int .u32 1, .int .u16 1, .int .u32 1, .pointer none, .int .u64 3, .int .u64 0] :: L)) :
    Calls Try.prog 37 #[.pointer (some ⟨gp, 0, none⟩), .agg #[.int .i64 1, .int .u16 0, .int .u32 0, .int .u64 0, .int .u64 0, .slice none 0 0, .int .u64 0, .slice none 0 0, .slice none 0 0, .slice none 0 0]] w (Ret fun v w' => ∃ (gv : Nat) (h h3 : Hd) (G G3 : Nat → Prop), v = .tuple #[.agg #[.int .i64 1, .int .u16 0, .int .u32 0, .int .u64 0, .int .u64 0, .slice h3.ba 0 h3.bc, .int .u64 0, .slice h3.ma 0 h3.mc, .slice h3.la 0 h3.lc, .slice h3.da 0 h3.dc], .int .i64 0] ∧ St B w0 w' (row 129 gp #[.int .u16 1, .int .u32 1, .int .u32 1, .int .u16 1, .int .u32 1, .int .i64 3, .slice la 3 lc, .int .u64 1, .int .u32 1, .int .u16 1, .int .u32 1, .pointer (some ⟨gv, 0, none⟩), .int .u64 0, .int .u64 0] :: L)) := by
  refine (prop0_ok (G1 := fun _ => False) gp (1, 1) ⟨1, (1, 1)⟩ la 3 lc 1 ⟨1, (1, 1)⟩ 3 0 nopE hdE nopE_sm nopE_wf nopE_err (fun W _ _ => CmG.nil _ W 1) w H).mono ?_
  rintro e w1 ⟨v, rfl, gv, h, h3, G, G3, rfl, H2⟩
  exact ⟨_, rfl, gv, h, h3, G, G3, rfl, H2.sub (.cons_cons _ (.cons _ (.cons _ (.cons _ (List.Sublist.refl _)))))⟩
theorem awslot_ok {B : Nat} {w0 : World} {L : List Res} (gp lc : Nat) (la : Option Addr) (w : World) (H : St B w0 w (row 129 gp #[.int .u16 1, .int .u32 1, .int .u32 1, .int .u16 1, .int .u32 1, .int .i64 2, .slice la 3 lc, .int .u64 2, .int .u32 1, .int .u16 1, .int .u32 1, .pointer none, .int .u64 5, .int .u64 0] :: L)) : Calls Try.prog 46 #[.pointer (some ⟨gp, 0, none⟩)] w (Ret fun v w' => v = .int .u64 2 ∧ St B w0 w' (row 129 gp #[.int .u16 1, .int .u32 1, .int .u32 1, .int .u16 1, .int .u32 1, .int .i64 2, .slice la 3 lc, .int .u64 2, .int .u32 1, .int .u16 1, .int .u32 1, .pointer none, .int .u64 5, .int .u64 0] :: L)) :=
  eslot_ok gp (1, 1) ⟨1, (1, 1)⟩ 2 la 3 lc 2 ⟨1, (1, 1)⟩ none 5 0 w H
theorem aw21_ok (w : World) : Calls Try.prog 29 #[] w (Ret fun v w' => v = .bool true ∧ Below w.heap.size w w') := by
  have H := St.init w
  go_enter Try.func29, Try.ntmps29
  go_wp2_with (first | (go_at_call 53; (with_reducible refine (three_ok _ H).mono ?_); rintro e w1 ⟨v, rfl, hr⟩; obtain ⟨ga, gb, gc, gd, rfl, H2⟩ := hr; clear H; have H := H2; clear H2) | (go_at_call 30; (with_reducible refine (awenew_ok _ H).mono ?_); rintro e w1 ⟨v, rfl, hr⟩; obtain ⟨gp, rfl, H2⟩ := hr; clear H; have H := H2; clear H2) | (go_at_call 36; (with_reducible refine (awstart_ok gp ga gb gc gd g1 _ H).mono ?_); rintro e w1 ⟨v, rfl, hr⟩; obtain ⟨rfl, la, lc, H2⟩ := hr; clear H; have H := H2; clear H2) | (with_reducible refine wpl rfl (Stp.build (v := (.agg #[.int .i64 5, .int .u16 0, .int .u32 0, .int .u64 0, .int .u64 1, .int .u64 0, .int .i64 0, .int .u32 1, .int .u16 1, .int .u32 1, .int .u32 0, .int .u16 0, .int .u32 0, .bool false, .int .i64 0, .int .u16 0, .int .u32 0, .int .u64 0, .int .u64 0, .slice none 0 0, .int .u64 0, .slice none 0 0, .slice none 0 0, .slice none 0 0, .int .u64 0, .slice none 0 0, .slice none 0 0, .slice none 0 0, .slice none 0 0])) 26 rfl rfl (fun W => by kernel_rfl) ?_); simp only [pS]) | (with_reducible refine wpl rfl (Stp.alloc 1 rfl rfl zero26 H ?_); clear H; intro g1 w1 H; simp only [pS]; simp only [nC] at H) | (with_reducible refine wpl rfl (Stp.str rfl size26 rfl rfl (by first | rfl | (simp [Value.oneCell']; done) | assumption) H uP sZ sZ ?_); clear H; intro w1 H; simp only [pS]) | (with_reducible refine wpl rfl (Stp.ldc rfl agg23 rfl H mR cE ?_); simp only [pS]) | (with_reducible refine wpl rfl (Stp.ldl rfl agg36 size36 rfl H mR (by simp) ?_); simp only [pS]; simp only [List.drop_succ_cons, List.drop_zero, List.take_succ_cons, List.take_zero]) | (with_reducible refine wpl rfl (Stp.ldr rfl agg26 size26 rfl H mR sZ ?_); simp only [pS]) | (with_reducible refine wpl rfl (Stp.alloc 3 rfl rfl zero67 H ?_); clear H; intro g3 w1 H; simp only [pS]; simp only [nC] at H) | (with_reducible refine wpl rfl (Stp.str rfl size67 rfl rfl (by first | rfl | (simp [Value.oneCell']; done) | assumption) H uP sZ sZ ?_); clear H; intro w1 H; simp only [pS]) | (with_reducible refine wpl rfl (Stp.ldr rfl agg67 size67 rfl H mR sZ ?_); simp only [pS]) | (with_reducible refine wpl rfl (Stp.alloc 5 rfl rfl zero74 H ?_); clear H; intro g5 w1 H; simp only [pS]; simp only [nC] at H) | (with_reducible refine wpl rfl (Stp.str rfl size74 rfl rfl (by first | rfl | (simp [Value.oneCell']; done) | assumption) H uP sZ sZ ?_); clear H; intro w1 H; simp only [pS]))
  refine rg_begin 16 rfl (S := fun W => St _ _ W (row 74 g5 #[.int .i64 5, .int .u16 0, .int .u32 0, .int .u64 0, .int .u64 1, .int .u64 0, .int .i64 0, .int .u32 1, .int .u16 1, .int .u32 1, .int .u32 0, .int .u16 0, .int .u32 0, .bool false, .int .i64 0, .int .u16 0, .int .u32 0, .int .u64 0, .int .u64 0, .slice none 0 0, .int .u64 0, .slice none 0 0, .slice none 0 0, .slice none 0 0, .int .u64 0, .slice none 0 0, .slice none 0 0, .slice none 0 0, .slice none 0 0] :: row 67 g3 #[.int .u32 1, .int .u16 1, .int .u32 1] :: row 26 g1 #[.int .u64 1, .slice (some ⟨ga, 0, none⟩) 3 3, .slice (some ⟨gc, 0, none⟩) 1 1, .slice (some ⟨gd, 0, none⟩) 3 3] :: row 36 gd #[.int .u16 1, .int .u32 1, .int .u16 2, .int .u32 1, .int .u16 3, .int .u32 1] :: [])) (by kernel_rfl) (H.drew.sub sU) ?_
  replace H := H.drew
  have HS := H
  refine rg_take (i := 0) rfl kR kR kR (Yld.move rfl rfl) (H.sub sU) ?_; simp only [pS, pE]
  refine rg_take (i := 1) rfl kR kR kR (Yld.o rfl) (H.sub sU) ?_; simp only [pS]
  first | (refine rg_take (i := 2) rfl kR kR kR (Yld.ldc rfl rfl agg23 rfl mR cE) (H.sub sU) ?_; simp only [pS]) | (refine rg_take (i := 2) rfl kR kR kR (Yld.ldo rfl rfl agg23 rfl (by assumption) (by assumption)) (H.sub sU) ?_; simp only [pS])
  refine rg_take (i := 3) rfl kR kR kR (Yld.o rfl) (H.sub sU) ?_; simp only [pS]
  first | (refine rg_take (i := 4) rfl kR kR kR (Yld.ldr rfl rfl agg36 size36 rfl mR sZ) (H.sub sU) ?_; simp only [pS]) | (refine rg_take (i := 4) rfl kR kR kR (Yld.ldl rfl rfl agg36 size36 rfl mR (by simp)) (H.sub sU) ?_; simp only [pS]; simp only [List.drop_succ_cons, List.drop_zero, List.take_succ_cons, List.take_zero]) | (refine rg_take (i := 4) rfl kR kR kR (Yld.ldor rfl rfl agg36 size36 rfl (by assumption) sZ (by assumption)) (H.sub sU) ?_; simp only [pS])
  first | (refine rg_take (i := 5) rfl kR kR kR (Yld.ldr rfl rfl agg74 size74 rfl mR sZ) (H.sub sU) ?_; simp only [pS]) | (refine rg_take (i := 5) rfl kR kR kR (Yld.ldl rfl rfl agg74 size74 rfl mR (by simp)) (H.sub sU) ?_; simp only [pS]; simp only [List.drop_succ_cons, List.drop_zero, List.take_succ_cons, List.take_zero]) | (refine rg_take (i := 5) rfl kR kR kR (Yld.ldor rfl rfl agg74 size74 rfl (by assumption) sZ (by assumption)) (H.sub sU) ?_; simp only [pS])
  refine rg_take (i := 7) rfl kR kR kR (Yld.move rfl rfl) (H.sub sU) ?_; simp only [pS, pE]
  refine rg_take (i := 8) rfl kR kR kR (Yld.o rfl) (H.sub sU) ?_; simp only [pS]
  first | (refine rg_take (i := 9) rfl kR kR kR (Yld.ldc rfl rfl agg23 rfl mR cE) (H.sub sU) ?_; simp only [pS]) | (refine rg_take (i := 9) rfl kR kR kR (Yld.ldo rfl rfl agg23 rfl (by assumption) (by assumption)) (H.sub sU) ?_; simp only [pS])
  refine rg_take (i := 10) rfl kR kR kR (Yld.o rfl) (H.sub sU) ?_; simp only [pS]
  first | (refine rg_take (i := 11) rfl kR kR kR (Yld.ldr rfl rfl agg36 size36 rfl mR sZ) (H.sub sU) ?_; simp only [pS]) | (refine rg_take (i := 11) rfl kR kR kR (Yld.ldl rfl rfl agg36 size36 rfl mR (by simp)) (H.sub sU) ?_; simp only [pS]; simp only [List.drop_succ_cons, List.drop_zero, List.take_succ_cons, List.take_zero]) | (refine rg_take (i := 11) rfl kR kR kR (Yld.ldor rfl rfl agg36 size36 rfl (by assumption) sZ (by assumption)) (H.sub sU) ?_; simp only [pS])
  first | (refine rg_take (i := 12) rfl kR kR kR (Yld.ldr rfl rfl agg74 size74 rfl mR sZ) (H.sub sU) ?_; simp only [pS]) | (refine rg_take (i := 12) rfl kR kR kR (Yld.ldl rfl rfl agg74 size74 rfl mR (by simp)) (H.sub sU) ?_; simp only [pS]; simp only [List.drop_succ_cons, List.drop_zero, List.take_succ_cons, List.take_zero]) | (refine rg_take (i := 12) rfl kR kR kR (Yld.ldor rfl rfl agg74 size74 rfl (by assumption) sZ (by assumption)) (H.sub sU) ?_; simp only [pS])
  refine rg_one (i := 6) (by kernel_rfl) rfl rfl (fun K hK => ?_)
  refine wp_callf rfl ent41 (awp1_ok gp lc la _ ((H.pull (r := slc 36 2 (.slice la 3 lc) 3 (pv l3)) pU).pull (r := row 129 gp #[.int .u16 1, .int .u32 1, .int .u32 1, .int .u16 1, .int .u32 1, .int .i64 1, .slice la 3 lc, .int .u64 1, .int .u32 1, .int .u16 1, .int .u32 1, .pointer none, .int .u64 0, .int .u64 0]) pU)) rfl (fun v w1 hr => ?_)
  obtain ⟨rfl, H2⟩ := hr
  clear H
  have H := H2
  clear H2
  clear HS
  have HS := H
  refine hK.out _ _ (H.sub sU) ?_
  clear hK K
  simp only [pS]
  refine rg_one (i := 13) (by kernel_rfl) rfl rfl (fun K hK => ?_)
  refine wp_callf rfl ent41 (awp2_ok gp lc la _ ((H.pull (r := slc 36 2 (.slice la 3 lc) 3 (pv l3)) pU).pull (r := row 129 gp #[.int .u16 1, .int .u32 1, .int .u32 1, .int .u16 1, .int .u32 1, .int .i64 1, .slice la 3 lc, .int .u64 1, .int .u32 1, .int .u16 1, .int .u32 1, .pointer none, .int .u64 1, .int .u64 0]) pU)) rfl (fun v w1 hr => ?_)
  obtain ⟨rfl, H2⟩ := hr
  clear H
  have H := H2
  clear H2
  clear HS
  have HS := H
  refine hK.out _ _ (H.sub sU) ?_
  clear hK K
  simp only [pS]
  refine rg_take (i := 14) rfl kR kR kR (Yld.assign rfl rfl) (H.sub sU) ?_; simp only [pS, pE]
  refine rg_take (i := 15) rfl kR kR kR (Yld.assign rfl rfl) (H.sub sU) ?_; simp only [pS, pE]
  refine rg_done (by kernel_rfl) ?_
  go_wp2_with (first | (go_at_call 37; (with_reducible refine (awprop_ok gp lc la _ (H.pull (r := row 129 gp #[.int .u16 1, .int .u32 1, .int .u32 1, .int .u16 1, .int .u32 1, .int .i64 2, .slice la 3 lc, .int .u64 1, .int .u32 1, .int .u16 1, .int .u32 1, .pointer none, .int .u64 3, .int .u64 0]) pU)).mono ?_); rintro e w1 ⟨v, rfl, hr⟩; obtain ⟨gv, h, h3, G, G3, rfl, H2⟩ := hr; clear H; have H := H2; clear H2) | (with_reducible refine wpl rfl (Stp.build (v := (.agg #[.int .i64 1, .int .u16 0, .int .u32 0, .int .u64 0, .int .u64 0, .slice none 0 0, .int .u64 0, .slice none 0 0, .slice none 0 0, .slice none 0 0])) 43 rfl rfl (fun W => by kernel_rfl) ?_); simp only [pS]) | (with_reducible refine wpl rfl (Stp.build (v := (.agg #[.int .i64 7, .int .u16 0, .int .u32 0, .int .u64 0, .int .u64 1, .int .u64 0, .int .i64 0, .int .u32 1, .int .u16 1, .int .u32 1, .int .u32 0, .int .u16 0, .int .u32 0, .bool false, .int .i64 0, .int .u16 0, .int .u32 0, .int .u64 0, .int .u64 0, .slice none 0 0, .int .u64 0, .slice none 0 0, .slice none 0 0, .slice none 0 0, .int .u64 0, .slice none 0 0, .slice none 0 0, .slice none 0 0, .slice none 0 0])) 48 rfl rfl (fun W => by kernel_rfl) ?_); simp only [pS]) | (with_reducible refine wpl rfl (Stp.ldr rfl agg67 size67 rfl H mR sZ ?_); simp only [pS]) | (with_reducible refine wpl rfl (Stp.str rfl size74 rfl rfl (by first | rfl | (simp [Value.oneCell']; done) | assumption) H uP sZ sZ ?_); clear H; intro w1 H; simp only [pS]) | (with_reducible refine wpl rfl (Stp.alloc 8 rfl rfl zero43 H ?_); clear H; intro g8 w1 H; simp only [pS]; simp only [nC] at H) | (with_reducible refine wpl rfl (Stp.str rfl size43 rfl rfl (by first | rfl | (simp [Value.oneCell']; done) | assumption) H uP sZ sZ ?_); clear H; intro w1 H; simp only [pS]) | (with_reducible refine wpl rfl (Stp.alloc 10 rfl rfl zero74 H ?_); clear H; intro g10 w1 H; simp only [pS]; simp only [nC] at H))
  refine rg_begin 16 rfl (S := fun W => St _ _ W (row 74 g10 #[.int .i64 7, .int .u16 0, .int .u32 0, .int .u64 0, .int .u64 1, .int .u64 0, .int .i64 0, .int .u32 1, .int .u16 1, .int .u32 1, .int .u32 0, .int .u16 0, .int .u32 0, .bool false, .int .i64 0, .int .u16 0, .int .u32 0, .int .u64 0, .int .u64 0, .slice none 0 0, .int .u64 0, .slice none 0 0, .slice none 0 0, .slice none 0 0, .int .u64 0, .slice none 0 0, .slice none 0 0, .slice none 0 0, .slice none 0 0] :: row 67 g3 #[.int .u32 1, .int .u16 1, .int .u32 1] :: row 26 g1 #[.int .u64 1, .slice (some ⟨ga, 0, none⟩) 3 3, .slice (some ⟨gc, 0, none⟩) 1 1, .slice (some ⟨gd, 0, none⟩) 3 3] :: row 36 gd #[.int .u16 1, .int .u32 1, .int .u16 2, .int .u32 1, .int .u16 3, .int .u32 1] :: [])) (by kernel_rfl) (H.drew.sub sU) ?_
  replace H := H.drew
  have HS := H
  refine rg_take (i := 0) rfl kR kR kR (Yld.move rfl rfl) (H.sub sU) ?_; simp only [pS, pE]
  refine rg_take (i := 1) rfl kR kR kR (Yld.o rfl) (H.sub sU) ?_; simp only [pS]
  first | (refine rg_take (i := 2) rfl kR kR kR (Yld.ldc rfl rfl agg23 rfl mR cE) (H.sub sU) ?_; simp only [pS]) | (refine rg_take (i := 2) rfl kR kR kR (Yld.ldo rfl rfl agg23 rfl (by assumption) (by assumption)) (H.sub sU) ?_; simp only [pS])
  refine rg_take (i := 3) rfl kR kR kR (Yld.o rfl) (H.sub sU) ?_; simp only [pS]
  first | (refine rg_take (i := 4) rfl kR kR kR (Yld.ldr rfl rfl agg36 size36 rfl mR sZ) (H.sub sU) ?_; simp only [pS]) | (refine rg_take (i := 4) rfl kR kR kR (Yld.ldl rfl rfl agg36 size36 rfl mR (by simp)) (H.sub sU) ?_; simp only [pS]; simp only [List.drop_succ_cons, List.drop_zero, List.take_succ_cons, List.take_zero]) | (refine rg_take (i := 4) rfl kR kR kR (Yld.ldor rfl rfl agg36 size36 rfl (by assumption) sZ (by assumption)) (H.sub sU) ?_; simp only [pS])
  first | (refine rg_take (i := 5) rfl kR kR kR (Yld.ldr rfl rfl agg74 size74 rfl mR sZ) (H.sub sU) ?_; simp only [pS]) | (refine rg_take (i := 5) rfl kR kR kR (Yld.ldl rfl rfl agg74 size74 rfl mR (by simp)) (H.sub sU) ?_; simp only [pS]; simp only [List.drop_succ_cons, List.drop_zero, List.take_succ_cons, List.take_zero]) | (refine rg_take (i := 5) rfl kR kR kR (Yld.ldor rfl rfl agg74 size74 rfl (by assumption) sZ (by assumption)) (H.sub sU) ?_; simp only [pS])
  refine rg_take (i := 7) rfl kR kR kR (Yld.move rfl rfl) (H.sub sU) ?_; simp only [pS, pE]
  refine rg_take (i := 8) rfl kR kR kR (Yld.o rfl) (H.sub sU) ?_; simp only [pS]
  first | (refine rg_take (i := 9) rfl kR kR kR (Yld.ldc rfl rfl agg23 rfl mR cE) (H.sub sU) ?_; simp only [pS]) | (refine rg_take (i := 9) rfl kR kR kR (Yld.ldo rfl rfl agg23 rfl (by assumption) (by assumption)) (H.sub sU) ?_; simp only [pS])
  refine rg_take (i := 10) rfl kR kR kR (Yld.o rfl) (H.sub sU) ?_; simp only [pS]
  first | (refine rg_take (i := 11) rfl kR kR kR (Yld.ldr rfl rfl agg36 size36 rfl mR sZ) (H.sub sU) ?_; simp only [pS]) | (refine rg_take (i := 11) rfl kR kR kR (Yld.ldl rfl rfl agg36 size36 rfl mR (by simp)) (H.sub sU) ?_; simp only [pS]; simp only [List.drop_succ_cons, List.drop_zero, List.take_succ_cons, List.take_zero]) | (refine rg_take (i := 11) rfl kR kR kR (Yld.ldor rfl rfl agg36 size36 rfl (by assumption) sZ (by assumption)) (H.sub sU) ?_; simp only [pS])
  first | (refine rg_take (i := 12) rfl kR kR kR (Yld.ldr rfl rfl agg74 size74 rfl mR sZ) (H.sub sU) ?_; simp only [pS]) | (refine rg_take (i := 12) rfl kR kR kR (Yld.ldl rfl rfl agg74 size74 rfl mR (by simp)) (H.sub sU) ?_; simp only [pS]; simp only [List.drop_succ_cons, List.drop_zero, List.take_succ_cons, List.take_zero]) | (refine rg_take (i := 12) rfl kR kR kR (Yld.ldor rfl rfl agg74 size74 rfl (by assumption) sZ (by assumption)) (H.sub sU) ?_; simp only [pS])
  refine rg_one (i := 6) (by kernel_rfl) rfl rfl (fun K hK => ?_)
  refine wp_callf rfl ent42 (awa1_ok gp lc la gv _ ((H.pull (r := slc 36 2 (.slice la 3 lc) 3 (pv l3)) pU).pull (r := row 129 gp #[.int .u16 1, .int .u32 1, .int .u32 1, .int .u16 1, .int .u32 1, .int .i64 3, .slice la 3 lc, .int .u64 1, .int .u32 1, .int .u16 1, .int .u32 1, .pointer (some ⟨gv, 0, none⟩), .int .u64 0, .int .u64 0]) pU)) rfl (fun v w1 hr => ?_)
  obtain ⟨rfl, H2⟩ := hr
  clear H
  have H := H2
  clear H2
  clear HS
  have HS := H
  refine hK.out _ _ (H.sub sU) ?_
  clear hK K
  simp only [pS]
  refine rg_one (i := 13) (by kernel_rfl) rfl rfl (fun K hK => ?_)
  refine wp_callf rfl ent42 (awa2_ok gp lc la gv _ ((H.pull (r := slc 36 2 (.slice la 3 lc) 3 (pv l3)) pU).pull (r := row 129 gp #[.int .u16 1, .int .u32 1, .int .u32 1, .int .u16 1, .int .u32 1, .int .i64 3, .slice la 3 lc, .int .u64 1, .int .u32 1, .int .u16 1, .int .u32 1, .pointer (some ⟨gv, 0, none⟩), .int .u64 1, .int .u64 0]) pU)) rfl (fun v w1 hr => ?_)
  obtain ⟨rfl, H2⟩ := hr
  clear H
  have H := H2
  clear H2
  clear HS
  have HS := H
  refine hK.out _ _ (H.sub sU) ?_
  clear hK K
  simp only [pS]
  refine rg_take (i := 14) rfl kR kR kR (Yld.assign rfl rfl) (H.sub sU) ?_; simp only [pS, pE]
  refine rg_take (i := 15) rfl kR kR kR (Yld.assign rfl rfl) (H.sub sU) ?_; simp only [pS, pE]
  refine rg_done (by kernel_rfl) ?_
  go_wp2_with (first | (go_at_call 46; (with_reducible refine (awslot_ok gp lc la _ (H.pull (r := row 129 gp #[.int .u16 1, .int .u32 1, .int .u32 1, .int .u16 1, .int .u32 1, .int .i64 2, .slice la 3 lc, .int .u64 2, .int .u32 1, .int .u16 1, .int .u32 1, .pointer none, .int .u64 5, .int .u64 0]) pU)).mono ?_); rintro e w1 ⟨v, rfl, hr⟩; obtain ⟨rfl, H2⟩ := hr; clear H; have H := H2; clear H2) | (with_reducible refine wpl rfl (Stp.ldc rfl agg3 rfl H mR cE ?_); simp only [pS]))
  go_ret
  exact ⟨_, rfl, rfl, H.below⟩
end Go.Proofs.Ytjghcmejmdllbaa
namespace Go.Proofs.Ytjghcmejmdllbaa
open Go.ChangeShapes Go.WideShapes Go.ChangeAt Go.RowKit Go.Maps Go.Deep
set_option linter.unusedVariables false
set_option linter.unusedSimpArgs false
set_option linter.unusedSectionVars false
set_option maxRecDepth 100000
set_option maxHeartbeats 4000000
/-- What any message that came in has. -/
structure wfM (W : World) (ms : Nat) (mb ma : Bl) (mc : Cm) (me : Hd) (mv : Vw) (mx : Hd) (m7 mz : Nat) : Prop where
  s : ms < 18446744073709551616
  b0 : mb.r < 4294967296
  b1 : mb.w.1 < 65536
  b2 : mb.w.2 < 4294967296
  a0 : ma.r < 4294967296
  a1 : ma.w.1 < 65536
  a2 : ma.w.2 < 4294967296
  c : wfC mc
  x : CmG (Old W) W (.slice me.ba mc.data.length me.bc) (.slice me.ma mc.v.mem.length me.mc) (.slice me.la mc.v.lvs.length me.lc) (.slice me.da mc.v.ldr.length me.dc) mc
  v : wfV mv
  y : VwG (Old W) W (.slice mx.ma mv.mem.length mx.mc) (.slice mx.la mv.lvs.length mx.lc) (.slice mx.da mv.ldr.length mx.dc) mv
  cap : mc.data.length ≤ me.bc
def gM (mc : Cm) (mv : Vw) (m7 : Nat) : Bool := decide (400 < m7) || gC mc || gV mv
attribute [local irreducible] gC gV
theorem rmgreat_is {G1 G2 : Nat → Prop} (kd m1 m2 m3 m5 m6 : Int) (ms : Nat) (mb ma : Bl) (mh : Bool) (mc : Cm) (me : Hd) (mv : Vw) (mx : Hd) (my : Option Addr) (m7 mz : Nat) (w : World) (e : Bool) (he : gM mc mv m7 = e) (hx : CmG G1 w (.slice me.ba mc.data.length me.bc) (.slice me.ma mc.v.mem.length me.mc) (.slice me.la mc.v.lvs.length me.lc) (.slice me.da mc.v.ldr.length me.dc) mc) (hy : VwG G2 w (.slice mx.ma mv.mem.length mx.mc) (.slice mx.la mv.lvs.length mx.lc) (.slice mx.da mv.ldr.length mx.dc) mv) :
    Calls Try.prog 35 #[.agg #[.int .i64 kd, .int .u16 m1, .int .u32 m2, .int .u64 m3, .int .u64 (ms : Int), .int .u64 m5, .int .i64 m6, .int .u32 (mb.r : Int), .int .u16 (mb.w.1 : Int), .int .u32 (mb.w.2 : Int), .int .u32 (ma.r : Int), .int .u16 (ma.w.1 : Int), .int .u32 (ma.w.2 : Int), .bool mh, .int .i64 mc.kind, .int .u16 (mc.fr.1 : Int), .int .u32 (mc.fr.2 : Int), .int .u64 (mc.num : Int), .int .u64 (mc.vw : Int), .slice me.ba mc.data.length me.bc, .int .u64 (mc.v.id : Int), .slice me.ma mc.v.mem.length me.mc, .slice me.la mc.v.lvs.length me.lc, .slice me.da mc.v.ldr.length me.dc, .int .u64 (mv.id : Int), .slice mx.ma mv.mem.length mx.mc, .slice mx.la mv.lvs.length mx.lc, .slice mx.da mv.ldr.length mx.dc, .slice my m7 mz]] w (Ret fun v w' => v = .bool e ∧ Below w.heap.size w w') := by
  have H := St.init w
  obtain ⟨e1, he1⟩ : ∃ e1, gC mc = e1 := ⟨_, rfl⟩
  obtain ⟨e2, he2⟩ : ∃ e2, gV mv = e2 := ⟨_, rfl⟩
  have HGC := Lib.hid he1
  have HGV := Lib.hid he2
  subst he
  unfold gM
  rw [he1, he2]
  clear he1 he2
  by_cases h7 : 400 < m7
  · have hi : (400 : Int) < (m7 : Int) := by omega
    rw [decide_eq_true h7]
    clear h7
    go_enter Try.func35, Try.ntmps35
    go_wp2_with (first | (with_reducible refine wpl rfl (Stp.box 1 rfl rfl rfl H ?_); clear H; intro g1 w1 H; simp only [pS]; simp only [pE, nC, pS] at H) | (with_reducible refine wpl rfl (Stp.ldc rfl agg37 rfl H mR cE ?_); simp only [pS]))
    go_ret
    exact ⟨_, rfl, rfl, H.below⟩
  · have hi : decide ((400 : Int) < (m7 : Int)) = false := decide_eq_false (by omega)
    rw [decide_eq_false h7]
    clear h7
    cases e1
    all_goals
      go_enter Try.func35, Try.ntmps35
      go_wp2_with (first | (go_at_call 58; (with_reducible refine (rcgreat_is mc me.ba me.ma me.la me.da me.bc me.mc me.lc me.dc _ _ HGC.out (hx.grow H.below)).mono ?_); rintro e w1 ⟨v, rfl, hr⟩; obtain ⟨rfl, hb1⟩ := hr; replace H := H.grow hb1; clear hb1) | (go_at_call 27; (with_reducible refine (rgreat_is mv mx.ma mx.la mx.da mx.mc mx.lc mx.dc _ _ HGV.out (hy.grow H.below)).mono ?_); rintro e w1 ⟨v, rfl, hr⟩; obtain ⟨rfl, hb1⟩ := hr; replace H := H.grow hb1; clear hb1) | (with_reducible refine wpl rfl (Stp.box 1 rfl rfl rfl H ?_); clear H; intro g1 w1 H; simp only [pS]; simp only [pE, nC, pS] at H) | (with_reducible refine wpl rfl (Stp.ldc rfl agg37 rfl H mR cE ?_); simp only [pS]) | (with_reducible refine wpl rfl (Stp.ldl rfl agg43 size43 rfl H mR (by simp) ?_); simp only [pS]; simp only [List.drop_succ_cons, List.drop_zero, List.take_succ_cons, List.take_zero]) | (with_reducible refine wpl rfl (Stp.ldl rfl agg26 size26 rfl H mR (by simp) ?_); simp only [pS]; simp only [List.drop_succ_cons, List.drop_zero, List.take_succ_cons, List.take_zero]))
      go_ret
      exact ⟨_, rfl, rfl, H.below⟩
section
variable {a : Act} {w : World} {o : Oper} {N : Act → World → Prop} {x y : Operand}
end
section
variable {H : Type} {enc : TypeId × Value → H}
theorem cells_bl {fuel : Nat} {W : World} {cs : List Value} {y : DataW H × List MemPlace} (hf : DataW.trod enc Try.prog W 0 (fun _ => true) true fuel 67 cs = some y) :
    ∃ b : Bl, cs = (blC b).toList ∧ b.r < 4294967296 ∧ b.w.1 < 65536 ∧ b.w.2 < 4294967296 := by
  obtain ⟨xs, n, _, _, hl, hx, hfl⟩ := DataW.trod_struct Try.underlying67 hf
  have hC67 : Try.prog.cellsOf 67 = 3 := by kernel_rfl
  have hC34 : Try.prog.cellsOf 34 = 1 := by kernel_rfl
  have hC36 : Try.prog.cellsOf 36 = 2 := by kernel_rfl
  rw [hC67] at hl
  match cs, hl with
  | [c0, c1, c2], _ =>
    match xs, hx with
    | [x0, x1], _ =>
      have h0 := hfl 0 _ rfl
      have h1 := hfl 1 _ rfl
      simp only [List.getElem_toArray, List.getElem_cons_zero, List.getElem_cons_succ, hC34, hC36, List.drop_zero, List.drop_succ_cons, List.take_succ_cons, List.take_zero, List.getElem?_cons_zero, List.getElem?_cons_succ] at h0 h1
      obtain ⟨k0, e0, _, w0⟩ := DataW.trod_int Try.underlying34 h0
      obtain ⟨p, q, e1, hp, hq⟩ := cells_pid h1
      have b0 := bounds_u32 w0
      simp only [List.cons.injEq, and_true] at e0 e1
      obtain ⟨rfl, rfl⟩ := e1
      subst e0
      refine ⟨⟨k0.toNat, (p, q)⟩, ?_, by simp only; omega, hp, hq⟩
      simp only [blC]
      rw [show ((k0.toNat : Nat) : Int) = k0 by omega]
theorem cells_cmM {fuel : Nat} {W : World} {cs : List Value} {y : DataW H × List MemPlace} (hf : DataW.trod enc Try.prog W 0 (fun _ => true) true fuel 43 cs = some y) :
    ∃ (c : Cm) (ba ma la da : Option Addr) (bc mc lc dc : Nat), cs = (cmC c ba ma la da bc mc lc dc).toList ∧ c.data.length ≤ bc ∧ wfC c ∧ CmG (Old W) W (.slice ba c.data.length bc) (.slice ma c.v.mem.length mc) (.slice la c.v.lvs.length lc) (.slice da c.v.ldr.length dc) c := by
  obtain ⟨xs, n, _, _, hl, hx, hfl⟩ := DataW.trod_struct Try.underlying43 hf
  have hC43 : Try.prog.cellsOf 43 = 10 := by kernel_rfl
  have hC3 : Try.prog.cellsOf 3 = 1 := by kernel_rfl
  have hC22 : Try.prog.cellsOf 22 = 1 := by kernel_rfl
  have hC36 : Try.prog.cellsOf 36 = 2 := by kernel_rfl
  have hC37 : Try.prog.cellsOf 37 = 1 := by kernel_rfl
  have hC26 : Try.prog.cellsOf 26 = 4 := by kernel_rfl
  rw [hC43] at hl
  match cs, hl with
  | [c0, c1, c2, c3, c4, c5, c6, c7, c8, c9], _ =>
    match xs, hx with
    | [x0, x1, x2, x3, x4, x5], _ =>
      have h0 := hfl 0 _ rfl
      have h1 := hfl 1 _ rfl
      have h2 := hfl 2 _ rfl
      have h3 := hfl 3 _ rfl
      have h4 := hfl 4 _ rfl
      have h5 := hfl 5 _ rfl
      simp only [List.getElem_toArray, List.getElem_cons_zero, List.getElem_cons_succ, hC3, hC22, hC36, hC37, hC26, List.drop_zero, List.drop_succ_cons, List.take_succ_cons, List.take_zero, List.getElem?_cons_zero, List.getElem?_cons_succ] at h0 h1 h2 h3 h4 h5
      obtain ⟨k0, e0, _, w0⟩ := DataW.trod_int Try.underlying3 h0
      obtain ⟨p, q, e1, hp, hq⟩ := cells_pid h1
      obtain ⟨k2, e2, _, w2⟩ := DataW.trod_int Try.underlying22 h2
      obtain ⟨k3, e3, _, w3⟩ := DataW.trod_int Try.underlying22 h3
      obtain ⟨ba, bc, l, e4, hcap, hb, sb⟩ := cells_bs h4
      obtain ⟨v, ma, la, da, mc, lc, dc, e5, hv, sv⟩ := cells_vw h5
      have b2 := bounds_u64 w2
      have b3 := bounds_u64 w3
      simp only [vwC, List.toList_toArray, List.cons.injEq, and_true] at e0 e1 e2 e3 e4 e5
      obtain ⟨rfl, rfl⟩ := e1
      obtain ⟨rfl, rfl, rfl, rfl⟩ := e5
      subst e0 e2 e3 e4
      refine ⟨⟨k0, (p, q), k2.toNat, k3.toNat, l, v⟩, ba, ma, la, da, bc, mc, lc, dc, ?_, hcap, ⟨hp, hq, by simp only; omega, by simp only; omega, hb, hv⟩, SlG.of_sl sb, sv⟩
      simp only [cmC]
      rw [show ((k2.toNat : Nat) : Int) = k2 by omega, show ((k3.toNat : Nat) : Int) = k3 by omega]
theorem cells_msg {fuel : Nat} {W : World} {cs : List Value} {y : DataW H × List MemPlace} (hf : DataW.trod enc Try.prog W 0 (fun _ => true) true fuel 74 cs = some y) :
    ∃ (kd m1 m2 m3 m5 m6 : Int) (ms : Nat) (mb ma : Bl) (mh : Bool) (mc : Cm) (me : Hd) (mv : Vw) (mx : Hd) (my : Option Addr) (m7 mz : Nat), cs = (#[.int .i64 kd, .int .u16 m1, .int .u32 m2, .int .u64 m3, .int .u64 (ms : Int), .int .u64 m5, .int .i64 m6, .int .u32 (mb.r : Int), .int .u16 (mb.w.1 : Int), .int .u32 (mb.w.2 : Int), .int .u32 (ma.r : Int), .int .u16 (ma.w.1 : Int), .int .u32 (ma.w.2 : Int), .bool mh, .int .i64 mc.kind, .int .u16 (mc.fr.1 : Int), .int .u32 (mc.fr.2 : Int), .int .u64 (mc.num : Int), .int .u64 (mc.vw : Int), .slice me.ba mc.data.length me.bc, .int .u64 (mc.v.id : Int), .slice me.ma mc.v.mem.length me.mc, .slice me.la mc.v.lvs.length me.lc, .slice me.da mc.v.ldr.length me.dc, .int .u64 (mv.id : Int), .slice mx.ma mv.mem.length mx.mc, .slice mx.la mv.lvs.length mx.lc, .slice mx.da mv.ldr.length mx.dc, .slice my m7 mz] : Array Value).toList ∧ wfM W ms mb ma mc me mv mx m7 mz := by
  obtain ⟨xs, n, _, _, hl, hx, hfl⟩ := DataW.trod_struct Try.underlying74 hf
  have hC74 : Try.prog.cellsOf 74 = 29 := by kernel_rfl
  have hC3 : Try.prog.cellsOf 3 = 1 := by kernel_rfl
  have hC22 : Try.prog.cellsOf 22 = 1 := by kernel_rfl
  have hC36 : Try.prog.cellsOf 36 = 2 := by kernel_rfl
  have hC67 : Try.prog.cellsOf 67 = 3 := by kernel_rfl
  have hC4 : Try.prog.cellsOf 4 = 1 := by kernel_rfl
  have hC43 : Try.prog.cellsOf 43 = 10 := by kernel_rfl
  have hC26 : Try.prog.cellsOf 26 = 4 := by kernel_rfl
  have hC37 : Try.prog.cellsOf 37 = 1 := by kernel_rfl
  rw [hC74] at hl
  match cs, hl with
  | [c0, c1, c2, c3, c4, c5, c6, c7, c8, c9, c10, c11, c12, c13, c14, c15, c16, c17, c18, c19, c20, c21, c22, c23, c24, c25, c26, c27, c28], _ =>
    match xs, hx with
    | [x0, x1, x2, x3, x4, x5, x6, x7, x8, x9, x10, x11], _ =>
      have h0 := hfl 0 _ rfl
      have h1 := hfl 1 _ rfl
      have h2 := hfl 2 _ rfl
      have h3 := hfl 3 _ rfl
      have h4 := hfl 4 _ rfl
      have h5 := hfl 5 _ rfl
      have h6 := hfl 6 _ rfl
      have h7 := hfl 7 _ rfl
      have h8 := hfl 8 _ rfl
      have h9 := hfl 9 _ rfl
      have h10 := hfl 10 _ rfl
      have h11 := hfl 11 _ rfl
      simp only [List.getElem_toArray, List.getElem_cons_zero, List.getElem_cons_succ, hC3, hC22, hC36, hC67, hC4, hC43, hC26, hC37, List.drop_zero, List.drop_succ_cons, List.take_succ_cons, List.take_zero, List.getElem?_cons_zero, List.getElem?_cons_succ] at h0 h1 h2 h3 h4 h5 h6 h7 h8 h9 h10 h11
      obtain ⟨k0, e0, _, w0⟩ := DataW.trod_int Try.underlying3 h0
      obtain ⟨p1, p2, e1, _, _⟩ := cells_pid h1
      obtain ⟨k2, e2, _, w2⟩ := DataW.trod_int Try.underlying22 h2
      obtain ⟨k3, e3, _, w3⟩ := DataW.trod_int Try.underlying22 h3
      obtain ⟨k4, e4, _, w4⟩ := DataW.trod_int Try.underlying22 h4
      obtain ⟨k5, e5, _, w5⟩ := DataW.trod_int Try.underlying3 h5
      obtain ⟨b, e6, bb0, bb1, bb2⟩ := cells_bl h6
      obtain ⟨b', e7, aa0, aa1, aa2⟩ := cells_bl h7
      obtain ⟨tv, e8, _⟩ := DataW.trod_bool Try.underlying4 h8
      obtain ⟨c, ba, ma, la, da, bc, mc, lc, dc, e9, hcap, hw, hc⟩ := cells_cmM h9
      obtain ⟨v, mav, lav, dav, mcv, lcv, dcv, e10, hvw, hvx⟩ := cells_vw h10
      obtain ⟨a11, c11', l11, e11, _, _, _⟩ := cells_bs h11
      have bs3 := bounds_u64 w3
      simp only [blC, cmC, vwC, List.toList_toArray, List.cons.injEq, and_true] at e0 e1 e2 e3 e4 e5 e6 e7 e8 e9 e10 e11
      obtain ⟨rfl, rfl⟩ := e1
      obtain ⟨rfl, rfl, rfl⟩ := e6
      obtain ⟨rfl, rfl, rfl⟩ := e7
      obtain ⟨rfl, rfl, rfl, rfl, rfl, rfl, rfl, rfl, rfl, rfl⟩ := e9
      obtain ⟨rfl, rfl, rfl, rfl⟩ := e10
      subst e0 e2 e3 e4 e5 e8 e11
      refine ⟨k0, p1, p2, k2, k4, k5, k3.toNat, b, b', tv, c, ⟨ba, ma, la, da, bc, mc, lc, dc⟩, v, ⟨none, mav, lav, dav, 0, mcv, lcv, dcv⟩, a11, l11.length, c11', ?_, ⟨by omega, bb0, bb1, bb2, aa0, aa1, aa2, hw, hc, hvw, hvx, hcap⟩⟩
      rw [show ((k3.toNat : Nat) : Int) = k3 by omega]
theorem open_pe {W : World} {base : Nat} {v : Value} {d : DataW H} {p : List MemPlace} (hv : Value.okWide Try.prog W .any base 36 v) (h : DataW.Trod enc Try.prog W 0 (fun _ => true) true 36 v d p) :
    ∃ q : Pr, v = .agg #[.int .u16 (q.1 : Int), .int .u32 (q.2 : Int)] ∧ q.1 < 65536 ∧ q.2 < 4294967296 := by
  unfold Value.okWide at hv
  simp only [Try.underlying36] at hv
  obtain ⟨cs, rfl, hs, _⟩ := hv
  obtain ⟨fuel, hf⟩ := h
  obtain ⟨i, c, e, h1, h2⟩ := cells_pid hf
  exact ⟨(i, c), congrArg Value.agg (Array.toList_inj.1 e), h1, h2⟩
end
end Go.Proofs.Ytjghcmejmdllbaa
