/- Contracts of layer 3's Number, Ahead, Before (pid), and of their references; the bounds stand in each. -/
import Derived.Test.YtjghcmejmdllbaaVw10
import Derived.Laws.BitsLemmas
import Derived.Laws.Bits64b
namespace Go.Proofs.Ytjghcmejmdllbaa
open Go.ChangeShapes Go.WideShapes Go.ChangeAt Go.RowKit Go.Maps
set_option linter.unusedVariables false
set_option linter.unusedSimpArgs false
/-- A ballot: its round, and whose. -/
structure Bl where
  r : Nat
  w : Pr
abbrev blC (b : Bl) : Array Value := #[.int .u32 (b.r : Int), .int .u16 (b.w.1 : Int), .int .u32 (b.w.2 : Int)]
def bl0 : Bl := ⟨0, (0, 0)⟩
theorem eqPDn (n : Nat) (a b c d : Int) (w : World) : (Op.equalIn (n + 2) 36 (.agg #[.int .u16 a, .int .u32 b]) (.agg #[.int .u16 c, .int .u32 d])).run Try.prog w = .ok (a == c && b == d) w := by
  have u1 := Try.underlying33
  have u2 := Try.underlying34
  have hS : Try.prog.underlying 36 = some (.struct (Try.prog.fieldsOf 36)) := by kernel_rfl
  rw [run_equalIn_struct w (n + 1) 36 _ _ hS (by kernel_rfl)]
  simp only [Program.fieldsOf, Try.underlying36]
  go_simp
  by_cases h1 : a = c <;> by_cases h2 : b = d <;> simp [h1, h2]
theorem eqBT (r a b s c d : Int) (w : World) : (Op.equalIn 10000 67 (.agg #[.int .u32 r, .int .u16 a, .int .u32 b]) (.agg #[.int .u32 s, .int .u16 c, .int .u32 d])).run Try.prog w = .ok (r == s && (a == c && b == d)) w := by
  have u1 := Try.underlying36
  have u2 := Try.underlying34
  have hS : Try.prog.underlying 67 = some (.struct (Try.prog.fieldsOf 67)) := by kernel_rfl
  rw [show (10000 : Nat) = 9999 + 1 from rfl, run_equalIn_struct w 9999 67 _ _ hS (by kernel_rfl)]
  simp only [Program.fieldsOf, Try.underlying67]
  go_simp
  by_cases h0 : r = s <;> by_cases h1 : a = c <;> by_cases h2 : b = d <;> simp [h0, h1, h2]
theorem eqg_BT : Try.prog.eqGuardType Try.prog.depth 67 = false := by kernel_rfl
/-- Who is ahead of whom. -/
def ahd (i c j d : Nat) : Bool := if i = j then decide (c < d) else decide (i < j)
def blt (a b : Bl) : Bool := if a.r = b.r then ahd a.w.1 a.w.2 b.w.1 b.w.2 else decide (a.r < b.r)
theorem ahd_num (i c j d : Nat) (hc : c < 4294967296) (hd : d < 4294967296) : ahd i c j d = decide (i * 4294967296 + c < j * 4294967296 + d) := by
  unfold ahd
  split
  · rename_i h
    subst h
    rw [Bool.eq_iff_iff]; simp
  · rename_i h
    rw [Bool.eq_iff_iff]
    simp only [decide_eq_true_eq]
    omega
theorem or_num (i c : Nat) (hi : i < 65536) (hc : c < 4294967296) : bits .or .u64 ((i : Int) * 4294967296) (c : Int) = ((i * 4294967296 + c : Nat) : Int) := by
  have h := bits_or_u64_nat (i * 4294967296) c (by omega) (by omega)
  have e : ((i * 4294967296 : Nat) : Int) = (i : Int) * 4294967296 := by omega
  rw [e] at h
  rw [show (i * 4294967296 ||| c) = i * 4294967296 + c by
    have := Nat.two_pow_add_eq_or_of_lt (i := 32) (b := c) (by omega) i
    rw [Nat.mul_comm i 4294967296]; exact this.symm] at h
  exact h
set_option maxRecDepth 100000 in
theorem number_is (i c : Nat) (hi : i < 65536) (hc : c < 4294967296) (w : World) : Calls Try.prog 134 #[.agg #[.int .u16 (i : Int), .int .u32 (c : Int)]] w (Ret fun v w' => v = .int .u64 ((i * 4294967296 + c : Nat) : Int) ∧ Below w.heap.size w w') := by
  have H := St.init w
  have W1 : IntKind.u64.wrap (i : Int) = (i : Int) := wrap_u64_in _ (by omega) (by omega)
  have W2 : IntKind.u64.wrap (c : Int) = (c : Int) := wrap_u64_in _ (by omega) (by omega)
  have W3 : IntKind.u64.wrap ((i : Int) * 4294967296) = (i : Int) * 4294967296 := wrap_u64_in _ (by omega) (by omega)
  have ho := or_num i c hi hc
  obtain ⟨n, hn⟩ : ∃ n, i * 4294967296 + c = n := ⟨_, rfl⟩
  rw [hn] at ho ⊢
  clear hn
  go_enter Try.func134, Try.ntmps134
  go_wp2_with (first | (with_reducible refine wpl rfl (Stp.box 1 rfl rfl rfl H ?_); clear H; intro g1 w1 H; simp only [pS]; simp only [pE, nC, pS] at H) | (with_reducible refine wpl rfl (Stp.ldc rfl agg33 rfl H mR cE ?_); simp only [pS]) | (with_reducible refine wpl rfl (Stp.ldo rfl agg33 rfl H (by assumption) (by assumption) ?_); simp only [pS]) | (with_reducible refine wpl rfl (Stp.ldc rfl agg34 rfl H mR cE ?_); simp only [pS]) | (with_reducible refine wpl rfl (Stp.ldo rfl agg34 rfl H (by assumption) (by assumption) ?_); simp only [pS]))
  go_ret
  exact ⟨_, rfl, rfl, H.below⟩
set_option maxRecDepth 100000 in
theorem ahead_ok (i c j d : Nat) (hi : i < 65536) (hc : c < 4294967296) (hj : j < 65536) (hd : d < 4294967296) (e : Bool) (he : ahd i c j d = e) (w : World) : Calls Try.prog 116 #[.agg #[.int .u16 (i : Int), .int .u32 (c : Int)], .agg #[.int .u16 (j : Int), .int .u32 (d : Int)]] w (Ret fun v w' => v = .bool e ∧ Below w.heap.size w w') := by
  have H := St.init w
  rw [ahd_num i c j d hc hd] at he
  subst he
  obtain ⟨m, hm⟩ : ∃ m, i * 4294967296 + c = m := ⟨_, rfl⟩
  obtain ⟨n, hn⟩ : ∃ n, j * 4294967296 + d = n := ⟨_, rfl⟩
  have HM := Lib.hid hm
  have HN := Lib.hid hn
  rw [hm, hn]
  clear hm hn
  go_enter Try.func116, Try.ntmps116
  go_wp2_with (first | (with_reducible refine wpl rfl (Stp.box 2 rfl rfl rfl H ?_); clear H; intro g2 w1 H; simp only [pS]; simp only [pE, nC, pS] at H) | (with_reducible refine wpl rfl (Stp.box 3 rfl rfl rfl H ?_); clear H; intro g3 w1 H; simp only [pS]; simp only [pE, nC, pS] at H))
  refine rg_begin 6 rfl (S := fun W => St _ _ W [row 36 g3 #[.int .u16 (j : Int), .int .u32 (d : Int)], row 36 g2 #[.int .u16 (i : Int), .int .u32 (c : Int)]]) (by kernel_rfl) (H.drew.sub sU) ?_
  replace H := H.drew
  have HS := H
  first | (refine rg_take (i := 0) rfl kR kR kR (Yld.ldr rfl rfl agg36 size36 rfl mR sZ) (H.sub sU) ?_; simp only [pS]) | (refine rg_take (i := 0) rfl kR kR kR (Yld.ldl rfl rfl agg36 size36 rfl mR (by simp)) (H.sub sU) ?_; simp only [pS]; simp only [List.drop_succ_cons, List.drop_zero, List.take_succ_cons, List.take_zero]) | (refine rg_take (i := 0) rfl kR kR kR (Yld.ldor rfl rfl agg36 size36 rfl (by assumption) sZ (by assumption)) (H.sub sU) ?_; simp only [pS])
  first | (refine rg_take (i := 2) rfl kR kR kR (Yld.ldr rfl rfl agg36 size36 rfl mR sZ) (H.sub sU) ?_; simp only [pS]) | (refine rg_take (i := 2) rfl kR kR kR (Yld.ldl rfl rfl agg36 size36 rfl mR (by simp)) (H.sub sU) ?_; simp only [pS]; simp only [List.drop_succ_cons, List.drop_zero, List.take_succ_cons, List.take_zero]) | (refine rg_take (i := 2) rfl kR kR kR (Yld.ldor rfl rfl agg36 size36 rfl (by assumption) sZ (by assumption)) (H.sub sU) ?_; simp only [pS])
  refine rg_one (i := 1) (by kernel_rfl) rfl rfl (fun K hK => ?_)
  refine wp_callf rfl ent134 (number_is i c hi hc _) rfl (fun v w1 hr => ?_)
  rw [HM.out] at hr
  obtain ⟨rfl, hb1⟩ := hr
  replace H := H.grow hb1
  clear hb1
  clear HS
  have HS := H
  refine hK.out _ _ (H.sub sU) ?_
  clear hK K
  simp only [pS]
  refine rg_one (i := 3) (by kernel_rfl) rfl rfl (fun K hK => ?_)
  refine wp_callf rfl ent134 (number_is j d hj hd _) rfl (fun v w1 hr => ?_)
  rw [HN.out] at hr
  obtain ⟨rfl, hb1⟩ := hr
  replace H := H.grow hb1
  clear hb1
  clear HS
  have HS := H
  refine hK.out _ _ (H.sub sU) ?_
  clear hK K
  simp only [pS]
  refine rg_take (i := 4) rfl kR kR kR (Yld.o rfl) (H.sub sU) ?_; simp only [pS]
  refine rg_take (i := 5) rfl kR kR kR (Yld.assign rfl rfl) (H.sub sU) ?_; simp only [pS, pE]
  refine rg_done (by kernel_rfl) ?_
  go_wp2_with (first | (with_reducible refine wpl rfl (Stp.box 2 rfl rfl rfl H ?_); clear H; intro g2 w1 H; simp only [pS]; simp only [pE, nC, pS] at H) | (with_reducible refine wpl rfl (Stp.box 3 rfl rfl rfl H ?_); clear H; intro g3 w1 H; simp only [pS]; simp only [pE, nC, pS] at H))
  go_ret
  exact ⟨_, rfl, by first | rfl | simp, H.below⟩
set_option maxRecDepth 100000 in
theorem rahead_ok (i c j d : Nat) (e : Bool) (he : ahd i c j d = e) (w : World) : Calls Try.prog 78 #[.agg #[.int .u16 (i : Int), .int .u32 (c : Int)], .agg #[.int .u16 (j : Int), .int .u32 (d : Int)]] w (Ret fun v w' => v = .bool e ∧ Below w.heap.size w w') := by
  have H := St.init w
  unfold ahd at he
  by_cases h1 : i = j
  · rw [if_pos h1] at he
    have h1i : ((i : Int) != (j : Int)) = false := by simp [h1]
    subst he
    clear h1
    go_enter Try.func78, Try.ntmps78
    go_wp2_with (first | (with_reducible refine wpl rfl (Stp.box 2 rfl rfl rfl H ?_); clear H; intro g2 w1 H; simp only [pS]; simp only [pE, nC, pS] at H) | (with_reducible refine wpl rfl (Stp.box 3 rfl rfl rfl H ?_); clear H; intro g3 w1 H; simp only [pS]; simp only [pE, nC, pS] at H) | (with_reducible refine wpl rfl (Stp.ldc rfl agg33 rfl H mR cE ?_); simp only [pS]) | (with_reducible refine wpl rfl (Stp.ldo rfl agg33 rfl H (by assumption) (by assumption) ?_); simp only [pS]) | (with_reducible refine wpl rfl (Stp.ldc rfl agg34 rfl H mR cE ?_); simp only [pS]) | (with_reducible refine wpl rfl (Stp.ldo rfl agg34 rfl H (by assumption) (by assumption) ?_); simp only [pS]))
    go_ret
    exact ⟨_, rfl, by first | rfl | simp, H.below⟩
  · rw [if_neg h1] at he
    have h1i : ((i : Int) != (j : Int)) = true := by simp; omega
    subst he
    clear h1
    go_enter Try.func78, Try.ntmps78
    go_wp2_with (first | (with_reducible refine wpl rfl (Stp.box 2 rfl rfl rfl H ?_); clear H; intro g2 w1 H; simp only [pS]; simp only [pE, nC, pS] at H) | (with_reducible refine wpl rfl (Stp.box 3 rfl rfl rfl H ?_); clear H; intro g3 w1 H; simp only [pS]; simp only [pE, nC, pS] at H) | (with_reducible refine wpl rfl (Stp.ldc rfl agg33 rfl H mR cE ?_); simp only [pS]) | (with_reducible refine wpl rfl (Stp.ldo rfl agg33 rfl H (by assumption) (by assumption) ?_); simp only [pS]) | (with_reducible refine wpl rfl (Stp.ldc rfl agg34 rfl H mR cE ?_); simp only [pS]) | (with_reducible refine wpl rfl (Stp.ldo rfl agg34 rfl H (by assumption) (by assumption) ?_); simp only [pS]))
    go_ret
    exact ⟨_, rfl, by first | rfl | simp, H.below⟩
set_option maxRecDepth 100000 in
theorem before_ok (a b : Bl) (a1 : a.w.1 < 65536) (a2 : a.w.2 < 4294967296) (b1 : b.w.1 < 65536) (b2 : b.w.2 < 4294967296) (e : Bool) (he : blt a b = e) (w : World) : Calls Try.prog 84 #[.agg (blC a), .agg (blC b)] w (Ret fun v w' => v = .bool e ∧ Below w.heap.size w w') := by
  have H := St.init w
  unfold blt at he
  simp only [blC]
  by_cases h1 : a.r = b.r
  · rw [if_pos h1] at he
    have HE := Lib.hid he
    have h1i : ((a.r : Int) != (b.r : Int)) = false := by simp [h1]
    clear he h1
    go_enter Try.func84, Try.ntmps84
    go_wp2_with (first | (go_at_call 116; (with_reducible refine (ahead_ok a.w.1 a.w.2 b.w.1 b.w.2 a1 a2 b1 b2 e HE.out _).mono ?_); rintro e w1 ⟨v, rfl, hr⟩; obtain ⟨rfl, hb1⟩ := hr; replace H := H.grow hb1; clear hb1) | (with_reducible refine wpl rfl (Stp.box 2 rfl rfl rfl H ?_); clear H; intro g2 w1 H; simp only [pS]; simp only [pE, nC, pS] at H) | (with_reducible refine wpl rfl (Stp.box 3 rfl rfl rfl H ?_); clear H; intro g3 w1 H; simp only [pS]; simp only [pE, nC, pS] at H) | (with_reducible refine wpl rfl (Stp.ldc rfl agg34 rfl H mR cE ?_); simp only [pS]) | (with_reducible refine wpl rfl (Stp.ldo rfl agg34 rfl H (by assumption) (by assumption) ?_); simp only [pS]) | (with_reducible refine wpl rfl (Stp.ldr rfl agg36 size36 rfl H mR sZ ?_); simp only [pS]) | (with_reducible refine wpl rfl (Stp.ldl rfl agg36 size36 rfl H mR (by simp) ?_); simp only [pS]; simp only [List.drop_succ_cons, List.drop_zero, List.take_succ_cons, List.take_zero]) | (with_reducible refine wpl rfl (Stp.ldor rfl agg36 size36 rfl H (by assumption) sZ (by assumption) ?_); simp only [pS]))
    go_ret
    exact ⟨_, rfl, rfl, H.below⟩
  · rw [if_neg h1] at he
    have h1i : ((a.r : Int) != (b.r : Int)) = true := by simp; omega
    subst he
    by_cases h2 : a.r < b.r
    · have h2i : (a.r : Int) < (b.r : Int) := by omega
      rw [decide_eq_true h2]
      clear h1 h2
      go_enter Try.func84, Try.ntmps84
      go_wp2_with (first | (with_reducible refine wpl rfl (Stp.box 2 rfl rfl rfl H ?_); clear H; intro g2 w1 H; simp only [pS]; simp only [pE, nC, pS] at H) | (with_reducible refine wpl rfl (Stp.box 3 rfl rfl rfl H ?_); clear H; intro g3 w1 H; simp only [pS]; simp only [pE, nC, pS] at H) | (with_reducible refine wpl rfl (Stp.ldc rfl agg34 rfl H mR cE ?_); simp only [pS]) | (with_reducible refine wpl rfl (Stp.ldo rfl agg34 rfl H (by assumption) (by assumption) ?_); simp only [pS]) | (with_reducible refine wpl rfl (Stp.ldr rfl agg36 size36 rfl H mR sZ ?_); simp only [pS]) | (with_reducible refine wpl rfl (Stp.ldl rfl agg36 size36 rfl H mR (by simp) ?_); simp only [pS]; simp only [List.drop_succ_cons, List.drop_zero, List.take_succ_cons, List.take_zero]) | (with_reducible refine wpl rfl (Stp.ldor rfl agg36 size36 rfl H (by assumption) sZ (by assumption) ?_); simp only [pS]))
      go_ret
      exact ⟨_, rfl, rfl, H.below⟩
    · have h2i : decide (a.r < b.r) = false := decide_eq_false h2
      rw [h2i]
      clear h1 h2
      go_enter Try.func84, Try.ntmps84
      go_wp2_with (first | (with_reducible refine wpl rfl (Stp.box 2 rfl rfl rfl H ?_); clear H; intro g2 w1 H; simp only [pS]; simp only [pE, nC, pS] at H) | (with_reducible refine wpl rfl (Stp.box 3 rfl rfl rfl H ?_); clear H; intro g3 w1 H; simp only [pS]; simp only [pE, nC, pS] at H) | (with_reducible refine wpl rfl (Stp.ldc rfl agg34 rfl H mR cE ?_); simp only [pS]) | (with_reducible refine wpl rfl (Stp.ldo rfl agg34 rfl H (by assumption) (by assumption) ?_); simp only [pS]) | (with_reducible refine wpl rfl (Stp.ldr rfl agg36 size36 rfl H mR sZ ?_); simp only [pS]) | (with_reducible refine wpl rfl (Stp.ldl rfl agg36 size36 rfl H mR (by simp) ?_); simp only [pS]; simp only [List.drop_succ_cons, List.drop_zero, List.take_succ_cons, List.take_zero]) | (with_reducible refine wpl rfl (Stp.ldor rfl agg36 size36 rfl H (by assumption) sZ (by assumption) ?_); simp only [pS]))
      go_ret
      exact ⟨_, rfl, rfl, H.below⟩
set_option maxRecDepth 100000 in
theorem rbefore_ok (a b : Bl) (e : Bool) (he : blt a b = e) (w : World) : Calls Try.prog 33 #[.agg (blC a), .agg (blC b)] w (Ret fun v w' => v = .bool e ∧ Below w.heap.size w w') := by
  have H := St.init w
  unfold blt at he
  simp only [blC]
  by_cases h1 : a.r = b.r
  · rw [if_pos h1] at he
    have HE := Lib.hid he
    have h1i : ((a.r : Int) != (b.r : Int)) = false := by simp [h1]
    clear he h1
    go_enter Try.func33, Try.ntmps33
    go_wp2_with (first | (go_at_call 78; (with_reducible refine (rahead_ok a.w.1 a.w.2 b.w.1 b.w.2 e HE.out _).mono ?_); rintro e w1 ⟨v, rfl, hr⟩; obtain ⟨rfl, hb1⟩ := hr; replace H := H.grow hb1; clear hb1) | (with_reducible refine wpl rfl (Stp.box 2 rfl rfl rfl H ?_); clear H; intro g2 w1 H; simp only [pS]; simp only [pE, nC, pS] at H) | (with_reducible refine wpl rfl (Stp.box 3 rfl rfl rfl H ?_); clear H; intro g3 w1 H; simp only [pS]; simp only [pE, nC, pS] at H) | (with_reducible refine wpl rfl (Stp.ldc rfl agg34 rfl H mR cE ?_); simp only [pS]) | (with_reducible refine wpl rfl (Stp.ldo rfl agg34 rfl H (by assumption) (by assumption) ?_); simp only [pS]) | (with_reducible refine wpl rfl (Stp.ldr rfl agg36 size36 rfl H mR sZ ?_); simp only [pS]) | (with_reducible refine wpl rfl (Stp.ldl rfl agg36 size36 rfl H mR (by simp) ?_); simp only [pS]; simp only [List.drop_succ_cons, List.drop_zero, List.take_succ_cons, List.take_zero]) | (with_reducible refine wpl rfl (Stp.ldor rfl agg36 size36 rfl H (by assumption) sZ (by assumption) ?_); simp only [pS]))
    go_ret
    exact ⟨_, rfl, rfl, H.below⟩
  · rw [if_neg h1] at he
    have h1i : ((a.r : Int) != (b.r : Int)) = true := by simp; omega
    subst he
    by_cases h2 : a.r < b.r
    · have h2i : (a.r : Int) < (b.r : Int) := by omega
      rw [decide_eq_true h2]
      clear h1 h2
      go_enter Try.func33, Try.ntmps33
      go_wp2_with (first | (with_reducible refine wpl rfl (Stp.box 2 rfl rfl rfl H ?_); clear H; intro g2 w1 H; simp only [pS]; simp only [pE, nC, pS] at H) | (with_reducible refine wpl rfl (Stp.box 3 rfl rfl rfl H ?_); clear H; intro g3 w1 H; simp only [pS]; simp only [pE, nC, pS] at H) | (with_reducible refine wpl rfl (Stp.ldc rfl agg34 rfl H mR cE ?_); simp only [pS]) | (with_reducible refine wpl rfl (Stp.ldo rfl agg34 rfl H (by assumption) (by assumption) ?_); simp only [pS]) | (with_reducible refine wpl rfl (Stp.ldr rfl agg36 size36 rfl H mR sZ ?_); simp only [pS]) | (with_reducible refine wpl rfl (Stp.ldl rfl agg36 size36 rfl H mR (by simp) ?_); simp only [pS]; simp only [List.drop_succ_cons, List.drop_zero, List.take_succ_cons, List.take_zero]) | (with_reducible refine wpl rfl (Stp.ldor rfl agg36 size36 rfl H (by assumption) sZ (by assumption) ?_); simp only [pS]))
      go_ret
      exact ⟨_, rfl, rfl, H.below⟩
    · have h2i : decide (a.r < b.r) = false := decide_eq_false h2
      rw [h2i]
      clear h1 h2
      go_enter Try.func33, Try.ntmps33
      go_wp2_with (first | (with_reducible refine wpl rfl (Stp.box 2 rfl rfl rfl H ?_); clear H; intro g2 w1 H; simp only [pS]; simp only [pE, nC, pS] at H) | (with_reducible refine wpl rfl (Stp.box 3 rfl rfl rfl H ?_); clear H; intro g3 w1 H; simp only [pS]; simp only [pE, nC, pS] at H) | (with_reducible refine wpl rfl (Stp.ldc rfl agg34 rfl H mR cE ?_); simp only [pS]) | (with_reducible refine wpl rfl (Stp.ldo rfl agg34 rfl H (by assumption) (by assumption) ?_); simp only [pS]) | (with_reducible refine wpl rfl (Stp.ldr rfl agg36 size36 rfl H mR sZ ?_); simp only [pS]) | (with_reducible refine wpl rfl (Stp.ldl rfl agg36 size36 rfl H mR (by simp) ?_); simp only [pS]; simp only [List.drop_succ_cons, List.drop_zero, List.take_succ_cons, List.take_zero]) | (with_reducible refine wpl rfl (Stp.ldor rfl agg36 size36 rfl H (by assumption) sZ (by assumption) ?_); simp only [pS]))
      go_ret
      exact ⟨_, rfl, rfl, H.below⟩
end Go.Proofs.Ytjghcmejmdllbaa
