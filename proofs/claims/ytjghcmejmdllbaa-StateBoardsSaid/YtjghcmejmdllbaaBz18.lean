/- Layer 19's may (state) and its reference's May (choragusref19) on any board. Layer 7's Writer (body) and its reference's Bytes and Num (choragusref07); the bounds stand in each. My logic of owned memory, fourth part: a row that is only read any more ([]byte of a constant text); no condition. A string as bytes: []byte(s); the bounds stand in it. -/
import Derived.Test.YtjghcmejmdllbaaBz17
import Derived.Test.YtjghcmejmdllbaaBz16
import Derived.Test.YtjghcmejmdllbaaBz3
import Derived.Test.YtjghcmejmdllbaaBz6
import Derived.Test.YtjghcmejmdllbaaBz4
import Derived.Test.YtjghcmejmdllbaaBz15
import Derived.Test.YtjghcmejmdllbaaBz1
import Derived.Laws.IdiomStrings
namespace Go.Proofs.Ytjghcmejmdllbaa
open Go.ChangeShapes Go.WideShapes Go.ChangeAt Go.RowKit Go.Deep
set_option linter.unusedVariables false
set_option linter.unusedSimpArgs false
set_option linter.unusedSectionVars false
set_option maxRecDepth 100000
set_option maxHeartbeats 4000000
theorem Stp.idxW {t : TypeId} {x y : Operand} {P : Program} {a : Act} {w : World} {o : Oper} {N : Act → World → Prop} {v : Value} (ho : o.op = .index t x y) (hv : ∀ W : World, (execOp a.eval o).run P W = .ok (.value v) W) (h : N (a.put o.dst v) w) : Stp P o a w N := ⟨w, .inl ⟨v, hv w, h⟩⟩
/-- Are n texts of a board, from k on, short enough? -/
def mayN : Nat → Nat → (Nat → ByteArray) → Bool
  | 0, _, _ => true
  | n + 1, k, b => decide ((b k).size ≤ 16) && mayN n (k + 1) b
theorem smayG_ok (b : Nat → ByteArray) (w : World) : Calls Try.prog 69 #[.agg (bcs b)] w (Ret fun v w' => v = .bool (mayN 8 0 b) ∧ Below w.heap.size w w') := by
  have H := St.init w
  obtain ⟨r, hr⟩ : ∃ r, mayN 8 0 b = r := ⟨_, rfl⟩
  rw [hr]
  unfold bcs
  go_enter Try.func69, Try.ntmps69
  go_wp2_with (first | (with_reducible refine wpl rfl (dQ 1 rfl ?_); with_reducible refine (Stp.box 1 rfl rfl rfl H ?_); clear H; intro g1 w1 H; simp only [pS]; simp only [pE, nC, pS] at H) | (with_reducible refine wpl rfl (ldQ (ty := 46) rfl ?_); first | (with_reducible refine (Stp.ldor rfl agg46 size46 rfl H (by assumption) sZ (by assumption) ?_); simp only [pS]) | (with_reducible refine (Stp.ldr rfl agg46 size46 rfl H mR sZ ?_); simp only [pS]) | (with_reducible refine (Stp.ldl rfl agg46 size46 rfl H mR (by simp) ?_); simp only [pS]; simp only [List.drop_succ_cons, List.drop_zero, List.take_succ_cons, List.take_zero])))
  go_loopw [6] (fun i wr => ∃ kk : Nat, kk ≤ 8 ∧ i = .int .i64 (kk : Int) ∧ Hid (mayN (8 - kk) kk b = r) ∧ St w.heap.size w wr [row 46 g1 #[.string (b 0), .string (b 1), .string (b 2), .string (b 3), .string (b 4), .string (b 5), .string (b 6), .string (b 7)]]) (fun i _ => 8 - (intOf i).toNat)
  case atStart => exact ⟨0, by omega, rfl, Lib.hid hr, H⟩
  case round =>
    clear H
    obtain ⟨kk, hkk, rfl, HU, H⟩ := hrel
    by_cases hlt : kk < 8
    · have hk8 : kk = 0 ∨ kk = 1 ∨ kk = 2 ∨ kk = 3 ∨ kk = 4 ∨ kk = 5 ∨ kk = 6 ∨ kk = 7 := by omega
      rcases hk8 with rfl | rfl | rfl | rfl | rfl | rfl | rfl | rfl
      · have hn : mayN (8 - 0) 0 b = (decide ((b 0).size ≤ 16) && mayN (8 - 1) 1 b) := rfl
        replace HU := Lib.hid (hn.symm.trans HU.out)
        by_cases hs : (b 0).size ≤ 16
        · have hsi : ¬ (16 : Int) < ((b 0).size : Int) := by omega
          rw [decide_eq_true hs, Bool.true_and] at HU
          clear hs hn
          go_wp2_with (first | (with_reducible refine wpl rfl (Stp.idxW (v := .string (b 0)) rfl (fun W => by kernel_rfl) ?_); simp only [pS]) | (with_reducible refine wpl rfl (dQ 1 rfl ?_); with_reducible refine (Stp.box 1 rfl rfl rfl H ?_); clear H; intro g1 w1 H; simp only [pS]; simp only [pE, nC, pS] at H) | (with_reducible refine wpl rfl (ldQ (ty := 46) rfl ?_); first | (with_reducible refine (Stp.ldor rfl agg46 size46 rfl H (by assumption) sZ (by assumption) ?_); simp only [pS]) | (with_reducible refine (Stp.ldr rfl agg46 size46 rfl H mR sZ ?_); simp only [pS]) | (with_reducible refine (Stp.ldl rfl agg46 size46 rfl H mR (by simp) ?_); simp only [pS]; simp only [List.drop_succ_cons, List.drop_zero, List.take_succ_cons, List.take_zero])))
          go_roundw
          case rel => exact ⟨1, by omega, by first | rfl | go_num, HU, H⟩
          case measure => simp [intOf]
        · have hsi : (16 : Int) < ((b 0).size : Int) := by omega
          rw [decide_eq_false hs, Bool.false_and] at HU
          clear hs hn
          go_wp2_with (first | (with_reducible refine wpl rfl (Stp.idxW (v := .string (b 0)) rfl (fun W => by kernel_rfl) ?_); simp only [pS]) | (with_reducible refine wpl rfl (dQ 1 rfl ?_); with_reducible refine (Stp.box 1 rfl rfl rfl H ?_); clear H; intro g1 w1 H; simp only [pS]; simp only [pE, nC, pS] at H) | (with_reducible refine wpl rfl (ldQ (ty := 46) rfl ?_); first | (with_reducible refine (Stp.ldor rfl agg46 size46 rfl H (by assumption) sZ (by assumption) ?_); simp only [pS]) | (with_reducible refine (Stp.ldr rfl agg46 size46 rfl H mR sZ ?_); simp only [pS]) | (with_reducible refine (Stp.ldl rfl agg46 size46 rfl H mR (by simp) ?_); simp only [pS]; simp only [List.drop_succ_cons, List.drop_zero, List.take_succ_cons, List.take_zero])))
          go_ret
          exact ⟨_, rfl, by rw [← HU.out]; rfl, H.below⟩
      · have hn : mayN (8 - 1) 1 b = (decide ((b 1).size ≤ 16) && mayN (8 - 2) 2 b) := rfl
        replace HU := Lib.hid (hn.symm.trans HU.out)
        by_cases hs : (b 1).size ≤ 16
        · have hsi : ¬ (16 : Int) < ((b 1).size : Int) := by omega
          rw [decide_eq_true hs, Bool.true_and] at HU
          clear hs hn
          go_wp2_with (first | (with_reducible refine wpl rfl (Stp.idxW (v := .string (b 1)) rfl (fun W => by kernel_rfl) ?_); simp only [pS]) | (with_reducible refine wpl rfl (dQ 1 rfl ?_); with_reducible refine (Stp.box 1 rfl rfl rfl H ?_); clear H; intro g1 w1 H; simp only [pS]; simp only [pE, nC, pS] at H) | (with_reducible refine wpl rfl (ldQ (ty := 46) rfl ?_); first | (with_reducible refine (Stp.ldor rfl agg46 size46 rfl H (by assumption) sZ (by assumption) ?_); simp only [pS]) | (with_reducible refine (Stp.ldr rfl agg46 size46 rfl H mR sZ ?_); simp only [pS]) | (with_reducible refine (Stp.ldl rfl agg46 size46 rfl H mR (by simp) ?_); simp only [pS]; simp only [List.drop_succ_cons, List.drop_zero, List.take_succ_cons, List.take_zero])))
          go_roundw
          case rel => exact ⟨2, by omega, by first | rfl | go_num, HU, H⟩
          case measure => simp [intOf]
        · have hsi : (16 : Int) < ((b 1).size : Int) := by omega
          rw [decide_eq_false hs, Bool.false_and] at HU
          clear hs hn
          go_wp2_with (first | (with_reducible refine wpl rfl (Stp.idxW (v := .string (b 1)) rfl (fun W => by kernel_rfl) ?_); simp only [pS]) | (with_reducible refine wpl rfl (dQ 1 rfl ?_); with_reducible refine (Stp.box 1 rfl rfl rfl H ?_); clear H; intro g1 w1 H; simp only [pS]; simp only [pE, nC, pS] at H) | (with_reducible refine wpl rfl (ldQ (ty := 46) rfl ?_); first | (with_reducible refine (Stp.ldor rfl agg46 size46 rfl H (by assumption) sZ (by assumption) ?_); simp only [pS]) | (with_reducible refine (Stp.ldr rfl agg46 size46 rfl H mR sZ ?_); simp only [pS]) | (with_reducible refine (Stp.ldl rfl agg46 size46 rfl H mR (by simp) ?_); simp only [pS]; simp only [List.drop_succ_cons, List.drop_zero, List.take_succ_cons, List.take_zero])))
          go_ret
          exact ⟨_, rfl, by rw [← HU.out]; rfl, H.below⟩
      · have hn : mayN (8 - 2) 2 b = (decide ((b 2).size ≤ 16) && mayN (8 - 3) 3 b) := rfl
        replace HU := Lib.hid (hn.symm.trans HU.out)
        by_cases hs : (b 2).size ≤ 16
        · have hsi : ¬ (16 : Int) < ((b 2).size : Int) := by omega
          rw [decide_eq_true hs, Bool.true_and] at HU
          clear hs hn
          go_wp2_with (first | (with_reducible refine wpl rfl (Stp.idxW (v := .string (b 2)) rfl (fun W => by kernel_rfl) ?_); simp only [pS]) | (with_reducible refine wpl rfl (dQ 1 rfl ?_); with_reducible refine (Stp.box 1 rfl rfl rfl H ?_); clear H; intro g1 w1 H; simp only [pS]; simp only [pE, nC, pS] at H) | (with_reducible refine wpl rfl (ldQ (ty := 46) rfl ?_); first | (with_reducible refine (Stp.ldor rfl agg46 size46 rfl H (by assumption) sZ (by assumption) ?_); simp only [pS]) | (with_reducible refine (Stp.ldr rfl agg46 size46 rfl H mR sZ ?_); simp only [pS]) | (with_reducible refine (Stp.ldl rfl agg46 size46 rfl H mR (by simp) ?_); simp only [pS]; simp only [List.drop_succ_cons, List.drop_zero, List.take_succ_cons, List.take_zero])))
          go_roundw
          case rel => exact ⟨3, by omega, by first | rfl | go_num, HU, H⟩
          case measure => simp [intOf]
        · have hsi : (16 : Int) < ((b 2).size : Int) := by omega
          rw [decide_eq_false hs, Bool.false_and] at HU
          clear hs hn
          go_wp2_with (first | (with_reducible refine wpl rfl (Stp.idxW (v := .string (b 2)) rfl (fun W => by kernel_rfl) ?_); simp only [pS]) | (with_reducible refine wpl rfl (dQ 1 rfl ?_); with_reducible refine (Stp.box 1 rfl rfl rfl H ?_); clear H; intro g1 w1 H; simp only [pS]; simp only [pE, nC, pS] at H) | (with_reducible refine wpl rfl (ldQ (ty := 46) rfl ?_); first | (with_reducible refine (Stp.ldor rfl agg46 size46 rfl H (by assumption) sZ (by assumption) ?_); simp only [pS]) | (with_reducible refine (Stp.ldr rfl agg46 size46 rfl H mR sZ ?_); simp only [pS]) | (with_reducible refine (Stp.ldl rfl agg46 size46 rfl H mR (by simp) ?_); simp only [pS]; simp only [List.drop_succ_cons, List.drop_zero, List.take_succ_cons, List.take_zero])))
          go_ret
          exact ⟨_, rfl, by rw [← HU.out]; rfl, H.below⟩
      · have hn : mayN (8 - 3) 3 b = (decide ((b 3).size ≤ 16) && mayN (8 - 4) 4 b) := rfl
        replace HU := Lib.hid (hn.symm.trans HU.out)
        by_cases hs : (b 3).size ≤ 16
        · have hsi : ¬ (16 : Int) < ((b 3).size : Int) := by omega
          rw [decide_eq_true hs, Bool.true_and] at HU
          clear hs hn
          go_wp2_with (first | (with_reducible refine wpl rfl (Stp.idxW (v := .string (b 3)) rfl (fun W => by kernel_rfl) ?_); simp only [pS]) | (with_reducible refine wpl rfl (dQ 1 rfl ?_); with_reducible refine (Stp.box 1 rfl rfl rfl H ?_); clear H; intro g1 w1 H; simp only [pS]; simp only [pE, nC, pS] at H) | (with_reducible refine wpl rfl (ldQ (ty := 46) rfl ?_); first | (with_reducible refine (Stp.ldor rfl agg46 size46 rfl H (by assumption) sZ (by assumption) ?_); simp only [pS]) | (with_reducible refine (Stp.ldr rfl agg46 size46 rfl H mR sZ ?_); simp only [pS]) | (with_reducible refine (Stp.ldl rfl agg46 size46 rfl H mR (by simp) ?_); simp only [pS]; simp only [List.drop_succ_cons, List.drop_zero, List.take_succ_cons, List.take_zero])))
          go_roundw
          case rel => exact ⟨4, by omega, by first | rfl | go_num, HU, H⟩
          case measure => simp [intOf]
        · have hsi : (16 : Int) < ((b 3).size : Int) := by omega
          rw [decide_eq_false hs, Bool.false_and] at HU
          clear hs hn
          go_wp2_with (first | (with_reducible refine wpl rfl (Stp.idxW (v := .string (b 3)) rfl (fun W => by kernel_rfl) ?_); simp only [pS]) | (with_reducible refine wpl rfl (dQ 1 rfl ?_); with_reducible refine (Stp.box 1 rfl rfl rfl H ?_); clear H; intro g1 w1 H; simp only [pS]; simp only [pE, nC, pS] at H) | (with_reducible refine wpl rfl (ldQ (ty := 46) rfl ?_); first | (with_reducible refine (Stp.ldor rfl agg46 size46 rfl H (by assumption) sZ (by assumption) ?_); simp only [pS]) | (with_reducible refine (Stp.ldr rfl agg46 size46 rfl H mR sZ ?_); simp only [pS]) | (with_reducible refine (Stp.ldl rfl agg46 size46 rfl H mR (by simp) ?_); simp only [pS]; simp only [List.drop_succ_cons, List.drop_zero, List.take_succ_cons, List.take_zero])))
          go_ret
          exact ⟨_, rfl, by rw [← HU.out]; rfl, H.below⟩
      · have hn : mayN (8 - 4) 4 b = (decide ((b 4).size ≤ 16) && mayN (8 - 5) 5 b) := rfl
        replace HU := Lib.hid (hn.symm.trans HU.out)
        by_cases hs : (b 4).size ≤ 16
        · have hsi : ¬ (16 : Int) < ((b 4).size : Int) := by omega
          rw [decide_eq_true hs, Bool.true_and] at HU
          clear hs hn
          go_wp2_with (first | (with_reducible refine wpl rfl (Stp.idxW (v := .string (b 4)) rfl (fun W => by kernel_rfl) ?_); simp only [pS]) | (with_reducible refine wpl rfl (dQ 1 rfl ?_); with_reducible refine (Stp.box 1 rfl rfl rfl H ?_); clear H; intro g1 w1 H; simp only [pS]; simp only [pE, nC, pS] at H) | (with_reducible refine wpl rfl (ldQ (ty := 46) rfl ?_); first | (with_reducible refine (Stp.ldor rfl agg46 size46 rfl H (by assumption) sZ (by assumption) ?_); simp only [pS]) | (with_reducible refine (Stp.ldr rfl agg46 size46 rfl H mR sZ ?_); simp only [pS]) | (with_reducible refine (Stp.ldl rfl agg46 size46 rfl H mR (by simp) ?_); simp only [pS]; simp only [List.drop_succ_cons, List.drop_zero, List.take_succ_cons, List.take_zero])))
          go_roundw
          case rel => exact ⟨5, by omega, by first | rfl | go_num, HU, H⟩
          case measure => simp [intOf]
        · have hsi : (16 : Int) < ((b 4).size : Int) := by omega
          rw [decide_eq_false hs, Bool.false_and] at HU
          clear hs hn
          go_wp2_with (first | (with_reducible refine wpl rfl (Stp.idxW (v := .string (b 4)) rfl (fun W => by kernel_rfl) ?_); simp only [pS]) | (with_reducible refine wpl rfl (dQ 1 rfl ?_); with_reducible refine (Stp.box 1 rfl rfl rfl H ?_); clear H; intro g1 w1 H; simp only [pS]; simp only [pE, nC, pS] at H) | (with_reducible refine wpl rfl (ldQ (ty := 46) rfl ?_); first | (with_reducible refine (Stp.ldor rfl agg46 size46 rfl H (by assumption) sZ (by assumption) ?_); simp only [pS]) | (with_reducible refine (Stp.ldr rfl agg46 size46 rfl H mR sZ ?_); simp only [pS]) | (with_reducible refine (Stp.ldl rfl agg46 size46 rfl H mR (by simp) ?_); simp only [pS]; simp only [List.drop_succ_cons, List.drop_zero, List.take_succ_cons, List.take_zero])))
          go_ret
          exact ⟨_, rfl, by rw [← HU.out]; rfl, H.below⟩
      · have hn : mayN (8 - 5) 5 b = (decide ((b 5).size ≤ 16) && mayN (8 - 6) 6 b) := rfl
        replace HU := Lib.hid (hn.symm.trans HU.out)
        by_cases hs : (b 5).size ≤ 16
        · have hsi : ¬ (16 : Int) < ((b 5).size : Int) := by omega
          rw [decide_eq_true hs, Bool.true_and] at HU
          clear hs hn
          go_wp2_with (first | (with_reducible refine wpl rfl (Stp.idxW (v := .string (b 5)) rfl (fun W => by kernel_rfl) ?_); simp only [pS]) | (with_reducible refine wpl rfl (dQ 1 rfl ?_); with_reducible refine (Stp.box 1 rfl rfl rfl H ?_); clear H; intro g1 w1 H; simp only [pS]; simp only [pE, nC, pS] at H) | (with_reducible refine wpl rfl (ldQ (ty := 46) rfl ?_); first | (with_reducible refine (Stp.ldor rfl agg46 size46 rfl H (by assumption) sZ (by assumption) ?_); simp only [pS]) | (with_reducible refine (Stp.ldr rfl agg46 size46 rfl H mR sZ ?_); simp only [pS]) | (with_reducible refine (Stp.ldl rfl agg46 size46 rfl H mR (by simp) ?_); simp only [pS]; simp only [List.drop_succ_cons, List.drop_zero, List.take_succ_cons, List.take_zero])))
          go_roundw
          case rel => exact ⟨6, by omega, by first | rfl | go_num, HU, H⟩
          case measure => simp [intOf]
        · have hsi : (16 : Int) < ((b 5).size : Int) := by omega
          rw [decide_eq_false hs, Bool.false_and] at HU
          clear hs hn
          go_wp2_with (first | (with_reducible refine wpl rfl (Stp.idxW (v := .string (b 5)) rfl (fun W => by kernel_rfl) ?_); simp only [pS]) | (with_reducible refine wpl rfl (dQ 1 rfl ?_); with_reducible refine (Stp.box 1 rfl rfl rfl H ?_); clear H; intro g1 w1 H; simp only [pS]; simp only [pE, nC, pS] at H) | (with_reducible refine wpl rfl (ldQ (ty := 46) rfl ?_); first | (with_reducible refine (Stp.ldor rfl agg46 size46 rfl H (by assumption) sZ (by assumption) ?_); simp only [pS]) | (with_reducible refine (Stp.ldr rfl agg46 size46 rfl H mR sZ ?_); simp only [pS]) | (with_reducible refine (Stp.ldl rfl agg46 size46 rfl H mR (by simp) ?_); simp only [pS]; simp only [List.drop_succ_cons, List.drop_zero, List.take_succ_cons, List.take_zero])))
          go_ret
          exact ⟨_, rfl, by rw [← HU.out]; rfl, H.below⟩
      · have hn : mayN (8 - 6) 6 b = (decide ((b 6).size ≤ 16) && mayN (8 - 7) 7 b) := rfl
        replace HU := Lib.hid (hn.symm.trans HU.out)
        by_cases hs : (b 6).size ≤ 16
        · have hsi : ¬ (16 : Int) < ((b 6).size : Int) := by omega
          rw [decide_eq_true hs, Bool.true_and] at HU
          clear hs hn
          go_wp2_with (first | (with_reducible refine wpl rfl (Stp.idxW (v := .string (b 6)) rfl (fun W => by kernel_rfl) ?_); simp only [pS]) | (with_reducible refine wpl rfl (dQ 1 rfl ?_); with_reducible refine (Stp.box 1 rfl rfl rfl H ?_); clear H; intro g1 w1 H; simp only [pS]; simp only [pE, nC, pS] at H) | (with_reducible refine wpl rfl (ldQ (ty := 46) rfl ?_); first | (with_reducible refine (Stp.ldor rfl agg46 size46 rfl H (by assumption) sZ (by assumption) ?_); simp only [pS]) | (with_reducible refine (Stp.ldr rfl agg46 size46 rfl H mR sZ ?_); simp only [pS]) | (with_reducible refine (Stp.ldl rfl agg46 size46 rfl H mR (by simp) ?_); simp only [pS]; simp only [List.drop_succ_cons, List.drop_zero, List.take_succ_cons, List.take_zero])))
          go_roundw
          case rel => exact ⟨7, by omega, by first | rfl | go_num, HU, H⟩
          case measure => simp [intOf]
        · have hsi : (16 : Int) < ((b 6).size : Int) := by omega
          rw [decide_eq_false hs, Bool.false_and] at HU
          clear hs hn
          go_wp2_with (first | (with_reducible refine wpl rfl (Stp.idxW (v := .string (b 6)) rfl (fun W => by kernel_rfl) ?_); simp only [pS]) | (with_reducible refine wpl rfl (dQ 1 rfl ?_); with_reducible refine (Stp.box 1 rfl rfl rfl H ?_); clear H; intro g1 w1 H; simp only [pS]; simp only [pE, nC, pS] at H) | (with_reducible refine wpl rfl (ldQ (ty := 46) rfl ?_); first | (with_reducible refine (Stp.ldor rfl agg46 size46 rfl H (by assumption) sZ (by assumption) ?_); simp only [pS]) | (with_reducible refine (Stp.ldr rfl agg46 size46 rfl H mR sZ ?_); simp only [pS]) | (with_reducible refine (Stp.ldl rfl agg46 size46 rfl H mR (by simp) ?_); simp only [pS]; simp only [List.drop_succ_cons, List.drop_zero, List.take_succ_cons, List.take_zero])))
          go_ret
          exact ⟨_, rfl, by rw [← HU.out]; rfl, H.below⟩
      · have hn : mayN (8 - 7) 7 b = (decide ((b 7).size ≤ 16) && mayN (8 - 8) 8 b) := rfl
        replace HU := Lib.hid (hn.symm.trans HU.out)
        by_cases hs : (b 7).size ≤ 16
        · have hsi : ¬ (16 : Int) < ((b 7).size : Int) := by omega
          rw [decide_eq_true hs, Bool.true_and] at HU
          clear hs hn
          go_wp2_with (first | (with_reducible refine wpl rfl (Stp.idxW (v := .string (b 7)) rfl (fun W => by kernel_rfl) ?_); simp only [pS]) | (with_reducible refine wpl rfl (dQ 1 rfl ?_); with_reducible refine (Stp.box 1 rfl rfl rfl H ?_); clear H; intro g1 w1 H; simp only [pS]; simp only [pE, nC, pS] at H) | (with_reducible refine wpl rfl (ldQ (ty := 46) rfl ?_); first | (with_reducible refine (Stp.ldor rfl agg46 size46 rfl H (by assumption) sZ (by assumption) ?_); simp only [pS]) | (with_reducible refine (Stp.ldr rfl agg46 size46 rfl H mR sZ ?_); simp only [pS]) | (with_reducible refine (Stp.ldl rfl agg46 size46 rfl H mR (by simp) ?_); simp only [pS]; simp only [List.drop_succ_cons, List.drop_zero, List.take_succ_cons, List.take_zero])))
          go_roundw
          case rel => exact ⟨8, by omega, by first | rfl | go_num, HU, H⟩
          case measure => simp [intOf]
        · have hsi : (16 : Int) < ((b 7).size : Int) := by omega
          rw [decide_eq_false hs, Bool.false_and] at HU
          clear hs hn
          go_wp2_with (first | (with_reducible refine wpl rfl (Stp.idxW (v := .string (b 7)) rfl (fun W => by kernel_rfl) ?_); simp only [pS]) | (with_reducible refine wpl rfl (dQ 1 rfl ?_); with_reducible refine (Stp.box 1 rfl rfl rfl H ?_); clear H; intro g1 w1 H; simp only [pS]; simp only [pE, nC, pS] at H) | (with_reducible refine wpl rfl (ldQ (ty := 46) rfl ?_); first | (with_reducible refine (Stp.ldor rfl agg46 size46 rfl H (by assumption) sZ (by assumption) ?_); simp only [pS]) | (with_reducible refine (Stp.ldr rfl agg46 size46 rfl H mR sZ ?_); simp only [pS]) | (with_reducible refine (Stp.ldl rfl agg46 size46 rfl H mR (by simp) ?_); simp only [pS]; simp only [List.drop_succ_cons, List.drop_zero, List.take_succ_cons, List.take_zero])))
          go_ret
          exact ⟨_, rfl, by rw [← HU.out]; rfl, H.below⟩
    · obtain rfl : kk = 8 := by omega
      go_wp2_with (first | (with_reducible refine wpl rfl (dQ 1 rfl ?_); with_reducible refine (Stp.box 1 rfl rfl rfl H ?_); clear H; intro g1 w1 H; simp only [pS]; simp only [pE, nC, pS] at H) | (with_reducible refine wpl rfl (ldQ (ty := 46) rfl ?_); first | (with_reducible refine (Stp.ldor rfl agg46 size46 rfl H (by assumption) sZ (by assumption) ?_); simp only [pS]) | (with_reducible refine (Stp.ldr rfl agg46 size46 rfl H mR sZ ?_); simp only [pS]) | (with_reducible refine (Stp.ldl rfl agg46 size46 rfl H mR (by simp) ?_); simp only [pS]; simp only [List.drop_succ_cons, List.drop_zero, List.take_succ_cons, List.take_zero])))
      go_ret
      exact ⟨_, rfl, by rw [← HU.out]; rfl, H.below⟩
theorem xmayG_ok (b : Nat → ByteArray) (w : World) : Calls Try.prog 50 #[.agg (bcs b)] w (Ret fun v w' => v = .bool (mayN 8 0 b) ∧ Below w.heap.size w w') := by
  have H := St.init w
  obtain ⟨r, hr⟩ : ∃ r, mayN 8 0 b = r := ⟨_, rfl⟩
  rw [hr]
  unfold bcs
  go_enter Try.func50, Try.ntmps50
  go_wp2_with (first | (with_reducible refine wpl rfl (dQ 1 rfl ?_); with_reducible refine (Stp.box 1 rfl rfl rfl H ?_); clear H; intro g1 w1 H; simp only [pS]; simp only [pE, nC, pS] at H) | (with_reducible refine wpl rfl (ldQ (ty := 9) rfl ?_); first | (with_reducible refine (Stp.ldo rfl agg9 rfl H (by assumption) (by assumption) ?_); simp only [pS]) | (with_reducible refine (Stp.ldc rfl agg9 rfl H mR cE ?_); simp only [pS])))
  go_loopw [3] (fun i wr => ∃ kk : Nat, kk ≤ 8 ∧ i = .int .i64 (kk : Int) ∧ Hid (mayN (8 - kk) kk b = r) ∧ St w.heap.size w wr [row 46 g1 #[.string (b 0), .string (b 1), .string (b 2), .string (b 3), .string (b 4), .string (b 5), .string (b 6), .string (b 7)]]) (fun i _ => 8 - (intOf i).toNat)
  case atStart => exact ⟨0, by omega, rfl, Lib.hid hr, H⟩
  case round =>
    clear H
    obtain ⟨kk, hkk, rfl, HU, H⟩ := hrel
    by_cases hlt : kk < 8
    · have hk8 : kk = 0 ∨ kk = 1 ∨ kk = 2 ∨ kk = 3 ∨ kk = 4 ∨ kk = 5 ∨ kk = 6 ∨ kk = 7 := by omega
      rcases hk8 with rfl | rfl | rfl | rfl | rfl | rfl | rfl | rfl
      · have hn : mayN (8 - 0) 0 b = (decide ((b 0).size ≤ 16) && mayN (8 - 1) 1 b) := rfl
        replace HU := Lib.hid (hn.symm.trans HU.out)
        by_cases hs : (b 0).size ≤ 16
        · have hsi : ¬ (16 : Int) < ((b 0).size : Int) := by omega
          rw [decide_eq_true hs, Bool.true_and] at HU
          clear hs hn
          go_wp2_with (first | (with_reducible refine wpl rfl (dQ 1 rfl ?_); with_reducible refine (Stp.box 1 rfl rfl rfl H ?_); clear H; intro g1 w1 H; simp only [pS]; simp only [pE, nC, pS] at H) | (with_reducible refine wpl rfl (ldQ (ty := 9) rfl ?_); first | (with_reducible refine (Stp.ldo rfl agg9 rfl H (by assumption) (by assumption) ?_); simp only [pS]) | (with_reducible refine (Stp.ldc rfl agg9 rfl H mR cE ?_); simp only [pS])))
          go_roundw
          case rel => exact ⟨1, by omega, by first | rfl | go_num, HU, H⟩
          case measure => simp [intOf]
        · have hsi : (16 : Int) < ((b 0).size : Int) := by omega
          rw [decide_eq_false hs, Bool.false_and] at HU
          clear hs hn
          go_wp2_with (first | (with_reducible refine wpl rfl (dQ 1 rfl ?_); with_reducible refine (Stp.box 1 rfl rfl rfl H ?_); clear H; intro g1 w1 H; simp only [pS]; simp only [pE, nC, pS] at H) | (with_reducible refine wpl rfl (ldQ (ty := 9) rfl ?_); first | (with_reducible refine (Stp.ldo rfl agg9 rfl H (by assumption) (by assumption) ?_); simp only [pS]) | (with_reducible refine (Stp.ldc rfl agg9 rfl H mR cE ?_); simp only [pS])))
          go_ret
          exact ⟨_, rfl, by rw [← HU.out]; rfl, H.below⟩
      · have hn : mayN (8 - 1) 1 b = (decide ((b 1).size ≤ 16) && mayN (8 - 2) 2 b) := rfl
        replace HU := Lib.hid (hn.symm.trans HU.out)
        by_cases hs : (b 1).size ≤ 16
        · have hsi : ¬ (16 : Int) < ((b 1).size : Int) := by omega
          rw [decide_eq_true hs, Bool.true_and] at HU
          clear hs hn
          go_wp2_with (first | (with_reducible refine wpl rfl (dQ 1 rfl ?_); with_reducible refine (Stp.box 1 rfl rfl rfl H ?_); clear H; intro g1 w1 H; simp only [pS]; simp only [pE, nC, pS] at H) | (with_reducible refine wpl rfl (ldQ (ty := 9) rfl ?_); first | (with_reducible refine (Stp.ldo rfl agg9 rfl H (by assumption) (by assumption) ?_); simp only [pS]) | (with_reducible refine (Stp.ldc rfl agg9 rfl H mR cE ?_); simp only [pS])))
          go_roundw
          case rel => exact ⟨2, by omega, by first | rfl | go_num, HU, H⟩
          case measure => simp [intOf]
        · have hsi : (16 : Int) < ((b 1).size : Int) := by omega
          rw [decide_eq_false hs, Bool.false_and] at HU
          clear hs hn
          go_wp2_with (first | (with_reducible refine wpl rfl (dQ 1 rfl ?_); with_reducible refine (Stp.box 1 rfl rfl rfl H ?_); clear H; intro g1 w1 H; simp only [pS]; simp only [pE, nC, pS] at H) | (with_reducible refine wpl rfl (ldQ (ty := 9) rfl ?_); first | (with_reducible refine (Stp.ldo rfl agg9 rfl H (by assumption) (by assumption) ?_); simp only [pS]) | (with_reducible refine (Stp.ldc rfl agg9 rfl H mR cE ?_); simp only [pS])))
          go_ret
          exact ⟨_, rfl, by rw [← HU.out]; rfl, H.below⟩
      · have hn : mayN (8 - 2) 2 b = (decide ((b 2).size ≤ 16) && mayN (8 - 3) 3 b) := rfl
        replace HU := Lib.hid (hn.symm.trans HU.out)
        by_cases hs : (b 2).size ≤ 16
        · have hsi : ¬ (16 : Int) < ((b 2).size : Int) := by omega
          rw [decide_eq_true hs, Bool.true_and] at HU
          clear hs hn
          go_wp2_with (first | (with_reducible refine wpl rfl (dQ 1 rfl ?_); with_reducible refine (Stp.box 1 rfl rfl rfl H ?_); clear H; intro g1 w1 H; simp only [pS]; simp only [pE, nC, pS] at H) | (with_reducible refine wpl rfl (ldQ (ty := 9) rfl ?_); first | (with_reducible refine (Stp.ldo rfl agg9 rfl H (by assumption) (by assumption) ?_); simp only [pS]) | (with_reducible refine (Stp.ldc rfl agg9 rfl H mR cE ?_); simp only [pS])))
          go_roundw
          case rel => exact ⟨3, by omega, by first | rfl | go_num, HU, H⟩
          case measure => simp [intOf]
        · have hsi : (16 : Int) < ((b 2).size : Int) := by omega
          rw [decide_eq_false hs, Bool.false_and] at HU
          clear hs hn
          go_wp2_with (first | (with_reducible refine wpl rfl (dQ 1 rfl ?_); with_reducible refine (Stp.box 1 rfl rfl rfl H ?_); clear H; intro g1 w1 H; simp only [pS]; simp only [pE, nC, pS] at H) | (with_reducible refine wpl rfl (ldQ (ty := 9) rfl ?_); first | (with_reducible refine (Stp.ldo rfl agg9 rfl H (by assumption) (by assumption) ?_); simp only [pS]) | (with_reducible refine (Stp.ldc rfl agg9 rfl H mR cE ?_); simp only [pS])))
          go_ret
          exact ⟨_, rfl, by rw [← HU.out]; rfl, H.below⟩
      · have hn : mayN (8 - 3) 3 b = (decide ((b 3).size ≤ 16) && mayN (8 - 4) 4 b) := rfl
        replace HU := Lib.hid (hn.symm.trans HU.out)
        by_cases hs : (b 3).size ≤ 16
        · have hsi : ¬ (16 : Int) < ((b 3).size : Int) := by omega
          rw [decide_eq_true hs, Bool.true_and] at HU
          clear hs hn
          go_wp2_with (first | (with_reducible refine wpl rfl (dQ 1 rfl ?_); with_reducible refine (Stp.box 1 rfl rfl rfl H ?_); clear H; intro g1 w1 H; simp only [pS]; simp only [pE, nC, pS] at H) | (with_reducible refine wpl rfl (ldQ (ty := 9) rfl ?_); first | (with_reducible refine (Stp.ldo rfl agg9 rfl H (by assumption) (by assumption) ?_); simp only [pS]) | (with_reducible refine (Stp.ldc rfl agg9 rfl H mR cE ?_); simp only [pS])))
          go_roundw
          case rel => exact ⟨4, by omega, by first | rfl | go_num, HU, H⟩
          case measure => simp [intOf]
        · have hsi : (16 : Int) < ((b 3).size : Int) := by omega
          rw [decide_eq_false hs, Bool.false_and] at HU
          clear hs hn
          go_wp2_with (first | (with_reducible refine wpl rfl (dQ 1 rfl ?_); with_reducible refine (Stp.box 1 rfl rfl rfl H ?_); clear H; intro g1 w1 H; simp only [pS]; simp only [pE, nC, pS] at H) | (with_reducible refine wpl rfl (ldQ (ty := 9) rfl ?_); first | (with_reducible refine (Stp.ldo rfl agg9 rfl H (by assumption) (by assumption) ?_); simp only [pS]) | (with_reducible refine (Stp.ldc rfl agg9 rfl H mR cE ?_); simp only [pS])))
          go_ret
          exact ⟨_, rfl, by rw [← HU.out]; rfl, H.below⟩
      · have hn : mayN (8 - 4) 4 b = (decide ((b 4).size ≤ 16) && mayN (8 - 5) 5 b) := rfl
        replace HU := Lib.hid (hn.symm.trans HU.out)
        by_cases hs : (b 4).size ≤ 16
        · have hsi : ¬ (16 : Int) < ((b 4).size : Int) := by omega
          rw [decide_eq_true hs, Bool.true_and] at HU
          clear hs hn
          go_wp2_with (first | (with_reducible refine wpl rfl (dQ 1 rfl ?_); with_reducible refine (Stp.box 1 rfl rfl rfl H ?_); clear H; intro g1 w1 H; simp only [pS]; simp only [pE, nC, pS] at H) | (with_reducible refine wpl rfl (ldQ (ty := 9) rfl ?_); first | (with_reducible refine (Stp.ldo rfl agg9 rfl H (by assumption) (by assumption) ?_); simp only [pS]) | (with_reducible refine (Stp.ldc rfl agg9 rfl H mR cE ?_); simp only [pS])))
          go_roundw
          case rel => exact ⟨5, by omega, by first | rfl | go_num, HU, H⟩
          case measure => simp [intOf]
        · have hsi : (16 : Int) < ((b 4).size : Int) := by omega
          rw [decide_eq_false hs, Bool.false_and] at HU
          clear hs hn
          go_wp2_with (first | (with_reducible refine wpl rfl (dQ 1 rfl ?_); with_reducible refine (Stp.box 1 rfl rfl rfl H ?_); clear H; intro g1 w1 H; simp only [pS]; simp only [pE, nC, pS] at H) | (with_reducible refine wpl rfl (ldQ (ty := 9) rfl ?_); first | (with_reducible refine (Stp.ldo rfl agg9 rfl H (by assumption) (by assumption) ?_); simp only [pS]) | (with_reducible refine (Stp.ldc rfl agg9 rfl H mR cE ?_); simp only [pS])))
          go_ret
          exact ⟨_, rfl, by rw [← HU.out]; rfl, H.below⟩
      · have hn : mayN (8 - 5) 5 b = (decide ((b 5).size ≤ 16) && mayN (8 - 6) 6 b) := rfl
        replace HU := Lib.hid (hn.symm.trans HU.out)
        by_cases hs : (b 5).size ≤ 16
        · have hsi : ¬ (16 : Int) < ((b 5).size : Int) := by omega
          rw [decide_eq_true hs, Bool.true_and] at HU
          clear hs hn
          go_wp2_with (first | (with_reducible refine wpl rfl (dQ 1 rfl ?_); with_reducible refine (Stp.box 1 rfl rfl rfl H ?_); clear H; intro g1 w1 H; simp only [pS]; simp only [pE, nC, pS] at H) | (with_reducible refine wpl rfl (ldQ (ty := 9) rfl ?_); first | (with_reducible refine (Stp.ldo rfl agg9 rfl H (by assumption) (by assumption) ?_); simp only [pS]) | (with_reducible refine (Stp.ldc rfl agg9 rfl H mR cE ?_); simp only [pS])))
          go_roundw
          case rel => exact ⟨6, by omega, by first | rfl | go_num, HU, H⟩
          case measure => simp [intOf]
        · have hsi : (16 : Int) < ((b 5).size : Int) := by omega
          rw [decide_eq_false hs, Bool.false_and] at HU
          clear hs hn
          go_wp2_with (first | (with_reducible refine wpl rfl (dQ 1 rfl ?_); with_reducible refine (Stp.box 1 rfl rfl rfl H ?_); clear H; intro g1 w1 H; simp only [pS]; simp only [pE, nC, pS] at H) | (with_reducible refine wpl rfl (ldQ (ty := 9) rfl ?_); first | (with_reducible refine (Stp.ldo rfl agg9 rfl H (by assumption) (by assumption) ?_); simp only [pS]) | (with_reducible refine (Stp.ldc rfl agg9 rfl H mR cE ?_); simp only [pS])))
          go_ret
          exact ⟨_, rfl, by rw [← HU.out]; rfl, H.below⟩
      · have hn : mayN (8 - 6) 6 b = (decide ((b 6).size ≤ 16) && mayN (8 - 7) 7 b) := rfl
        replace HU := Lib.hid (hn.symm.trans HU.out)
        by_cases hs : (b 6).size ≤ 16
        · have hsi : ¬ (16 : Int) < ((b 6).size : Int) := by omega
          rw [decide_eq_true hs, Bool.true_and] at HU
          clear hs hn
          go_wp2_with (first | (with_reducible refine wpl rfl (dQ 1 rfl ?_); with_reducible refine (Stp.box 1 rfl rfl rfl H ?_); clear H; intro g1 w1 H; simp only [pS]; simp only [pE, nC, pS] at H) | (with_reducible refine wpl rfl (ldQ (ty := 9) rfl ?_); first | (with_reducible refine (Stp.ldo rfl agg9 rfl H (by assumption) (by assumption) ?_); simp only [pS]) | (with_reducible refine (Stp.ldc rfl agg9 rfl H mR cE ?_); simp only [pS])))
          go_roundw
          case rel => exact ⟨7, by omega, by first | rfl | go_num, HU, H⟩
          case measure => simp [intOf]
        · have hsi : (16 : Int) < ((b 6).size : Int) := by omega
          rw [decide_eq_false hs, Bool.false_and] at HU
          clear hs hn
          go_wp2_with (first | (with_reducible refine wpl rfl (dQ 1 rfl ?_); with_reducible refine (Stp.box 1 rfl rfl rfl H ?_); clear H; intro g1 w1 H; simp only [pS]; simp only [pE, nC, pS] at H) | (with_reducible refine wpl rfl (ldQ (ty := 9) rfl ?_); first | (with_reducible refine (Stp.ldo rfl agg9 rfl H (by assumption) (by assumption) ?_); simp only [pS]) | (with_reducible refine (Stp.ldc rfl agg9 rfl H mR cE ?_); simp only [pS])))
          go_ret
          exact ⟨_, rfl, by rw [← HU.out]; rfl, H.below⟩
      · have hn : mayN (8 - 7) 7 b = (decide ((b 7).size ≤ 16) && mayN (8 - 8) 8 b) := rfl
        replace HU := Lib.hid (hn.symm.trans HU.out)
        by_cases hs : (b 7).size ≤ 16
        · have hsi : ¬ (16 : Int) < ((b 7).size : Int) := by omega
          rw [decide_eq_true hs, Bool.true_and] at HU
          clear hs hn
          go_wp2_with (first | (with_reducible refine wpl rfl (dQ 1 rfl ?_); with_reducible refine (Stp.box 1 rfl rfl rfl H ?_); clear H; intro g1 w1 H; simp only [pS]; simp only [pE, nC, pS] at H) | (with_reducible refine wpl rfl (ldQ (ty := 9) rfl ?_); first | (with_reducible refine (Stp.ldo rfl agg9 rfl H (by assumption) (by assumption) ?_); simp only [pS]) | (with_reducible refine (Stp.ldc rfl agg9 rfl H mR cE ?_); simp only [pS])))
          go_roundw
          case rel => exact ⟨8, by omega, by first | rfl | go_num, HU, H⟩
          case measure => simp [intOf]
        · have hsi : (16 : Int) < ((b 7).size : Int) := by omega
          rw [decide_eq_false hs, Bool.false_and] at HU
          clear hs hn
          go_wp2_with (first | (with_reducible refine wpl rfl (dQ 1 rfl ?_); with_reducible refine (Stp.box 1 rfl rfl rfl H ?_); clear H; intro g1 w1 H; simp only [pS]; simp only [pE, nC, pS] at H) | (with_reducible refine wpl rfl (ldQ (ty := 9) rfl ?_); first | (with_reducible refine (Stp.ldo rfl agg9 rfl H (by assumption) (by assumption) ?_); simp only [pS]) | (with_reducible refine (Stp.ldc rfl agg9 rfl H mR cE ?_); simp only [pS])))
          go_ret
          exact ⟨_, rfl, by rw [← HU.out]; rfl, H.below⟩
    · obtain rfl : kk = 8 := by omega
      go_wp2_with (first | (with_reducible refine wpl rfl (dQ 1 rfl ?_); with_reducible refine (Stp.box 1 rfl rfl rfl H ?_); clear H; intro g1 w1 H; simp only [pS]; simp only [pE, nC, pS] at H) | (with_reducible refine wpl rfl (ldQ (ty := 9) rfl ?_); first | (with_reducible refine (Stp.ldo rfl agg9 rfl H (by assumption) (by assumption) ?_); simp only [pS]) | (with_reducible refine (Stp.ldc rfl agg9 rfl H mR cE ?_); simp only [pS])))
      go_ret
      exact ⟨_, rfl, by rw [← HU.out]; rfl, H.below⟩
end Go.Proofs.Ytjghcmejmdllbaa

namespace Go.Proofs.Ytjghcmejmdllbaa
open Go.ChangeShapes Go.WideShapes Go.ChangeAt Go.RowKit
set_option linter.unusedVariables false
set_option linter.unusedSimpArgs false
theorem shortB_len (n : Nat) : (shortB n).length ≤ 10 := shortF_len 9 n
theorem putshort_as (v : Value) (l r : List Nat) (n : Nat) (hn : n < 18446744073709551616) (hl : l.length ≤ 900000) (hr : l ++ shortB n = r) (w : World) (hs : Sl w 1 l.length v (elB l)) :
    Calls Try.prog 141 #[v, .int .u64 (n : Int)] w (Ret fun v' w' => (∃ ap cp, v' = .slice ap r.length cp) ∧ w'.ownsRow w.heap.size 5 1 v' r.length (bv r) ∧ Below w.heap.size w w') := by
  subst hr; exact putshort_ok v l n hn hl w hs
theorem rshort_as (r : List Nat) (n : Nat) (hn : n < 18446744073709551616) (hr : shortB n = r) (w : World) :
    Calls Try.prog 142 #[.int .u64 (n : Int)] w (Ret fun v' w' => (∃ ap cp, v' = .slice ap r.length cp) ∧ w'.ownsRow w.heap.size 5 1 v' r.length (bv r) ∧ Below w.heap.size w w') := by
  subst hr; exact rshort_ok n hn w
theorem nil_sl (w : World) : Sl w 1 ([] : List Nat).length (.slice none 0 0) (elB []) := ⟨_, _, rfl, by simp [maxLen], fun h => absurd h (Nat.lt_irrefl _)⟩
/-- The Writer in block g holds the bytes l. -/
def WSt (B : Nat) (w0 w : World) (g : Nat) (l : List Nat) (L : List Res) : Prop := ∃ a c, St B w0 w (row 152 g #[.slice a l.length c] :: slc 5 1 (.slice a l.length c) l.length (bv l) :: L)
theorem WSt.mk {B : Nat} {w0 w : World} {g : Nat} {l : List Nat} {L : List Res} {a : Option Addr} {c : Nat} (H : St B w0 w (row 152 g #[.slice a l.length c] :: slc 5 1 (.slice a l.length c) l.length (bv l) :: L)) : WSt B w0 w g l L := ⟨a, c, H⟩
theorem St.two {B : Nat} {w0 w : World} {L L1 L2 : List Res} {r s : Res} (H : St B w0 w L) (h1 : Pull L r L1) (h2 : Pull L1 s L2) : St B w0 w (r :: s :: L2) := H.perm (h1.trans (h2.cons r))
theorem WSt.of {B : Nat} {w0 w : World} {g : Nat} {l : List Nat} {L L0 L1 L2 : List Res} {a : Option Addr} {c : Nat} (H : St B w0 w L0) (h1 : Pull L0 (row 152 g #[.slice a l.length c]) L1) (h2 : Pull L1 (slc 5 1 (.slice a l.length c) l.length (bv l)) L2) (h3 : L.Sublist L2) : WSt B w0 w g l L :=
  ⟨a, c, (H.two h1 h2).sub (.cons_cons _ (.cons_cons _ h3))⟩
set_option maxRecDepth 100000 in
theorem wnum_ok {B : Nat} {w0 : World} {L : List Res} (g : Nat) (l m : List Nat) (n : Nat) (hl : l.length ≤ 700000) (hn : n < 18446744073709551616) (hm : l ++ shortB n = m) (w : World) (H : WSt B w0 w g l L) :
    Calls Try.prog 127 #[.pointer (some ⟨g, 0, none⟩), .int .u64 (n : Int)] w (Ret fun v w' => v = .tuple #[] ∧ WSt B w0 w' g m L) := by
  obtain ⟨a, c, H⟩ := H
  have HM := Lib.hid hm
  clear hm
  go_enter Try.func127, Try.ntmps127
  go_wp2_with (first | (go_at_call 141; (with_reducible refine (putshort_as _ l m n hn (by omega) HM.out _ (own_sla (H.getSlc (xs := bv l) mE) (by omega))).mono ?_); rintro e w1 ⟨v, rfl, hr⟩; obtain ⟨⟨am, cm, rfl⟩, ho, hb1⟩ := hr; replace H := H.new hb1 (slc_sound ho) (fun g hg => (ho.lt g hg).1); clear hb1 ho) | (with_reducible refine wpl rfl (ldQ (ty := 37) rfl ?_); first | (with_reducible refine (Stp.ldo rfl agg37 rfl H (by assumption) (by assumption) ?_); simp only [pS]) | (with_reducible refine (Stp.ldc rfl agg37 rfl H mR cE ?_); simp only [pS])) | (with_reducible refine wpl rfl (stQ (ty := 37) rfl ?_); first | (with_reducible refine (Stp.stc rfl size37 rfl rfl rfl rfl H uP (by first | omega | (simp; done) | (simp; omega)) ?_); clear H; intro w1 H; simp only [pS]; simp only [pE, nC, pS] at H)))
  go_end0
  exact ⟨_, rfl, rfl, WSt.of H pU pU sU⟩
set_option maxRecDepth 100000 in
theorem wbytes_ok {B : Nat} {w0 : World} {L : List Res} (g : Nat) (l m b : List Nat) (v : Value) (hb : b.length ≤ 10000) (hl : l.length ≤ 700000) (hm : l ++ (shortB b.length ++ b) = m) (w : World) (H : WSt B w0 w g l L) (hs : Rd B w0 L fun W => Sl W 1 b.length v (elB b)) :
    Calls Try.prog 93 #[.pointer (some ⟨g, 0, none⟩), v] w (Ret fun v w' => v = .tuple #[] ∧ WSt B w0 w' g m L) := by
  obtain ⟨a, cc, H⟩ := H
  obtain ⟨ab, cb, rfl, hm9⟩ := (hs.at H (.cons _ (.cons _ (.refl _)))).len
  have w1r : IntKind.u64.wrap (b.length : Int) = (b.length : Int) := wrap_u64_in _ (by omega) (by omega)
  obtain ⟨q, hq⟩ : ∃ q, l ++ shortB b.length = q := ⟨_, rfl⟩
  have ql : q.length ≤ 700010 := by rw [← hq, List.length_append]; have := shortB_len b.length; omega
  have HQ := Lib.hid hq
  have HM2 : Hid (q ++ b = m) := Lib.hid (by rw [← hq, ← hm, List.append_assoc])
  have HML : Hid (q.length + b.length = m.length) := Lib.hid (by rw [← HM2.out, List.length_append])
  clear hq hm
  go_enter Try.func93, Try.ntmps93
  go_wp2_with (first | (go_at_call 127; (with_reducible refine (wnum_ok g l q b.length hl (by omega) HQ.out _ (WSt.of H pU pU (List.Sublist.refl _))).mono ?_); rintro e w1 ⟨v, rfl, hr⟩; obtain ⟨rfl, a1, c1, H1⟩ := hr; clear H; have H := H1; clear H1) | (with_reducible refine wpl rfl (dQ 17 rfl ?_); with_reducible refine (Stp.apps 17 rfl rfl Try.underlying37 info5 rfl (by decide) rfl rfl H (fun _ => uP) (by rw [bv_len, Nat.mul_one]) (hs.at H sU).src (bv_one b) (by unfold maxLen; omega) (by omega) ?_); clear H; intro a17 c17 w1 H; simp only [pS]; rw [bv_app, HM2.out, HML.out] at H; rw [HML.out]) | (with_reducible refine wpl rfl (ldQ (ty := 37) rfl ?_); first | (with_reducible refine (Stp.ldo rfl agg37 rfl H (by assumption) (by assumption) ?_); simp only [pS]) | (with_reducible refine (Stp.ldc rfl agg37 rfl H mR cE ?_); simp only [pS])) | (with_reducible refine wpl rfl (stQ (ty := 37) rfl ?_); first | (with_reducible refine (Stp.stc rfl size37 rfl rfl rfl rfl H uP (by first | omega | (simp; done) | (simp; omega)) ?_); clear H; intro w1 H; simp only [pS]; simp only [pE, nC, pS] at H)))
  go_end0
  exact ⟨_, rfl, rfl, WSt.of H pU pU sU⟩
set_option maxRecDepth 100000 in
theorem wdone_ok {B : Nat} {w0 : World} {L : List Res} (g : Nat) (l : List Nat) (hl : l.length ≤ 100000) (w : World) (H : WSt B w0 w g l L) :
    Calls Try.prog 94 #[.pointer (some ⟨g, 0, none⟩)] w (Ret fun v w' => (∃ ap cp, v = .slice ap l.length cp) ∧ w'.ownsRow w.heap.size 5 1 v l.length (bv l) ∧ Below w.heap.size w w') := by
  obtain ⟨a, c, H0⟩ := H
  have hrow := H0.getRow (t := 152) List.mem_cons_self
  have hown := H0.getSlc (List.mem_cons_of_mem _ List.mem_cons_self)
  have hc0 : w.cell? ⟨g, 0, none⟩ = some (.slice a l.length c) := by rw [cell_of_rowAt hrow]; rfl
  have hg : g < w.heap.size := rowAt_lt hrow
  have hs := own_sla hown (by omega)
  clear H0 hrow hown
  have H := St.init w
  go_enter Try.func94, Try.ntmps94
  go_wp2_with (first | (go_at_call 61; (with_reducible refine (clone_any _ l l.length rfl hl _ (hs.grow H.below)).mono ?_); rintro e w1 ⟨v, rfl, hr⟩; obtain ⟨⟨am, cm, rfl⟩, ho, hb1⟩ := hr; replace H := H.new hb1 (slc_sound ho) (fun g hg => (ho.lt g hg).1); clear hb1 ho) | (with_reducible refine wpl rfl (ldQ (ty := 37) rfl ?_); first | (with_reducible refine (Stp.ldo rfl agg37 rfl H (by assumption) (by assumption) ?_); simp only [pS]) | (with_reducible refine (Stp.ldc rfl agg37 rfl H mR cE ?_); simp only [pS])))
  go_ret
  exact ⟨_, rfl, ⟨_, _, rfl⟩, H.getSlc mE, H.below⟩
theorem rnum_ok (r : List Nat) (n : Nat) (hn : n < 18446744073709551616) (hr : shortB n = r) (w : World) :
    Calls Try.prog 128 #[.int .u64 (n : Int)] w (Ret fun v' w' => (∃ ap cp, v' = .slice ap r.length cp) ∧ w'.ownsRow w.heap.size 5 1 v' r.length (bv r) ∧ Below w.heap.size w w') := by
  have H := St.init w
  have HR := Lib.hid hr
  clear hr
  go_enter Try.func128, Try.ntmps128
  go_wp2_with (first | (go_at_call 142; (with_reducible refine (rshort_as r n hn HR.out _).mono ?_); rintro e w1 ⟨v, rfl, hr⟩; obtain ⟨⟨ar, cr, rfl⟩, ho, hb1⟩ := hr; replace H := H.new hb1 (slc_sound ho) (fun g hg => (ho.lt g hg).1); clear hb1 ho))
  go_ret
  exact ⟨_, rfl, ⟨_, _, rfl⟩, H.getSlc mE, H.below⟩
set_option maxRecDepth 100000 in
theorem rbytes_ok (b r : List Nat) (v : Value) (hb : b.length ≤ 10000) (hr : shortB b.length ++ b = r) (w : World) (hs : Sl w 1 b.length v (elB b)) :
    Calls Try.prog 95 #[v] w (Ret fun v' w' => (∃ ap cp, v' = .slice ap r.length cp) ∧ w'.ownsRow w.heap.size 5 1 v' r.length (bv r) ∧ Below w.heap.size w w') := by
  have H := St.init w
  have hs' := hs
  obtain ⟨ab, cb, rfl, hm9⟩ := hs'.len
  have w1r : IntKind.u64.wrap (b.length : Int) = (b.length : Int) := wrap_u64_in _ (by omega) (by omega)
  obtain ⟨x, hx⟩ : ∃ x, shortB b.length = x := ⟨_, rfl⟩
  have xl : x.length ≤ 10 := by rw [← hx]; exact shortB_len _
  rw [hx] at hr
  have HL : Hid (x.length + b.length = r.length) := Lib.hid (by rw [← hr, List.length_append])
  have HX := Lib.hid hx
  have HR := Lib.hid hr
  clear hx hr
  go_enter Try.func95, Try.ntmps95
  go_wp2_with (first | (go_at_call 128; (with_reducible refine (rnum_ok x b.length (by omega) HX.out _).mono ?_); rintro e w1 ⟨v, rfl, hr⟩; obtain ⟨⟨ax, cx, rfl⟩, ho, hb1⟩ := hr; replace H := H.new hb1 (slc_sound ho) (fun g hg => (ho.lt g hg).1); clear hb1 ho) | (with_reducible refine wpl rfl (dQ 8 rfl ?_); with_reducible refine (Stp.apps 8 rfl rfl Try.underlying37 info5 rfl (by decide) rfl rfl H (fun _ => uP) (by rw [bv_len, Nat.mul_one]) (hs.grow H.below).src (bv_one b) (by unfold maxLen; omega) (by omega) ?_); clear H; intro a8 c8 w1 H; simp only [pS]; rw [bv_app, HR.out, HL.out] at H; rw [HL.out]))
  go_ret
  exact ⟨_, rfl, ⟨_, _, rfl⟩, H.getSlc mE, H.below⟩
end Go.Proofs.Ytjghcmejmdllbaa

namespace Go.Proofs.Ytjghcmejmdllbaa
open Go.ChangeShapes Go.WideShapes Go.ChangeAt Go.RowKit
set_option linter.unusedVariables false
set_option linter.unusedSimpArgs false
/-- Block g holds the cells cs, whatever mark it has. -/
def rdo (t : TypeId) (g : Nat) (cs : Array Value) : Res := (fun k => some g = some k, fun w => ∃ f, w.heap[g]? = some (.cells cs t f))
theorem rdo_sound {w : World} {t : TypeId} {g : Nat} {cs : Array Value} {f : Nat × Nat} (h : w.heap[g]? = some (.cells cs t f)) : Sound (rdo t g cs) w :=
  ⟨⟨f, h⟩, fun k hk => by cases hk; exact (Array.getElem?_eq_some_iff.1 h).1, fun _ _ hb h1 => by obtain ⟨f, h1⟩ := h1; exact ⟨f, (hb g rfl).trans h1⟩⟩
theorem St.getRdo {B : Nat} {w0 w : World} {L : List Res} {t : TypeId} {g : Nat} {cs : Array Value} (H : St B w0 w L) (h : rdo t g cs ∈ L) : ∃ f, w.heap[g]? = some (.cells cs t f) := H.get h
theorem Sl.of_rdo {w : World} {g c size n : Nat} {t : TypeId} {cs : Array Value} {E : Nat → Array Value} (h : ∃ f, w.heap[g]? = some (.cells cs t f)) (hm : n ≤ maxLen) (hE : ∀ i, i < n → ∀ j, j < size → cs[i * size + j]? = (E i)[j]?) : Sl w size n (.slice (some ⟨g, 0, none⟩) n c) E := by
  obtain ⟨f, h⟩ := h
  refine ⟨_, _, rfl, hm, fun _ => ⟨g, 0, rfl, (Array.getElem?_eq_some_iff.1 h).1, fun i hi j hj => ?_⟩⟩
  rw [Nat.zero_add, ← hE i hi j hj]
  simp [World.cell?, h]
theorem freeze_heap {w : World} {g k : Nat} {t : TypeId} {cs : Array Value} (h : w.heap[g]? = some (.cells cs t (0, 0))) : (w.freeze ⟨g, k, none⟩ 1).heap[g]? = some (.cells cs t (k, k + 1)) := by
  unfold World.freeze
  rw [if_neg (by decide)]
  simp [Array.getElem?_modify, h]
theorem freeze_grown (w : World) (g k : Nat) : Grew (fun j => some g = some j) w (w.freeze ⟨g, k, none⟩ 1) := by
  unfold World.freeze
  rw [if_neg (by decide)]
  exact ⟨rfl, rfl, rfl, by simp, fun j _ hj => by
    have : g ≠ j := fun e => hj (by rw [e])
    simp [Array.getElem?_modify, this]⟩
theorem run_conv {P : Program} {w : World} {t e : TypeId} {g n c : Nat} {cs : Array Value} (ht : P.underlying t = some (.slice e)) (he : P.underlying e = some (.int .u8)) (h : w.heap[g]? = some (.cells cs e (0, 0))) :
    (convert t t (.slice (some ⟨g, 0, none⟩) n c)).run P w = .ok (.slice (some ⟨g, 0, none⟩) n c) (w.freeze ⟨g, cs.size, none⟩ 1) := by
  have hsh : w.shape? g = some (e, cs.size) := by unfold World.shape?; rw [h]
  simp [convert, run_underlying ht, run_underlying he, markStringish, hsh]
theorem Stp.conv {P : Program} {a : Act} {w : World} {o : Oper} {N : Act → World → Prop} {B : Nat} {w0 : World} {L L' : List Res} {t e : TypeId} {x : Operand} {g n c : Nat} {cs : Array Value} (d : Tmp) (hd : o.dst = some d) (ho : o.op = .convert t t x)
    (ht : P.underlying t = some (.slice e)) (he : P.underlying e = some (.int .u8)) (hx : a.eval x = .slice (some ⟨g, 0, none⟩) n c) (H : St B w0 w L) (hu : Upd L (row e g cs) (rdo e g cs) L')
    (h : ∀ w', St B w0 w' L' → N (a.put (some d) (.slice (some ⟨g, 0, none⟩) n c)) w') : Stp P o a w N := by
  rw [← hd] at h
  have hh := H.getHeap hu.mem
  refine ⟨w.freeze ⟨g, cs.size, none⟩ 1, .inl ⟨_, ?_, h _ ?_⟩⟩
  · unfold execOp; simp only [ho]
    simp [hx, run_conv ht he hh]
  · exact H.upd hu (freeze_grown w g cs.size) (rdo_sound (freeze_heap hh)) (fun k hk => .inl hk)
end Go.Proofs.Ytjghcmejmdllbaa

namespace Go.Proofs.Ytjghcmejmdllbaa
open Go.ChangeShapes Go.WideShapes Go.ChangeAt Go.RowKit
set_option linter.unusedVariables false
set_option linter.unusedSimpArgs false
/-- The bytes of a string. -/
def byL (s : ByteArray) : List Nat := s.data.toList.map fun b => b.toNat
theorem byL_len (s : ByteArray) : (byL s).length = s.size := by unfold byL; rw [List.length_map]; exact Array.length_toList
theorem byL_lt (s : ByteArray) : ∀ x ∈ byL s, x < 256 := fun x hx => by
  unfold byL at hx
  obtain ⟨b, _, rfl⟩ := List.mem_map.1 hx
  exact b.toNat_lt
theorem strOf_byL (s : ByteArray) : strOf (byL s) = s := by
  unfold strOf byL
  rw [List.map_map]
  have : (UInt8.ofNat ∘ fun b : UInt8 => b.toNat) = id := by funext b; simp
  rw [this]
  simp
theorem byL_strOf {l : List Nat} (h : ∀ x ∈ l, x < 256) : byL (strOf l) = l := by
  unfold strOf byL
  simp only [List.toList_toArray, List.map_map]
  conv => rhs; rw [← List.map_id l]
  exact List.map_congr_left fun x hx => by
    have := h x hx
    simp only [Function.comp, id]
    exact Nat.mod_eq_of_lt this
section
variable {a : Act} {w : World} {o : Oper} {N : Act → World → Prop} {B : Nat} {w0 : World} {L : List Res}
theorem Stp.s2b {x : Operand} {s : ByteArray} {l : List Nat} (d : Tmp) (hd : o.dst = some d) (ho : o.op = .convert 9 37 x) (hx : a.eval x = .string s) (hl : byL s = l) (hm : l.length ≤ maxLen) (H : St B w0 w L)
    (h : ∀ g c cs w', Hid (Rd B w0 [rdo 5 g cs] fun W => Sl W 1 l.length (.slice (some ⟨g, 0, none⟩) l.length c) (elB l)) → St B w0 w' (rdo 5 g cs :: L) → N (a.put (some d) (.slice (some ⟨g, 0, none⟩) l.length c)) w') : Stp Try.prog o a w N := by
  rw [← hd] at h
  have hsz : s.size = l.length := by rw [← hl, byL_len]
  have hr := run_bytes_of_string (P := Try.prog) w 9 37 5 s Try.underlying9 Try.underlying37 Try.underlying5
  rw [hsz] at hr
  obtain ⟨c, hc⟩ : ∃ c, grownCap w l.length 0 5 = c := ⟨_, rfl⟩
  rw [hc] at hr
  refine ⟨_, .inl ⟨_, ?_, h w.heap.size c (bytesRow s c) (w.drew.alloc (.cells (bytesRow s c) 5 ((bytesRow s c).size, (bytesRow s c).size + 1))) ?_ ?_⟩⟩
  · unfold execOp; simp only [ho]
    simp [hx, hr]
  · refine Lib.hid fun W hb hR => ?_
    refine Sl.of_rdo (hR _ List.mem_cons_self) hm fun i hi j hj => ?_
    obtain rfl : j = 0 := by omega
    have his : i < s.data.size := by have : s.data.size = l.length := hsz; omega
    rw [Nat.mul_one, Nat.add_zero]
    unfold bytesRow
    rw [Array.getElem?_append_left (by rw [Array.size_map]; exact his), Array.getElem?_map, Array.getElem?_eq_getElem his]
    subst hl
    have : (byL s).getD i 0 = (s.data[i]'his).toNat := by
      unfold byL
      rw [List.getD_eq_getElem?_getD, List.getElem?_map, Array.getElem?_toList, Array.getElem?_eq_getElem his]
      rfl
    unfold elB
    rw [this]
    rfl
  · refine H.new ((Below.refl _ _).drew.alloc (Nat.le_refl _) _) (rdo_sound (f := ((bytesRow s c).size, (bytesRow s c).size + 1)) ?_) (fun g hg => by cases hg; exact Nat.le_refl _)
    exact heap_alloc_new w.drew _
end
end Go.Proofs.Ytjghcmejmdllbaa
