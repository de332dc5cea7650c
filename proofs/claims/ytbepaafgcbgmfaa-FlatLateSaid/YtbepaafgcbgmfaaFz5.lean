/- Contracts of layers 8's and 9's Same (view, cmd); no condition. Regions that draw their order and end in a store: a condition on the world that must hold up to operation k alone; no condition. Contracts of slices.Clone over processes, and of layers 8's and 9's Copy (view, cmd): what is copied lies on new blocks; the bounds stand in each. The contract of layer 9's Copy (cmd): what is copied lies on new blocks; the bounds stand in it. Processes and their ids as keys of maps; which stand first, which rise; no condition. -/
import Derived.Test.YtbepaafgcbgmfaaFz4
import Derived.Test.YtbepaafgcbgmfaaFz1
namespace Go.Proofs.Ytbepaafgcbgmfaa
open Go.ChangeShapes Go.WideShapes Go.ChangeAt Go.RowKit Go.Maps
set_option linter.unusedVariables false
set_option linter.unusedSimpArgs false
theorem eqPD_is (a b c d : Nat) (e : Bool) (h : decide ((a, b) = (c, d)) = e) (w : World) : (Op.equalIn 10000 27 (.agg #[.int .u16 (a : Int), .int .u32 (b : Int)]) (.agg #[.int .u16 (c : Int), .int .u32 (d : Int)])).run Try.prog w = .ok e w := by
  cases e
  · exact eqPD_no a b c d (of_decide_eq_false h) w
  · have := of_decide_eq_true h
    have e1 : a = c := congrArg Prod.fst this
    have e2 : b = d := congrArg Prod.snd this
    rw [e1, e2]
    exact eqPD_yes c d w
set_option maxRecDepth 100000 in
set_option maxHeartbeats 2000000 in
theorem vsame_ok {G1 G2 : Nat → Prop} (x y : Vw) (ma la da mb lb db : Option Addr) (mc lc dc md ld dd : Nat) (w : World)
    (hx : VwG G1 w (.slice ma x.mem.length mc) (.slice la x.lvs.length lc) (.slice da x.ldr.length dc) x) (hy : VwG G2 w (.slice mb y.mem.length md) (.slice lb y.lvs.length ld) (.slice db y.ldr.length dd) y) :
    Calls Try.prog 35 #[.agg (vwC x ma la da mc lc dc), .agg (vwC y mb lb db md ld dd)] w (Ret fun v w' => v = .bool (vSame x y) ∧ Below w.heap.size w w') := by
  have H := St.init w
  simp only [vwC]
  obtain ⟨hx1, hx2, hx3⟩ := hx
  obtain ⟨hy1, hy2, hy3⟩ := hy
  by_cases g0 : x.id = y.id
  · have iN : ((x.id : Int) == (y.id : Int)) = true := by simp [g0]
    by_cases g1 : x.mem = y.mem
    · have E1 := Lib.hid (decide_eq_true g1)
      by_cases g2 : x.lvs = y.lvs
      · have E2 := Lib.hid (decide_eq_true g2)
        by_cases g3 : x.ldr = y.ldr
        · have E3 := Lib.hid (decide_eq_true g3)
          have HV : Hid (vSame x y = true) := Lib.hid (by simp [vSame, g0, g1, g2, g3])
          clear g0 g1 g2 g3
          go_enter Try.func35, Try.ntmps35
          go_wp2_with (first | (go_at_call 49; (first | ((with_reducible refine (peq_ok _ _ x.mem y.mem _ (hx1.sl.grow H.below) (hy1.sl.grow H.below)).mono ?_); rintro e w1 ⟨v, rfl, hr⟩; obtain ⟨rfl, hb1⟩ := hr; replace H := H.grow hb1; clear hb1; rw [E1.out]) | ((with_reducible refine (peq_ok _ _ x.ldr y.ldr _ (hx3.sl.grow H.below) (hy3.sl.grow H.below)).mono ?_); rintro e w1 ⟨v, rfl, hr⟩; obtain ⟨rfl, hb1⟩ := hr; replace H := H.grow hb1; clear hb1; rw [E3.out]))) | (go_at_call 50; (with_reducible refine (lveq_ok _ _ x.lvs y.lvs _ (hx2.grow H.below) (hy2.grow H.below)).mono ?_); rintro e w1 ⟨v, rfl, hr⟩; obtain ⟨rfl, hb1⟩ := hr; replace H := H.grow hb1; clear hb1; rw [E2.out]) | (with_reducible refine wpl rfl (dQ 2 rfl ?_); with_reducible refine (Stp.box 2 rfl rfl rfl H ?_); clear H; intro g2 w1 H; simp only [pS]; simp only [pE, nC, pS] at H) | (with_reducible refine wpl rfl (dQ 3 rfl ?_); with_reducible refine (Stp.box 3 rfl rfl rfl H ?_); clear H; intro g3 w1 H; simp only [pS]; simp only [pE, nC, pS] at H) | (with_reducible refine wpl rfl (ldQ (ty := 37) rfl ?_); first | (with_reducible refine (Stp.ldo rfl agg37 rfl H (by assumption) (by assumption) ?_); simp only [pS]) | (with_reducible refine (Stp.ldc rfl agg37 rfl H mR cE ?_); simp only [pS])) | (with_reducible refine wpl rfl (ldQ (ty := 38) rfl ?_); first | (with_reducible refine (Stp.ldo rfl agg38 rfl H (by assumption) (by assumption) ?_); simp only [pS]) | (with_reducible refine (Stp.ldc rfl agg38 rfl H mR cE ?_); simp only [pS])) | (with_reducible refine wpl rfl (ldQ (ty := 39) rfl ?_); first | (with_reducible refine (Stp.ldo rfl agg39 rfl H (by assumption) (by assumption) ?_); simp only [pS]) | (with_reducible refine (Stp.ldc rfl agg39 rfl H mR cE ?_); simp only [pS])))
          go_ret
          exact ⟨_, rfl, by rw [HV.out]; rfl, H.below⟩
        · have E3 := Lib.hid (decide_eq_false g3)
          have HV : Hid (vSame x y = false) := Lib.hid (by simp [vSame, g0, g1, g2, g3])
          clear g0 g1 g2 g3
          go_enter Try.func35, Try.ntmps35
          go_wp2_with (first | (go_at_call 49; (first | ((with_reducible refine (peq_ok _ _ x.mem y.mem _ (hx1.sl.grow H.below) (hy1.sl.grow H.below)).mono ?_); rintro e w1 ⟨v, rfl, hr⟩; obtain ⟨rfl, hb1⟩ := hr; replace H := H.grow hb1; clear hb1; rw [E1.out]) | ((with_reducible refine (peq_ok _ _ x.ldr y.ldr _ (hx3.sl.grow H.below) (hy3.sl.grow H.below)).mono ?_); rintro e w1 ⟨v, rfl, hr⟩; obtain ⟨rfl, hb1⟩ := hr; replace H := H.grow hb1; clear hb1; rw [E3.out]))) | (go_at_call 50; (with_reducible refine (lveq_ok _ _ x.lvs y.lvs _ (hx2.grow H.below) (hy2.grow H.below)).mono ?_); rintro e w1 ⟨v, rfl, hr⟩; obtain ⟨rfl, hb1⟩ := hr; replace H := H.grow hb1; clear hb1; rw [E2.out]) | (with_reducible refine wpl rfl (dQ 2 rfl ?_); with_reducible refine (Stp.box 2 rfl rfl rfl H ?_); clear H; intro g2 w1 H; simp only [pS]; simp only [pE, nC, pS] at H) | (with_reducible refine wpl rfl (dQ 3 rfl ?_); with_reducible refine (Stp.box 3 rfl rfl rfl H ?_); clear H; intro g3 w1 H; simp only [pS]; simp only [pE, nC, pS] at H) | (with_reducible refine wpl rfl (ldQ (ty := 37) rfl ?_); first | (with_reducible refine (Stp.ldo rfl agg37 rfl H (by assumption) (by assumption) ?_); simp only [pS]) | (with_reducible refine (Stp.ldc rfl agg37 rfl H mR cE ?_); simp only [pS])) | (with_reducible refine wpl rfl (ldQ (ty := 38) rfl ?_); first | (with_reducible refine (Stp.ldo rfl agg38 rfl H (by assumption) (by assumption) ?_); simp only [pS]) | (with_reducible refine (Stp.ldc rfl agg38 rfl H mR cE ?_); simp only [pS])) | (with_reducible refine wpl rfl (ldQ (ty := 39) rfl ?_); first | (with_reducible refine (Stp.ldo rfl agg39 rfl H (by assumption) (by assumption) ?_); simp only [pS]) | (with_reducible refine (Stp.ldc rfl agg39 rfl H mR cE ?_); simp only [pS])))
          go_ret
          exact ⟨_, rfl, by rw [HV.out]; rfl, H.below⟩
      · have E2 := Lib.hid (decide_eq_false g2)
        have HV : Hid (vSame x y = false) := Lib.hid (by simp [vSame, g0, g1, g2])
        clear g0 g1 g2
        go_enter Try.func35, Try.ntmps35
        go_wp2_with (first | (go_at_call 49; (first | ((with_reducible refine (peq_ok _ _ x.mem y.mem _ (hx1.sl.grow H.below) (hy1.sl.grow H.below)).mono ?_); rintro e w1 ⟨v, rfl, hr⟩; obtain ⟨rfl, hb1⟩ := hr; replace H := H.grow hb1; clear hb1; rw [E1.out]) | ((with_reducible refine (peq_ok _ _ x.ldr y.ldr _ (hx3.sl.grow H.below) (hy3.sl.grow H.below)).mono ?_); rintro e w1 ⟨v, rfl, hr⟩; obtain ⟨rfl, hb1⟩ := hr; replace H := H.grow hb1; clear hb1; rw [E3.out]))) | (go_at_call 50; (with_reducible refine (lveq_ok _ _ x.lvs y.lvs _ (hx2.grow H.below) (hy2.grow H.below)).mono ?_); rintro e w1 ⟨v, rfl, hr⟩; obtain ⟨rfl, hb1⟩ := hr; replace H := H.grow hb1; clear hb1; rw [E2.out]) | (with_reducible refine wpl rfl (dQ 2 rfl ?_); with_reducible refine (Stp.box 2 rfl rfl rfl H ?_); clear H; intro g2 w1 H; simp only [pS]; simp only [pE, nC, pS] at H) | (with_reducible refine wpl rfl (dQ 3 rfl ?_); with_reducible refine (Stp.box 3 rfl rfl rfl H ?_); clear H; intro g3 w1 H; simp only [pS]; simp only [pE, nC, pS] at H) | (with_reducible refine wpl rfl (ldQ (ty := 37) rfl ?_); first | (with_reducible refine (Stp.ldo rfl agg37 rfl H (by assumption) (by assumption) ?_); simp only [pS]) | (with_reducible refine (Stp.ldc rfl agg37 rfl H mR cE ?_); simp only [pS])) | (with_reducible refine wpl rfl (ldQ (ty := 38) rfl ?_); first | (with_reducible refine (Stp.ldo rfl agg38 rfl H (by assumption) (by assumption) ?_); simp only [pS]) | (with_reducible refine (Stp.ldc rfl agg38 rfl H mR cE ?_); simp only [pS])) | (with_reducible refine wpl rfl (ldQ (ty := 39) rfl ?_); first | (with_reducible refine (Stp.ldo rfl agg39 rfl H (by assumption) (by assumption) ?_); simp only [pS]) | (with_reducible refine (Stp.ldc rfl agg39 rfl H mR cE ?_); simp only [pS])))
        go_ret
        exact ⟨_, rfl, by rw [HV.out]; rfl, H.below⟩
    · have E1 := Lib.hid (decide_eq_false g1)
      have HV : Hid (vSame x y = false) := Lib.hid (by simp [vSame, g0, g1])
      clear g0 g1
      go_enter Try.func35, Try.ntmps35
      go_wp2_with (first | (go_at_call 49; (first | ((with_reducible refine (peq_ok _ _ x.mem y.mem _ (hx1.sl.grow H.below) (hy1.sl.grow H.below)).mono ?_); rintro e w1 ⟨v, rfl, hr⟩; obtain ⟨rfl, hb1⟩ := hr; replace H := H.grow hb1; clear hb1; rw [E1.out]) | ((with_reducible refine (peq_ok _ _ x.ldr y.ldr _ (hx3.sl.grow H.below) (hy3.sl.grow H.below)).mono ?_); rintro e w1 ⟨v, rfl, hr⟩; obtain ⟨rfl, hb1⟩ := hr; replace H := H.grow hb1; clear hb1; rw [E3.out]))) | (go_at_call 50; (with_reducible refine (lveq_ok _ _ x.lvs y.lvs _ (hx2.grow H.below) (hy2.grow H.below)).mono ?_); rintro e w1 ⟨v, rfl, hr⟩; obtain ⟨rfl, hb1⟩ := hr; replace H := H.grow hb1; clear hb1; rw [E2.out]) | (with_reducible refine wpl rfl (dQ 2 rfl ?_); with_reducible refine (Stp.box 2 rfl rfl rfl H ?_); clear H; intro g2 w1 H; simp only [pS]; simp only [pE, nC, pS] at H) | (with_reducible refine wpl rfl (dQ 3 rfl ?_); with_reducible refine (Stp.box 3 rfl rfl rfl H ?_); clear H; intro g3 w1 H; simp only [pS]; simp only [pE, nC, pS] at H) | (with_reducible refine wpl rfl (ldQ (ty := 37) rfl ?_); first | (with_reducible refine (Stp.ldo rfl agg37 rfl H (by assumption) (by assumption) ?_); simp only [pS]) | (with_reducible refine (Stp.ldc rfl agg37 rfl H mR cE ?_); simp only [pS])) | (with_reducible refine wpl rfl (ldQ (ty := 38) rfl ?_); first | (with_reducible refine (Stp.ldo rfl agg38 rfl H (by assumption) (by assumption) ?_); simp only [pS]) | (with_reducible refine (Stp.ldc rfl agg38 rfl H mR cE ?_); simp only [pS])) | (with_reducible refine wpl rfl (ldQ (ty := 39) rfl ?_); first | (with_reducible refine (Stp.ldo rfl agg39 rfl H (by assumption) (by assumption) ?_); simp only [pS]) | (with_reducible refine (Stp.ldc rfl agg39 rfl H mR cE ?_); simp only [pS])))
      go_ret
      exact ⟨_, rfl, by rw [HV.out]; rfl, H.below⟩
  · have iN : ((x.id : Int) == (y.id : Int)) = false := by simp; omega
    have HV : Hid (vSame x y = false) := Lib.hid (by simp [vSame, g0])
    clear g0
    go_enter Try.func35, Try.ntmps35
    go_wp2_with (first | (go_at_call 49; (first | ((with_reducible refine (peq_ok _ _ x.mem y.mem _ (hx1.sl.grow H.below) (hy1.sl.grow H.below)).mono ?_); rintro e w1 ⟨v, rfl, hr⟩; obtain ⟨rfl, hb1⟩ := hr; replace H := H.grow hb1; clear hb1; rw [E1.out]) | ((with_reducible refine (peq_ok _ _ x.ldr y.ldr _ (hx3.sl.grow H.below) (hy3.sl.grow H.below)).mono ?_); rintro e w1 ⟨v, rfl, hr⟩; obtain ⟨rfl, hb1⟩ := hr; replace H := H.grow hb1; clear hb1; rw [E3.out]))) | (go_at_call 50; (with_reducible refine (lveq_ok _ _ x.lvs y.lvs _ (hx2.grow H.below) (hy2.grow H.below)).mono ?_); rintro e w1 ⟨v, rfl, hr⟩; obtain ⟨rfl, hb1⟩ := hr; replace H := H.grow hb1; clear hb1; rw [E2.out]) | (with_reducible refine wpl rfl (dQ 2 rfl ?_); with_reducible refine (Stp.box 2 rfl rfl rfl H ?_); clear H; intro g2 w1 H; simp only [pS]; simp only [pE, nC, pS] at H) | (with_reducible refine wpl rfl (dQ 3 rfl ?_); with_reducible refine (Stp.box 3 rfl rfl rfl H ?_); clear H; intro g3 w1 H; simp only [pS]; simp only [pE, nC, pS] at H) | (with_reducible refine wpl rfl (ldQ (ty := 37) rfl ?_); first | (with_reducible refine (Stp.ldo rfl agg37 rfl H (by assumption) (by assumption) ?_); simp only [pS]) | (with_reducible refine (Stp.ldc rfl agg37 rfl H mR cE ?_); simp only [pS])) | (with_reducible refine wpl rfl (ldQ (ty := 38) rfl ?_); first | (with_reducible refine (Stp.ldo rfl agg38 rfl H (by assumption) (by assumption) ?_); simp only [pS]) | (with_reducible refine (Stp.ldc rfl agg38 rfl H mR cE ?_); simp only [pS])) | (with_reducible refine wpl rfl (ldQ (ty := 39) rfl ?_); first | (with_reducible refine (Stp.ldo rfl agg39 rfl H (by assumption) (by assumption) ?_); simp only [pS]) | (with_reducible refine (Stp.ldc rfl agg39 rfl H mR cE ?_); simp only [pS])))
    go_ret
    exact ⟨_, rfl, by rw [HV.out]; rfl, H.below⟩
theorem bequal_is (va vb : Value) (la lb : List Nat) (hxa : ∀ x ∈ la, x < 256) (hxb : ∀ x ∈ lb, x < 256) (w : World) (e : Bool) (ha : Sl w 1 la.length va (elB la)) (hb : Sl w 1 lb.length vb (elB lb)) (he : decide (la = lb) = e) :
    Calls Try.prog 34 #[va, vb] w (Ret fun v w' => v = .bool e ∧ Below w.heap.size w w') := by
  have := bequal_ok va vb la lb hxa hxb w ha hb
  have h2 : (la == lb) = e := by rw [← he]; rw [Bool.eq_iff_iff]; simp
  rw [h2] at this
  exact this
theorem vsame_is {G1 G2 : Nat → Prop} (x y : Vw) (ma la da mb lb db : Option Addr) (mc lc dc md ld dd : Nat) (w : World) (e : Bool)
    (hx : VwG G1 w (.slice ma x.mem.length mc) (.slice la x.lvs.length lc) (.slice da x.ldr.length dc) x) (hy : VwG G2 w (.slice mb y.mem.length md) (.slice lb y.lvs.length ld) (.slice db y.ldr.length dd) y) (he : vSame x y = e) :
    Calls Try.prog 35 #[.agg (vwC x ma la da mc lc dc), .agg (vwC y mb lb db md ld dd)] w (Ret fun v w' => v = .bool e ∧ Below w.heap.size w w') := by
  have := vsame_ok x y ma la da mb lb db mc lc dc md ld dd w hx hy
  rw [he] at this
  exact this
end Go.Proofs.Ytbepaafgcbgmfaa

namespace Go.Proofs.Ytbepaafgcbgmfaa
open Go.ChangeShapes Go.WideShapes Go.ChangeAt Go.RowKit
set_option linter.unusedVariables false
set_option linter.unusedSimpArgs false
section
variable {P : Program} {ops : Array Oper} {Q : Exit → Act → World → Prop} {S : World → Prop} {k : Nat} {a : Act} {w : World}
/-- Whatever order is picked, and S holds as long as number k has not come up. -/
def Kept (P : Program) (ops : Array Oper) (Q : Exit → Act → World → Prop) (S : World → Prop) (k : Nat) : Nat → Array Bool → Act → World → Prop
  | 0, l, a, w => Region.ready .any ops l = [] ∧ Q .normal a w
  | n + 1, l, a, w => (Region.ready .any ops l = [] → Q .normal a w) ∧
      ∀ i ∈ Region.ready .any ops l, wpOp P ops Q i (fun a' w' => ((l.setIfInBounds i true).getD k true = false → S w') ∧ Kept P ops Q S k n (l.setIfInBounds i true) a' w') a w
theorem Kept.any : ∀ (n : Nat) (l : Array Bool) (a : Act) (w : World), Kept P ops Q S k n l a w → wpAny P .any ops Q n l a w
  | 0, _, _, _, h => h
  | n + 1, _, _, _, h => ⟨h.1, fun i hi => wpOp_mono (fun _ _ h' => Kept.any n _ _ _ h'.2) (h.2 i hi)⟩
/-- What T says of i's value: T is S, and i comes ahead of k; or T asks nothing. -/
theorem Kept.first {T : World → Prop} {J : Array Bool → Prop} {i : Nat} {oi : Oper} {v : Value} (hi : ops[i]? = some oi) (hik : i ≠ k) (hsel : ∀ (j : Nat) (o : Oper) cs b, ops[j]? = some o → o.op ≠ .select cs b)
    (hQ : ∀ c a w, Q (.panic c) (a.put oi.dst v) w → Q (.panic c) a w)
    (hT : ∀ (l : Array Bool) (w : World), J l → (l.getD k true = false → S w) → T w) (hJ : ∀ (l : Array Bool) (j : Nat), J l → i ∈ Region.ready .any ops l → j ∈ Region.ready .any ops l → j ≠ i → J (l.setIfInBounds j true)) :
    ∀ (n : Nat) (l : Array Bool) (a : Act) (w : World),
      (∀ j oj, ops[j]? = some oj → j ≠ i → l.getD j true = false → (∀ e ∈ oj.after, Region.binds .any e = true → e.on ≠ i) → oi.apart ops oj = true) →
      i ∈ Region.ready .any ops l → J l → YieldsIf P ops T oi v a → (l.getD k true = false → S w) →
      Kept P ops Q S k n (l.setIfInBounds i true) (a.put oi.dst v) w → Kept P ops Q S k (n + 1) l a w := by
  have self : ∀ (n : Nat) (l : Array Bool) (a : Act) (w : World), J l → YieldsIf P ops T oi v a → (l.getD k true = false → S w) → Kept P ops Q S k n (l.setIfInBounds i true) (a.put oi.dst v) w →
      wpOp P ops Q i (fun a' w' => ((l.setIfInBounds i true).getD k true = false → S w') ∧ Kept P ops Q S k n (l.setIfInBounds i true) a' w') a w := by
    intro n l a w hj0 hy hS H
    refine hy.wpOp hi (hT l w hj0 hS) ⟨fun h => hS ?_, H⟩
    rw [getD_set_ne true hik] at h; exact h
  intro n
  induction n with
  | zero =>
    intro l a w _ hr hj0 hy hS H
    refine ⟨fun h => (by rw [h] at hr; cases hr), fun j hj => ?_⟩
    by_cases hji : j = i
    · subst hji; exact self 0 l a w hj0 hy hS H
    · have := ready_mono hj hji
      rw [H.1] at this
      cases this
  | succ n ih =>
    intro l a w hfree hr hj0 hy hS H
    refine ⟨fun h => (by rw [h] at hr; cases hr), fun j hj => ?_⟩
    by_cases hji : j = i
    · subst hji; exact self (n + 1) l a w hj0 hy hS H
    · obtain ⟨hun, oj, hoj, hall⟩ := mem_ready.1 hj
      have hnot : ∀ e ∈ oj.after, Region.binds .any e = true → e.on ≠ i := fun e he hb heq => by
        have h1 := hall e he hb
        have h0 := (mem_ready.1 hr).1
        rw [heq] at h1
        rcases Nat.lt_or_ge i l.size with h' | h'
        · simp [h'] at h0 h1; rw [h0] at h1; cases h1
        · simp [Array.getElem?_eq_none h'] at h1
      have step := wpOp_putIf hoj (hfree j oj hoj hji hun hnot) (fun cs b => hsel i oi cs b hi) (fun cs b => hsel j oj cs b hoj) hQ hy (H.2 j (ready_mono hj hji))
      refine wpOp_mono (fun a' w' hp => ?_) step
      obtain ⟨hy', hS', hK⟩ := hp
      have hS2 : (l.setIfInBounds j true).getD k true = false → S w' := fun h => hS' (by
        rw [Array.setIfInBounds_comm _ _ (Ne.symm hji), getD_set_ne true hik]; exact h)
      refine ⟨hS2, ih _ a' w' (fun m om hm hmi hmun hno => hfree m om hm hmi ?_ hno) (ready_mono hr (Ne.symm hji)) (hJ l j hj0 hr hj hji) hy' hS2 ?_⟩
      · by_cases hjm : j = m
        · subst hjm; exact hun
        · rw [getD_set_ne true hjm] at hmun; exact hmun
      · rw [Array.setIfInBounds_comm _ _ hji]
        exact hK
/-- A condition that ends with k, for the walk: S holds if k has not come up. -/
theorem rk_begin {id : Nat} (k n : Nat) (S : World → Prop) (hn : ops.size = n) (hm : P.follows .mixedOrders = true) (h : Kept P ops (NoPanic Q) S k n (Array.replicate n false) a w.drew) : (Code.region id ops true).wp P Q a w := by
  subst hn; exact wp_region_noPanic (wp_region_any hm (Kept.any _ _ _ _ h))
variable {l : List Oper} {i : Nat} {oi o : Oper} {v : Value} {fuel : Nat} {listed : Array Bool}
/-- Number i's value hangs on S, and i comes ahead of k. -/
theorem rk_take (hi : l[i]? = some oi) (hs : Region.noSelect l.toArray = true) (hf : Region.free .any l.toArray listed i = true) (hr : (Region.ready .any l.toArray listed).contains i = true)
    (hk : (l[k]?.map fun o => o.after.any fun e => Region.binds .any e && e.on == i) = some true) (hki : (k == i) = false) (hl : listed.getD k true = false)
    (hy : YieldsIf P l.toArray S oi v a) (hS : S w) (h : Kept P l.toArray (NoPanic Q) S k fuel (listed.setIfInBounds i true) (a.put oi.dst v) w) : Kept P l.toArray (NoPanic Q) S k (fuel + 1) listed a w := by
  have hik : i ≠ k := fun e => by subst e; simp at hki
  refine Kept.first (T := S) (J := fun l => l.getD k true = false) (by simpa using hi) hik (Region.noSelect_spec hs) (fun _ _ _ h => h) (fun l' w' hj hS' => hS' hj) (fun l' j hj hri hrj hji => ?_) fuel listed a w (Region.free_spec (by simpa using hi) hf) (by simpa using hr) hl hy (fun _ => hS) h
  have hjk : j ≠ k := by
    rintro rfl
    obtain ⟨_, ok, hok, hall⟩ := mem_ready.1 hrj
    have hok' : l[j]? = some ok := by simpa using hok
    rw [hok'] at hk
    simp only [Option.map_some, Option.some.injEq, List.any_eq_true, Array.any_eq_true', Bool.and_eq_true, beq_iff_eq] at hk
    obtain ⟨e, he, hb, hon⟩ := hk
    have h1 := hall e he hb
    have h0 := (mem_ready.1 hri).1
    rw [hon] at h1
    rcases Nat.lt_or_ge i l'.size with h' | h'
    · simp [h'] at h0 h1; rw [h0] at h1; cases h1
    · simp [Array.getElem?_eq_none h'] at h1
  rw [getD_set_ne true hjk]; exact hj
/-- Number i's value hangs on nothing. -/
theorem rk_free (hi : l[i]? = some oi) (hs : Region.noSelect l.toArray = true) (hf : Region.free .any l.toArray listed i = true) (hr : (Region.ready .any l.toArray listed).contains i = true) (hki : (k == i) = false)
    (hy : YieldsIf P l.toArray (fun _ => True) oi v a) (hS : listed.getD k true = false → S w) (h : Kept P l.toArray (NoPanic Q) S k fuel (listed.setIfInBounds i true) (a.put oi.dst v) w) : Kept P l.toArray (NoPanic Q) S k (fuel + 1) listed a w := by
  have hik : i ≠ k := fun e => by subst e; simp at hki
  exact Kept.first (T := fun _ => True) (J := fun _ => True) (by simpa using hi) hik (Region.noSelect_spec hs) (fun _ _ _ h => h) (fun _ _ _ _ => trivial) (fun _ _ _ _ _ _ => trivial) fuel listed a w (Region.free_spec (by simpa using hi) hf) (by simpa using hr) trivial hy hS h
theorem rk_one (hr : Region.ready .any l.toArray listed = [i]) (ho : l[i]? = some o) (hw : Region.wanted o (yielded l.toArray a.tmps) = true)
    (h : ∀ K : Act → World → Prop, Shut (∀ a w, ((listed.setIfInBounds i true).getD k true = false → S w) → Kept P l.toArray (NoPanic Q) S k fuel (listed.setIfInBounds i true) a w → K a w) → Oper.wp P o a w K (NoPanic Q)) : Kept P l.toArray (NoPanic Q) S k (fuel + 1) listed a w := by
  unfold Kept
  refine ⟨fun h0 => (by rw [hr] at h0; cases h0), fun j hj => ?_⟩
  rw [hr] at hj
  obtain rfl := List.mem_singleton.1 hj
  unfold wpOp
  have ho' : l.toArray[j]? = some o := by simpa using ho
  rw [ho']
  simp only [hw, if_true]
  exact .inl (h _ (fun a w hS hK => ⟨hS, hK⟩))
theorem rk_done (hr : Region.ready .any ops listed = []) (h : Q .normal a w) : Kept P ops (NoPanic Q) S k fuel listed a w := by
  cases fuel with
  | zero => exact ⟨hr, NoPanic.normal h⟩
  | succ n => exact ⟨fun _ => NoPanic.normal h, by rw [hr]; simp⟩
end
end Go.Proofs.Ytbepaafgcbgmfaa

namespace Go.Proofs.Ytbepaafgcbgmfaa
open Go.ChangeShapes Go.WideShapes Go.ChangeAt Go.RowKit Go.Maps
set_option linter.unusedVariables false
set_option linter.unusedSimpArgs false
/-- What a resource says, said otherwise. -/
theorem St.conv {B : Nat} {w0 w : World} {L : List Res} {r r' : Res} (H : St B w0 w (r :: L)) (hb : ∀ g, r'.1 g → r.1 g) (hs : Sound r w → Sound r' w) : St B w0 w (r' :: L) := by
  obtain ⟨ha, hp⟩ := List.pairwise_cons.1 H.apart
  refine ⟨H.below, H.size, ?_, ?_, List.pairwise_cons.2 ⟨fun s hs g hg => ha s hs g (hb g hg), hp⟩⟩
  · intro x hx
    rcases List.mem_cons.1 hx with rfl | hx
    · exact hs (H.sound r List.mem_cons_self)
    · exact H.sound x (List.mem_cons_of_mem _ hx)
  · intro x hx g hg
    rcases List.mem_cons.1 hx with rfl | hx
    · exact H.base r List.mem_cons_self g (hb g hg)
    · exact H.base x (List.mem_cons_of_mem _ hx) g hg
theorem nil_ps (a : Option Addr) (n c : Nat) (w : World) : (binOp .eql 38 (.slice a n c) (.slice none 0 0)).run Try.prog w = .ok (.bool a.isNone) w := Lib.run_eql_slice_nil w 38 27 a n c 0 0 Try.underlying38
theorem SlG.of_pv {w : World} {b : Nat} {v : Value} {l : List Pr} (h : w.ownsRow b 27 2 v l.length (pv l)) (hl : l.length ≤ 100000) : SlG (fun g => v.ownBlock = some g) w 2 l.length v (elQ l) :=
  SlG.of_own h (fun i hi j hj => pv_get l i hi j hj) (by unfold maxLen; omega)
theorem Sl.srcN {w : World} {size n : Nat} {a : Option Addr} {c : Nat} {E : Nat → Array Value} {xs : List Value} (h : Sl w size n (.slice a n c) E) (hx : ∀ i, i < n → ∀ j, j < size → xs[i * size + j]? = (E i)[j]?) (hl : xs.length = n * size) (hs : 0 < size) : 0 < n → ∃ ad, a = some ad ∧ ∀ j u, xs[j]? = some u → w.cell? (ad.add j) = some u := fun h0 => by
  obtain ⟨a', c', e, hm, hE⟩ := h
  obtain ⟨b, off, e2, hb, hc⟩ := hE h0
  injection e with e _ _
  refine ⟨_, e.trans e2, fun j u hj => ?_⟩
  have hjl : j < n * size := by
    rcases Nat.lt_or_ge j (n * size) with h | h
    · exact h
    · rw [List.getElem?_eq_none (by omega)] at hj; cases hj
  have hq : j / size < n := Nat.div_lt_of_lt_mul (by rw [Nat.mul_comm]; exact hjl)
  have hr := Nat.mod_lt j hs
  have hd : j / size * size + j % size = j := by rw [Nat.mul_comm]; exact Nat.div_add_mod j size
  have h1 := hc (j / size) hq (j % size) hr
  have h2 := hx (j / size) hq (j % size) hr
  rw [hd] at h2
  rw [show off + j / size * size + j % size = off + j by omega] at h1
  have hadd : (⟨b, off, none⟩ : Addr).add j = ⟨b, off + j, none⟩ := by unfold Addr.add; split <;> simp_all
  rw [hadd, h1, ← h2, hj]
theorem pv_one (l : List Pr) : ∀ u ∈ pv l, u.oneCell' = true := by
  intro u hu
  unfold pv at hu
  obtain ⟨p, _, hu⟩ := List.mem_flatMap.1 hu
  simp only [List.mem_cons, List.not_mem_nil, or_false] at hu
  rcases hu with rfl | rfl <;> rfl
/-- Copies of the first k leaves. -/
def lvr (G : Nat → Prop) (hd : Nat → Value) (ls : List (List Pr)) (k : Nat) : Res := (fun g => G g, fun w => ∀ i, i < k → SlG G w 2 (ls.getD i []).length (hd i) (elQ (ls.getD i [])))
theorem lvr_loc (G : Nat → Prop) (hd : Nat → Value) (ls : List (List Pr)) (k : Nat) : Loc (lvr G hd ls k) := fun _ _ hb h i hi => (h i hi).loc hb
/-- The leaves' headers. -/
def hdv (hd : Nat → Value) (k : Nat) : List Value := (List.range k).map hd
theorem hdv_len (hd : Nat → Value) (k : Nat) : (hdv hd k).length = k := by simp [hdv]
theorem hdv_get (hd : Nat → Value) (k i : Nat) (h : i < k) : (hdv hd k)[i]? = some (hd i) := by simp [hdv, h]
theorem hdv_snoc (hd : Nat → Value) (k : Nat) (v : Value) : hdv hd k ++ [v] = hdv (fun i => if i = k then v else hd i) (k + 1) := by
  unfold hdv
  rw [List.range_succ, List.map_append]
  congr 1
  · apply List.map_congr_left
    intro i hi
    have : i < k := by simpa using hi
    rw [if_neg (by omega)]
  · simp
/-- One leaf more is copied. -/
theorem St.leaf {B : Nat} {w0 w : World} {L : List Res} {G : Nat → Prop} {hd : Nat → Value} {ls : List (List Pr)} {k : Nat} {a : Option Addr} {c : Nat} {l : List Pr} (H : St B w0 w (slc 27 2 (.slice a l.length c) l.length (pv l) :: lvr G hd ls k :: L)) (hl : ls.getD k [] = l) (hm : l.length ≤ 100000) :
    ∃ G', St B w0 w (lvr G' (fun i => if i = k then .slice a l.length c else hd i) ls (k + 1) :: L) := by
  refine ⟨fun g => (Value.slice a l.length c).ownBlock = some g ∨ G g, H.join.conv (fun g h => h) (fun hS => ⟨?_, hS.lt, lvr_loc _ _ _ _⟩)⟩
  intro i hi
  obtain ⟨h1, h2⟩ := hS.here
  by_cases hk : i = k
  · subst hk
    simp only [if_true]
    rw [hl]
    exact (SlG.of_pv (b := 0) h1 hm).mono (fun g h => .inl h)
  · show SlG _ w 2 _ (if i = k then _ else hd i) _
    rw [if_neg hk]
    exact (h2 i (by omega)).mono (fun g h => .inr h)
theorem VwG.lvs {G : Nat → Prop} {w : World} {va vl vd : Value} {x : Vw} (h : VwG G w va vl vd x) : LvG G w vl x.lvs := h.2.1
end Go.Proofs.Ytbepaafgcbgmfaa

namespace Go.Proofs.Ytbepaafgcbgmfaa
open Go.ChangeShapes Go.WideShapes Go.ChangeAt Go.RowKit Go.Maps
set_option linter.unusedVariables false
set_option linter.unusedSimpArgs false
/-- A view, a command of the call's own, that is no longer written. -/
def vwr (G : Nat → Prop) (va vl vd : Value) (x : Vw) : Res := (fun g => G g, fun w => VwG G w va vl vd x)
def cmr (G : Nat → Prop) (vb va vl vd : Value) (c : Cm) : Res := (fun g => G g, fun w => CmG G w vb va vl vd c)
theorem vwr_sound {G : Nat → Prop} {va vl vd : Value} {x : Vw} {n : Nat} {w : World} (hG : ∀ g, G g → n ≤ g ∧ g < w.heap.size) (h : VwG G w va vl vd x) : Sound (vwr G va vl vd x) w :=
  ⟨h, fun g hg => (hG g hg).2, fun _ _ hb h1 => h1.loc hb⟩
theorem cmr_sound {G : Nat → Prop} {vb va vl vd : Value} {c : Cm} {n : Nat} {w : World} (hG : ∀ g, G g → n ≤ g ∧ g < w.heap.size) (h : CmG G w vb va vl vd c) : Sound (cmr G vb va vl vd c) w :=
  ⟨h, fun g hg => (hG g hg).2, fun _ _ hb h1 => h1.loc hb⟩
/-- How great a view, a command may be that is copied. -/
structure smV (x : Vw) : Prop where
  mem : x.mem.length ≤ 1000
  lvs : x.lvs.length ≤ 1000
  each : ∀ l ∈ x.lvs, l.length ≤ 1000
  ldr : x.ldr.length ≤ 1000
structure smC (c : Cm) : Prop where
  data : c.data.length ≤ 1000
  v : smV c.v
theorem SlG.of_bv {w : World} {b : Nat} {v : Value} {l : List Nat} (h : w.ownsRow b 5 1 v l.length (bv l)) (hl : l.length ≤ 100000) : SlG (fun g => v.ownBlock = some g) w 1 l.length v (elB l) :=
  SlG.of_own h (fun i hi j hj => by
    obtain rfl : j = 0 := by omega
    simp [bv, elB, List.getD, hi]) (by unfold maxLen; omega)
end Go.Proofs.Ytbepaafgcbgmfaa

namespace Go.Proofs.Ytbepaafgcbgmfaa
open Go.ChangeShapes Go.WideShapes Go.ChangeAt Go.RowKit Go.Maps
set_option linter.unusedVariables false
set_option linter.unusedSimpArgs false
theorem mz81 : ∀ W : World, (zeroValue 81).run Try.prog W = .ok (.agg #[]) W := fun _ => by kernel_rfl
theorem mz3 : ∀ W : World, (zeroValue 3).run Try.prog W = .ok (.int .i64 0) W := fun _ => by kernel_rfl
theorem own : ownKnob Try.prog.godebug = none := by kernel_rfl
theorem laidOut : laidOutB Try.prog = true := by kernel_rfl
abbrev ekP (p : Pr) : Value := .agg #[.int .u16 (p.1 : Int), .int .u32 (p.2 : Int)]
abbrev ekI (n : Nat) : Value := .int .u16 (n : Int)
abbrev evN (n : Nat) : Value := .int .i64 (n : Int)
abbrev evU (_ : Unit) : Value := .agg #[]
theorem ekP_inj : ∀ x y : Pr, ekP x = ekP y → x = y := by
  rintro ⟨a, b⟩ ⟨c, d⟩ h
  simp only [ekP, Value.agg.injEq, Array.mk.injEq, List.cons.injEq, Value.int.injEq, true_and, and_true] at h
  obtain ⟨h1, h2⟩ := h
  have e1 : a = c := by omega
  have e2 : b = d := by omega
  rw [e1, e2]
theorem ekI_inj : ∀ x y : Nat, ekI x = ekI y → x = y := by
  intro x y h
  simp only [ekI, Value.int.injEq, true_and] at h
  omega
theorem keyedP : Keyed Try.prog 27 := Keyed.of_law (deep_law_laid laidOut (m := 5) (by decide) (of_decide_eq_true (by kernel_rfl)) (by kernel_rfl) (by kernel_rfl))
theorem keyedI : Keyed Try.prog 24 := int_keyed Try.underlying24
theorem keyI (n : Nat) (h : n < 65536) : ∃ l, keyOf Try.prog 24 (ekI n) = some l := ⟨_, keyOf_int_mk Try.underlying24 (WalkArith.wf_u16 ⟨by omega, by omega⟩)⟩
theorem klU16 (d : Nat) (a : Nat) (h : a < 65536) : Try.prog.keyLits (d + 1) 24 [.int .u16 (a : Int)] = some [.int .u16 (a : Int)] := by
  have : (Lit.int .u16 (a : Int)).wf = true := WalkArith.wf_u16 ⟨by omega, by omega⟩
  unfold Program.keyLits
  simp only [Try.underlying24, this, and_self, if_true]
theorem klU32 (d : Nat) (a : Nat) (h : a < 4294967296) : Try.prog.keyLits (d + 1) 25 [.int .u32 (a : Int)] = some [.int .u32 (a : Int)] := by
  have : (Lit.int .u32 (a : Int)).wf = true := WalkArith.wf_u32 ⟨by omega, by omega⟩
  unfold Program.keyLits
  simp only [Try.underlying25, this, and_self, if_true]
theorem klP (d a b : Nat) (ha : a < 65536) (hb : b < 4294967296) : Try.prog.keyLits (d + 1 + 1) 27 [.int .u16 (a : Int), .int .u32 (b : Int)] = some [.int .u16 (a : Int), .int .u32 (b : Int)] := by
  have hc : Try.prog.cellsOf 27 = 2 := by kernel_rfl
  have hc1 : Try.prog.cellsOf 24 = 1 := by kernel_rfl
  have hc2 : Try.prog.cellsOf 25 = 1 := by kernel_rfl
  have h1 := klU16 d a ha
  have h2 := klU32 d b hb
  unfold Program.keyLits
  simp only [Try.underlying27, hc]
  rw [if_pos ⟨rfl, by kernel_rfl⟩]
  simp only [List.mapM_cons, List.mapM_nil, hc1, hc2, List.drop_zero, List.drop_succ_cons, List.take_succ_cons, List.take_zero, h1, h2]
  rfl
theorem keyP (p : Pr) (ha : p.1 < 65536) (hb : p.2 < 4294967296) : ∃ l, keyOf Try.prog 27 (ekP p) = some l := by
  have hk : Try.prog.keyType 27 = true := by kernel_rfl
  have hc : Try.prog.cellsOf 27 = 2 := by kernel_rfl
  obtain ⟨n, hn⟩ : ∃ n, Try.prog.types.size + 1 = n + 1 + 1 := ⟨Try.prog.types.size - 1, by kernel_rfl⟩
  have h1 := klP n p.1 p.2 ha hb
  refine ⟨.string (keyBytes [.int .u16 (p.1 : Int), .int .u32 (p.2 : Int)]), ?_⟩
  unfold keyOf
  simp only [Try.underlying27, hk, ekP, Value.formed, hc, Value.cells, hn, h1]
  rfl
/-- A map that was there stays. -/
theorem MapAt.grow {α β : Type} {P : Program} {k : TypeId} {ek : α → Value} {ev : β → Value} {w w' : World} {b : Nat} {M : List (α × β)} (h : MapAt P k ek ev b M w) (hb : Below w.heap.size w w') : MapAt P k ek ev b M w' := by
  obtain ⟨es, clock, h1, h2⟩ := h
  exact ⟨es, clock, (hb.block b (Array.getElem?_eq_some_iff.1 h1).1).trans h1, h2⟩
section
variable {α β : Type} [DecidableEq α] {P : Program} {ops : Array Oper} {k e t : TypeId} {ek : α → Value} {ev : β → Value} {a : Act} {w : World} {o : Oper} {N : Act → World → Prop} {M : List (α × β)} {b : Nat} {x y : Operand} {q : α} {l : Lit}
/-- A look-up in a map that is known now. -/
theorem Stp.lookokF (ho : o.op = .lookup t x y true) (K : Keyed P k) (hi : ∀ x y, ek x = ek y → x = y) (ht : P.underlying t = some (.map k e)) {z : Value} (hz : ∀ W : World, (zeroValue e).run P W = .ok z W) (hx : a.eval x = .map (some b)) (hy : a.eval y = ek q) (ha : keyOf P k (ek q) = some l)
    (hm : MapAt P k ek ev b M w) (h : N (a.put o.dst (.tuple #[((mget M q).map ev).getD z, .bool (mget M q).isSome])) w) : Stp P o a w N := by
  refine ⟨w, .inl ⟨_, ?_, h⟩⟩
  unfold execOp; simp only [ho, hx, hy]
  simp [run_look true K hi ht (hz w) hm ha]
theorem Stp.lookF (ho : o.op = .lookup t x y false) (K : Keyed P k) (hi : ∀ x y, ek x = ek y → x = y) (ht : P.underlying t = some (.map k e)) {z : Value} (hz : ∀ W : World, (zeroValue e).run P W = .ok z W) (hx : a.eval x = .map (some b)) (hy : a.eval y = ek q) (ha : keyOf P k (ek q) = some l)
    (hm : MapAt P k ek ev b M w) (h : N (a.put o.dst (((mget M q).map ev).getD z)) w) : Stp P o a w N := by
  refine ⟨w, .inl ⟨_, ?_, h⟩⟩
  unfold execOp; simp only [ho, hx, hy]
  simp [run_look false K hi ht (hz w) hm ha]
end
/-! ### First places, and who rises -/
def rank : List Pr → Pr → Option Nat
  | [], _ => none
  | x :: l, p => if x = p then some 0 else (rank l p).map (· + 1)
theorem rank_none {l : List Pr} {p : Pr} : rank l p = none ↔ p ∉ l := by
  induction l with
  | nil => simp [rank]
  | cons x l ih =>
    unfold rank
    by_cases h : x = p
    · simp [h]
    · rw [if_neg h, Option.map_eq_none_iff, ih, List.mem_cons, not_or]
      exact ⟨fun h1 => ⟨fun e => h e.symm, h1⟩, fun h1 => h1.2⟩
theorem rank_lt {l : List Pr} {p : Pr} {k : Nat} (h : rank l p = some k) : ∃ hk : k < l.length, l[k] = p := by
  induction l generalizing k with
  | nil => cases h
  | cons x l ih =>
    unfold rank at h
    by_cases hx : x = p
    · rw [if_pos hx] at h
      injection h with h
      subst h
      exact ⟨by simp, hx⟩
    · rw [if_neg hx] at h
      obtain ⟨j, hj, rfl⟩ := Option.map_eq_some_iff.1 h
      obtain ⟨h1, h2⟩ := ih hj
      exact ⟨by simpa using h1, by simpa using h2⟩
theorem rank_snoc (l : List Pr) (x p : Pr) : rank (l ++ [x]) p = match rank l p with | some k => some k | none => if x = p then some l.length else none := by
  induction l with
  | nil => simp [rank]
  | cons y l ih =>
    simp only [List.cons_append, rank]
    by_cases h : y = p
    · simp [h]
    · rw [if_neg h, if_neg h, ih]
      cases rank l p with
      | some k => rfl
      | none => by_cases h2 : x = p <;> simp [h2]
/-- Do the places rise, from one on? -/
def risA (m : List Pr) : Int → List Pr → Bool
  | _, [] => true
  | last, p :: r => match rank m p with
    | none => false
    | some k => decide (last < (k : Int)) && risA m k r
def risB (m l : List Pr) : Bool := risA m (-1) l
/-- May these be members? -/
def memOk (m : List Pr) : Bool := (m.all fun p => may p.1 p.2) && decide ((m.map (·.1)).Nodup) && decide (0 < m.length) && decide (m.length ≤ 24)
end Go.Proofs.Ytbepaafgcbgmfaa
