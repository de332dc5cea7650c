/- Layer 29 (flat): how late each is (Late), and the reference's; the bounds stand in it. -/
import Derived.Test.YtbepaafgcbgmfaaFz28
import Derived.Test.YtbepaafgcbgmfaaFz16
namespace Go.Proofs.Ytbepaafgcbgmfaa
open Go.ChangeShapes Go.WideShapes Go.ChangeAt Go.RowKit Go.Maps Go.Deep
set_option linter.unusedVariables false
set_option linter.unusedSimpArgs false
set_option linter.unusedSectionVars false
set_option maxRecDepth 100000
set_option maxHeartbeats 4000000
abbrev evI (n : Int) : Value := .int .i64 n
/-! ### Whether two processes are one, within a drawn region -/
theorem eqlPD (p q : Pr) (w : World) : (binOp .eql 27 (.agg #[.int .u16 (p.1 : Int), .int .u32 (p.2 : Int)]) (.agg #[.int .u16 (q.1 : Int), .int .u32 (q.2 : Int)])).run Try.prog w = .ok (.bool (decide (p = q))) w := by
  have h2 : (Op.equal 27 (.agg #[.int .u16 (p.1 : Int), .int .u32 (p.2 : Int)]) (.agg #[.int .u16 (q.1 : Int), .int .u32 (q.2 : Int)])).run Try.prog w = .ok (decide (p = q)) w := by
    show (Op.equalIn 10000 27 _ _).run Try.prog w = _
    by_cases h : p = q
    · subst h
      rw [eqPD_yes, decide_eq_true rfl]
    · rw [eqPD_no p.1 p.2 q.1 q.2 (fun e => h e), decide_eq_false h]
  simp only [binOp]
  simp [h2, eqg_PD]
theorem neqPD (p q : Pr) (w : World) : (binOp .neq 27 (.agg #[.int .u16 (p.1 : Int), .int .u32 (p.2 : Int)]) (.agg #[.int .u16 (q.1 : Int), .int .u32 (q.2 : Int)])).run Try.prog w = .ok (.bool (!decide (p = q))) w := by
  have h2 : (Op.equal 27 (.agg #[.int .u16 (p.1 : Int), .int .u32 (p.2 : Int)]) (.agg #[.int .u16 (q.1 : Int), .int .u32 (q.2 : Int)])).run Try.prog w = .ok (decide (p = q)) w := by
    show (Op.equalIn 10000 27 _ _).run Try.prog w = _
    by_cases h : p = q
    · subst h
      rw [eqPD_yes, decide_eq_true rfl]
    · rw [eqPD_no p.1 p.2 q.1 q.2 (fun e => h e), decide_eq_false h]
  simp only [binOp]
  simp [h2, eqg_PD]
section
variable {ops : Array Oper} {a : Act} {o : Oper} {S : World → Prop} {x y : Operand} {p q : Pr} {r : Bool}
theorem Yld.eqPD (hw : Region.wanted o (yielded ops a.tmps) = true) (ho : o.op = .binOp .eql 27 x y 27) (hx : a.eval x = .agg #[.int .u16 (p.1 : Int), .int .u32 (p.2 : Int)]) (hy : a.eval y = .agg #[.int .u16 (q.1 : Int), .int .u32 (q.2 : Int)]) (hr : decide (p = q) = r) : YieldsIf Try.prog ops S o (.bool r) a :=
  .inl ⟨hw, fun W _ => by
    unfold execOp; simp only [ho, hx, hy]
    have := eqlPD p q W
    rw [hr] at this
    simp [this, eqGuard, eqg_PD]⟩
theorem Yld.nePD (hw : Region.wanted o (yielded ops a.tmps) = true) (ho : o.op = .binOp .neq 27 x y 27) (hx : a.eval x = .agg #[.int .u16 (p.1 : Int), .int .u32 (p.2 : Int)]) (hy : a.eval y = .agg #[.int .u16 (q.1 : Int), .int .u32 (q.2 : Int)]) (hr : (!decide (p = q)) = r) : YieldsIf Try.prog ops S o (.bool r) a :=
  .inl ⟨hw, fun W _ => by
    unfold execOp; simp only [ho, hx, hy]
    have := neqPD p q W
    rw [hr] at this
    simp [this, eqGuard, eqg_PD]⟩
end
/-! ### How late -/
abbrev Tp := Pr × Nat × List Eh
def lateT (id A : Nat) (M : List (Pr × Int)) (z : Tp) : List (Pr × Int) := if z.2.1 = id then mput M z.1 ((A : Int) - (z.2.2.length : Int)) else M
def lateM (id A : Nat) (T : List Tp) : List (Pr × Int) := T.foldl (lateT id A) []
def telP (ls : List Lv) : List Tp := ls.flatMap fun x => (staysH x.l).map fun es => (x.p, tellE es)
theorem telP_snoc {ls : List Lv} {k : Nat} {x : Lv} (h : ls.take (k + 1) = ls.take k ++ [x]) : telP (ls.take (k + 1)) = telP (ls.take k) ++ (staysH x.l).map fun es => (x.p, tellE es) := by
  unfold telP; rw [h, List.flatMap_append, List.flatMap_singleton]
theorem lateM_snoc (id A : Nat) (T : List Tp) (z : Tp) : lateM id A (T ++ [z]) = lateT id A (lateM id A T) z := by unfold lateM; rw [List.foldl_append]; rfl
theorem lateT_yes {id A : Nat} {M : List (Pr × Int)} {z : Tp} (h : z.2.1 = id) : lateT id A M z = mput M z.1 ((A : Int) - (z.2.2.length : Int)) := if_pos h
theorem lateT_no {id A : Nat} {M : List (Pr × Int)} {z : Tp} (h : z.2.1 ≠ id) : lateT id A M z = M := if_neg h
theorem telP_map (ls : List Lv) : (telP ls).map (·.2) = tellL ls := by
  unfold telP tellL
  rw [List.map_flatMap]
  exact congrArg (fun f => ls.flatMap f) (funext fun x => by rw [List.map_map]; rfl)
def idP (d : Sq) : Tp := (d.1, d.2.1.1.x.id, d.2.2.2)
theorem all4_idP (ls : List Lv) : (all4 ls).map idP = telP ls := by
  unfold all4 telP
  rw [List.map_flatMap]
  exact congrArg (fun f => ls.flatMap f) (funext fun x => by unfold life4; rw [List.map_map]; rfl)
theorem life_idP (x : Lv) : (lifeH x.p x.l).map (fun d => (x.p, idT d)) = (staysH x.l).map fun es => (x.p, tellE es) := by
  have := congrArg (List.map fun z => (x.p, z)) (life_idT x.p x.l)
  rw [List.map_map, List.map_map] at this
  exact this
attribute [local irreducible] staysH tlE ordT ordH tellL tellE lateT lateM telP
theorem late_ok (ls : List Lv) (la : Option Addr) (lc n id A : Nat) (hn : ls.length = n) (hnb : n ≤ 1000) (hA : (ordH id (tellL ls)).length = A) (hA1 : A ≤ 1000) (w : World) (hl : Sl w 3 n (.slice la n lc) (elL ls)) (hlw : ∀ x ∈ ls, LvO w x) (hle : ∀ x ∈ ls, x.l.length ≤ 1000) :
    Calls Try.prog 22 #[.slice la n lc, .int .u64 (id : Int)] w (Ret fun v w' => (∃ gm, v = .map (some gm) ∧ MapAt Try.prog 27 ekP evI gm (lateM id A (telP ls)) w') ∧ Below w.heap.size w w') := by
  have H := St.init w
  have HN := Lib.hid hn
  have HLW := Lib.hid hlw
  have HLE := Lib.hid hle
  have HA0 := Lib.hid hA
  clear hn hlw hle hA
  go_enter Try.func22, Try.ntmps22
  go_upto_region 2 with (first | (go_at_call 18; (with_reducible refine (order_ok29 ls la lc n id HN.out hnb _ (hl.grow H.below) (fun x hx => (HLW.out x hx).grow H.below) HLE.out).mono ?_); rintro e w1 ⟨v, rfl, hr⟩; obtain ⟨⟨oa, oc, A2, rfl, hA, _⟩, hb1⟩ := hr; replace H := H.grow hb1; obtain rfl : A = A2 := HA0.out.symm.trans hA; clear hb1 hA) | (with_reducible refine wpl rfl (ldQ (ty := 29) rfl ?_); first | (with_reducible refine (Stp.ldor rfl agg29 size29 rfl H (by assumption) sZ (by assumption) ?_); simp only [pS]) | (with_reducible refine (Stp.ldr rfl agg29 size29 rfl H mR sZ ?_); simp only [pS]) | (with_reducible refine (Stp.ldl rfl agg29 size29 rfl H mR (by simp) ?_); simp only [pS]; simp only [List.drop_succ_cons, List.drop_zero, List.take_succ_cons, List.take_zero])) | (with_reducible refine wpl rfl (dQ 8 rfl ?_); with_reducible refine (Stp.alloc 8 rfl rfl zero29 H ?_); clear H; intro g8 w1 H; simp only [pS]; simp only [nC] at H) | (with_reducible refine wpl rfl (stQ (ty := 29) rfl ?_); first | (with_reducible refine (Stp.str rfl size29 rfl rfl (by first | rfl | (simp [Value.oneCell']; done) | assumption) H uP sZ sZ ?_); clear H; intro w1 H; simp only [pS]) | (with_reducible refine (Stp.stl rfl size29 rfl rfl rfl rfl H uP (by simp) ?_); clear H; intro w1 H; simp only [pS]; simp only [List.drop_succ_cons, List.drop_zero, List.take_succ_cons, List.take_zero, List.nil_append, List.cons_append, Nat.reduceAdd] at H)) | (with_reducible refine wpl rfl (ldQ (ty := 78) rfl ?_); first | (with_reducible refine (Stp.ldor rfl agg78 size78 rfl H (by assumption) sZ (by assumption) ?_); simp only [pS]) | (with_reducible refine (Stp.ldr rfl agg78 size78 rfl H mR sZ ?_); simp only [pS]) | (with_reducible refine (Stp.ldl rfl agg78 size78 rfl H mR (by simp) ?_); simp only [pS]; simp only [List.drop_succ_cons, List.drop_zero, List.take_succ_cons, List.take_zero])) | (with_reducible refine wpl rfl (dQ 10 rfl ?_); with_reducible refine (Stp.alloc 10 rfl rfl zero78 H ?_); clear H; intro g10 w1 H; simp only [pS]; simp only [nC] at H) | (with_reducible refine wpl rfl (stQ (ty := 78) rfl ?_); first | (with_reducible refine (Stp.str rfl size78 rfl rfl (by first | rfl | (simp [Value.oneCell']; done) | assumption) H uP sZ sZ ?_); clear H; intro w1 H; simp only [pS]) | (with_reducible refine (Stp.stl rfl size78 rfl rfl rfl rfl H uP (by simp) ?_); clear H; intro w1 H; simp only [pS]; simp only [List.drop_succ_cons, List.drop_zero, List.take_succ_cons, List.take_zero, List.nil_append, List.cons_append, Nat.reduceAdd] at H)) | (with_reducible refine wpl rfl (ldQ (ty := 37) rfl ?_); first | (with_reducible refine (Stp.ldo rfl agg37 rfl H (by assumption) (by assumption) ?_); simp only [pS]) | (with_reducible refine (Stp.ldc rfl agg37 rfl H mR cE ?_); simp only [pS])) | (with_reducible refine wpl rfl (ldQ (ty := 27) rfl ?_); first | (with_reducible refine (Stp.ldor rfl agg27 size27 rfl H (by assumption) sZ (by assumption) ?_); simp only [pS]) | (with_reducible refine (Stp.ldr rfl agg27 size27 rfl H mR sZ ?_); simp only [pS]) | (with_reducible refine (Stp.ldl rfl agg27 size27 rfl H mR (by simp) ?_); simp only [pS]; simp only [List.drop_succ_cons, List.drop_zero, List.take_succ_cons, List.take_zero])) | (with_reducible refine wpl rfl (ldQ (ty := 22) rfl ?_); first | (with_reducible refine (Stp.ldo rfl agg22 rfl H (by assumption) (by assumption) ?_); simp only [pS]) | (with_reducible refine (Stp.ldc rfl agg22 rfl H mR cE ?_); simp only [pS])))
  go_wp2_with (first | (with_reducible refine wpl rfl (Stp.mkmap 27 ekP evI 15 rfl rfl H ?_); clear H; intro g15 w1 H; simp only [pS]) | (with_reducible refine wpl rfl (ldQ (ty := 29) rfl ?_); first | (with_reducible refine (Stp.ldor rfl agg29 size29 rfl H (by assumption) sZ (by assumption) ?_); simp only [pS]) | (with_reducible refine (Stp.ldr rfl agg29 size29 rfl H mR sZ ?_); simp only [pS]) | (with_reducible refine (Stp.ldl rfl agg29 size29 rfl H mR (by simp) ?_); simp only [pS]; simp only [List.drop_succ_cons, List.drop_zero, List.take_succ_cons, List.take_zero])) | (with_reducible refine wpl rfl (dQ 8 rfl ?_); with_reducible refine (Stp.alloc 8 rfl rfl zero29 H ?_); clear H; intro g8 w1 H; simp only [pS]; simp only [nC] at H) | (with_reducible refine wpl rfl (stQ (ty := 29) rfl ?_); first | (with_reducible refine (Stp.str rfl size29 rfl rfl (by first | rfl | (simp [Value.oneCell']; done) | assumption) H uP sZ sZ ?_); clear H; intro w1 H; simp only [pS]) | (with_reducible refine (Stp.stl rfl size29 rfl rfl rfl rfl H uP (by simp) ?_); clear H; intro w1 H; simp only [pS]; simp only [List.drop_succ_cons, List.drop_zero, List.take_succ_cons, List.take_zero, List.nil_append, List.cons_append, Nat.reduceAdd] at H)) | (with_reducible refine wpl rfl (ldQ (ty := 78) rfl ?_); first | (with_reducible refine (Stp.ldor rfl agg78 size78 rfl H (by assumption) sZ (by assumption) ?_); simp only [pS]) | (with_reducible refine (Stp.ldr rfl agg78 size78 rfl H mR sZ ?_); simp only [pS]) | (with_reducible refine (Stp.ldl rfl agg78 size78 rfl H mR (by simp) ?_); simp only [pS]; simp only [List.drop_succ_cons, List.drop_zero, List.take_succ_cons, List.take_zero])) | (with_reducible refine wpl rfl (dQ 10 rfl ?_); with_reducible refine (Stp.alloc 10 rfl rfl zero78 H ?_); clear H; intro g10 w1 H; simp only [pS]; simp only [nC] at H) | (with_reducible refine wpl rfl (stQ (ty := 78) rfl ?_); first | (with_reducible refine (Stp.str rfl size78 rfl rfl (by first | rfl | (simp [Value.oneCell']; done) | assumption) H uP sZ sZ ?_); clear H; intro w1 H; simp only [pS]) | (with_reducible refine (Stp.stl rfl size78 rfl rfl rfl rfl H uP (by simp) ?_); clear H; intro w1 H; simp only [pS]; simp only [List.drop_succ_cons, List.drop_zero, List.take_succ_cons, List.take_zero, List.nil_append, List.cons_append, Nat.reduceAdd] at H)) | (with_reducible refine wpl rfl (ldQ (ty := 37) rfl ?_); first | (with_reducible refine (Stp.ldo rfl agg37 rfl H (by assumption) (by assumption) ?_); simp only [pS]) | (with_reducible refine (Stp.ldc rfl agg37 rfl H mR cE ?_); simp only [pS])) | (with_reducible refine wpl rfl (ldQ (ty := 27) rfl ?_); first | (with_reducible refine (Stp.ldor rfl agg27 size27 rfl H (by assumption) sZ (by assumption) ?_); simp only [pS]) | (with_reducible refine (Stp.ldr rfl agg27 size27 rfl H mR sZ ?_); simp only [pS]) | (with_reducible refine (Stp.ldl rfl agg27 size27 rfl H mR (by simp) ?_); simp only [pS]; simp only [List.drop_succ_cons, List.drop_zero, List.take_succ_cons, List.take_zero])) | (with_reducible refine wpl rfl (ldQ (ty := 22) rfl ?_); first | (with_reducible refine (Stp.ldo rfl agg22 rfl H (by assumption) (by assumption) ?_); simp only [pS]) | (with_reducible refine (Stp.ldc rfl agg22 rfl H mR cE ?_); simp only [pS])))
  have H0 : St w.heap.size w _ [mapr Try.prog 27 ekP evI g15 ([])] := H
  clear H
  go_loopw [18] (fun i wr => ∃ (q : Nat) (M : List (Pr × Int)), q ≤ n ∧ i = .int .i64 q ∧ Hid (M = lateM id A (telP (ls.take q))) ∧ St w.heap.size w wr [mapr Try.prog 27 ekP evI g15 (M)]) (fun i _ => n - (intOf i).toNat)
  case atStart => exact ⟨0, [], Nat.zero_le _, rfl, Lib.hid (by rw [List.take_zero]; with_unfolding_all rfl), H0⟩
  case round =>
    clear H0
    obtain ⟨q, M, hq, rfl, HM, H⟩ := hrel
    by_cases hlt : q < n
    · have hl1 : q < ls.length := by rw [HN.out]; exact hlt
      obtain ⟨b1, o1, rfl, hb1⟩ := hl.addr (by omega)
      have hc1 := hl.cell hlt
      rw [elL_at hl1] at hc1
      have hme := List.getElem_mem hl1
      have HTk := Lib.hid (List.take_succ_eq_append_getElem hl1)
      obtain ⟨x, hx⟩ : ∃ x, ls[q] = x := ⟨_, rfl⟩
      rw [hx] at hc1 hme HTk
      have qli : (q : Int) < (n : Int) := by omega
      have HXW := Lib.hid (HLW.out x hme)
      have HXN := Lib.hid (HLE.out x hme)
      obtain ⟨kl, hkl⟩ := keyP x.p HXW.out.p1 HXW.out.p2
      have HKY := Lib.hid hkl
      clear hme hx hl1 hkl
      go_wp2_with (first | (go_at_call 30; (with_reducible refine (life_ok x _ (HXW.out.l.grow H.below) HXN.out).mono ?_); rintro e wS ⟨v, rfl, hr⟩; obtain ⟨⟨s1, a1, c1, G1, rfl, hcp, hD, hGG, hS⟩, hb1⟩ := hr; replace H := H.new hb1 (sysr_sound (b := ⟨s1, a1, c1⟩) hGG hS) (fun g hg => (hGG g hg).1); have HD1 := Lib.hid hD; obtain ⟨n1, hn1⟩ : ∃ n1, s1.length = n1 := ⟨_, rfl⟩; have HN1 := Lib.hid hn1; rw [hn1]; clear hb1 hD hcp hGG hS hn1) | (with_reducible refine wpl rfl (ldQ (ty := 29) rfl ?_); first | (with_reducible refine (Stp.ldor rfl agg29 size29 rfl H (by assumption) sZ (by assumption) ?_); simp only [pS]) | (with_reducible refine (Stp.ldr rfl agg29 size29 rfl H mR sZ ?_); simp only [pS]) | (with_reducible refine (Stp.ldl rfl agg29 size29 rfl H mR (by simp) ?_); simp only [pS]; simp only [List.drop_succ_cons, List.drop_zero, List.take_succ_cons, List.take_zero])) | (with_reducible refine wpl rfl (dQ 8 rfl ?_); with_reducible refine (Stp.alloc 8 rfl rfl zero29 H ?_); clear H; intro g8 w1 H; simp only [pS]; simp only [nC] at H) | (with_reducible refine wpl rfl (stQ (ty := 29) rfl ?_); first | (with_reducible refine (Stp.str rfl size29 rfl rfl (by first | rfl | (simp [Value.oneCell']; done) | assumption) H uP sZ sZ ?_); clear H; intro w1 H; simp only [pS]) | (with_reducible refine (Stp.stl rfl size29 rfl rfl rfl rfl H uP (by simp) ?_); clear H; intro w1 H; simp only [pS]; simp only [List.drop_succ_cons, List.drop_zero, List.take_succ_cons, List.take_zero, List.nil_append, List.cons_append, Nat.reduceAdd] at H)) | (with_reducible refine wpl rfl (ldQ (ty := 78) rfl ?_); first | (with_reducible refine (Stp.ldor rfl agg78 size78 rfl H (by assumption) sZ (by assumption) ?_); simp only [pS]) | (with_reducible refine (Stp.ldr rfl agg78 size78 rfl H mR sZ ?_); simp only [pS]) | (with_reducible refine (Stp.ldl rfl agg78 size78 rfl H mR (by simp) ?_); simp only [pS]; simp only [List.drop_succ_cons, List.drop_zero, List.take_succ_cons, List.take_zero])) | (with_reducible refine wpl rfl (dQ 10 rfl ?_); with_reducible refine (Stp.alloc 10 rfl rfl zero78 H ?_); clear H; intro g10 w1 H; simp only [pS]; simp only [nC] at H) | (with_reducible refine wpl rfl (stQ (ty := 78) rfl ?_); first | (with_reducible refine (Stp.str rfl size78 rfl rfl (by first | rfl | (simp [Value.oneCell']; done) | assumption) H uP sZ sZ ?_); clear H; intro w1 H; simp only [pS]) | (with_reducible refine (Stp.stl rfl size78 rfl rfl rfl rfl H uP (by simp) ?_); clear H; intro w1 H; simp only [pS]; simp only [List.drop_succ_cons, List.drop_zero, List.take_succ_cons, List.take_zero, List.nil_append, List.cons_append, Nat.reduceAdd] at H)) | (with_reducible refine wpl rfl (ldQ (ty := 37) rfl ?_); first | (with_reducible refine (Stp.ldo rfl agg37 rfl H (by assumption) (by assumption) ?_); simp only [pS]) | (with_reducible refine (Stp.ldc rfl agg37 rfl H mR cE ?_); simp only [pS])) | (with_reducible refine wpl rfl (ldQ (ty := 27) rfl ?_); first | (with_reducible refine (Stp.ldor rfl agg27 size27 rfl H (by assumption) sZ (by assumption) ?_); simp only [pS]) | (with_reducible refine (Stp.ldr rfl agg27 size27 rfl H mR sZ ?_); simp only [pS]) | (with_reducible refine (Stp.ldl rfl agg27 size27 rfl H mR (by simp) ?_); simp only [pS]; simp only [List.drop_succ_cons, List.drop_zero, List.take_succ_cons, List.take_zero])) | (with_reducible refine wpl rfl (ldQ (ty := 22) rfl ?_); first | (with_reducible refine (Stp.ldo rfl agg22 rfl H (by assumption) (by assumption) ?_); simp only [pS]) | (with_reducible refine (Stp.ldc rfl agg22 rfl H mR cE ?_); simp only [pS])))
      have hn1b : n1 ≤ 1000 := by
        have h1 := lifeH_len x.p x.l
        have h2 := HXN.out
        rw [← HD1.out, List.length_map, HN1.out] at h1
        omega
      have H0 : St w.heap.size w _ [sysr G1 (⟨s1, a1, c1⟩ : By), row 29 g8 #[.int .u16 (x.p.1 : Int), .int .u32 (x.p.2 : Int), .slice x.a x.l.length x.c], mapr Try.prog 27 ekP evI g15 (M)] := H
      clear H
      go_loopw [25] (fun j wi => ∃ (k : Nat) (M2 : List (Pr × Int)), k ≤ n1 ∧ j = .int .i64 k ∧ Hid (M2 = lateM id A (telP (ls.take q) ++ ((s1.map syd).map fun d => (x.p, idT d)).take k)) ∧ St w.heap.size w wi [sysr G1 (⟨s1, a1, c1⟩ : By), row 29 g8 #[.int .u16 (x.p.1 : Int), .int .u32 (x.p.2 : Int), .slice x.a x.l.length x.c], mapr Try.prog 27 ekP evI g15 (M2)]) (fun j _ => n1 - (intOf j).toNat)
      case atStart => exact ⟨0, M, Nat.zero_le _, rfl, Lib.hid (by rw [List.take_zero, List.append_nil]; exact HM.out), H0⟩
      case round =>
        clear H0
        obtain ⟨k, M2, hk, rfl, HM2, H⟩ := hrel
        by_cases hlt2 : k < n1
        · have hl2 : k < s1.length := by rw [HN1.out]; exact hlt2
          have hSY : SysG G1 wr (hvB (⟨s1, a1, c1⟩ : By)) s1 := H.get (r := sysr G1 (⟨s1, a1, c1⟩ : By)) mE
          have HSL := hSY.1.sl
          simp only [hvB, HN1.out] at HSL
          obtain ⟨b2, o2, rfl, hb2⟩ := HSL.addr (by omega)
          have hc2 := HSL.cell hlt2
          rw [elS_at hl2] at hc2
          have hmy := List.getElem_mem hl2
          have HTD : Hid (((s1.map syd).map fun d => (x.p, idT d)).take (k + 1) = ((s1.map syd).map fun d => (x.p, idT d)).take k ++ [(x.p, idT (syd s1[k]))]) := Lib.hid (by
            have hk2 : k < ((s1.map syd).map fun d => (x.p, idT d)).length := by rw [List.length_map, List.length_map]; exact hl2
            rw [List.take_succ_eq_append_getElem hk2]
            simp only [List.getElem_map])
          obtain ⟨y, hy⟩ : ∃ y, s1[k] = y := ⟨_, rfl⟩
          rw [hy] at hc2 hmy HTD
          have hyl : y.told.length ≤ 1000 := by
            have h1 : syd y ∈ lifeH x.p x.l := by rw [← HD1.out]; exact List.mem_map.2 ⟨y, hmy, rfl⟩
            exact Nat.le_trans (lifeH_in x _ h1).lt HXN.out
          have kli : (k : Int) < (n1 : Int) := by omega
          simp only [syc] at hc2
          have HC2 := Lib.hid hc2
          clear hmy hy hl2 hSY HSL hc2
          by_cases hid : y.e.1.x.id = id
          · have hii : ((y.e.1.x.id : Int) == (id : Int)) = true := by simp [hid]
            have HM3 : Hid (mput M2 x.p ((A : Int) - (y.told.length : Int)) = lateM id A (telP (ls.take q) ++ ((s1.map syd).map fun d => (x.p, idT d)).take (k + 1))) := Lib.hid (by
              rw [HTD.out, ← List.append_assoc, lateM_snoc, ← HM2.out, lateT_yes (z := (x.p, idT (syd y))) hid]; rfl)
            clear hid
            go_wp2_with (first | (with_reducible refine wpl rfl (Stp.ldq (cs := #[.int .u16 (y.p.1 : Int), .int .u32 (y.p.2 : Int), .int .u64 (y.e.1.x.id : Int), .slice y.e.2.ma y.e.1.x.mem.length y.e.2.mc, .slice y.e.2.la y.e.1.x.lvs.length y.e.2.lc, .slice y.e.2.da y.e.1.x.ldr.length y.e.2.dc, .slice y.aa y.all.length y.ac, .slice y.ta y.told.length y.tc, .bool y.fol]) rfl agg78 size78 rfl HC2.out rfl ?_); simp only [pS]) | (with_reducible refine wpl rfl (Stp.mapup (k := 27) (e := 3) (ek := ekP) (ev := evI) (M := M2) (q := x.p) (v := ((A : Int) - (y.told.length : Int))) rfl keyedP ekP_inj Try.underlying54 rfl rfl rfl HKY.out H uP ?_); clear H; intro w1 H; simp only [pS]) | (with_reducible refine wpl rfl (ldQ (ty := 29) rfl ?_); first | (with_reducible refine (Stp.ldor rfl agg29 size29 rfl H (by assumption) sZ (by assumption) ?_); simp only [pS]) | (with_reducible refine (Stp.ldr rfl agg29 size29 rfl H mR sZ ?_); simp only [pS]) | (with_reducible refine (Stp.ldl rfl agg29 size29 rfl H mR (by simp) ?_); simp only [pS]; simp only [List.drop_succ_cons, List.drop_zero, List.take_succ_cons, List.take_zero])) | (with_reducible refine wpl rfl (dQ 8 rfl ?_); with_reducible refine (Stp.alloc 8 rfl rfl zero29 H ?_); clear H; intro g8 w1 H; simp only [pS]; simp only [nC] at H) | (with_reducible refine wpl rfl (stQ (ty := 29) rfl ?_); first | (with_reducible refine (Stp.str rfl size29 rfl rfl (by first | rfl | (simp [Value.oneCell']; done) | assumption) H uP sZ sZ ?_); clear H; intro w1 H; simp only [pS]) | (with_reducible refine (Stp.stl rfl size29 rfl rfl rfl rfl H uP (by simp) ?_); clear H; intro w1 H; simp only [pS]; simp only [List.drop_succ_cons, List.drop_zero, List.take_succ_cons, List.take_zero, List.nil_append, List.cons_append, Nat.reduceAdd] at H)) | (with_reducible refine wpl rfl (ldQ (ty := 78) rfl ?_); first | (with_reducible refine (Stp.ldor rfl agg78 size78 rfl H (by assumption) sZ (by assumption) ?_); simp only [pS]) | (with_reducible refine (Stp.ldr rfl agg78 size78 rfl H mR sZ ?_); simp only [pS]) | (with_reducible refine (Stp.ldl rfl agg78 size78 rfl H mR (by simp) ?_); simp only [pS]; simp only [List.drop_succ_cons, List.drop_zero, List.take_succ_cons, List.take_zero])) | (with_reducible refine wpl rfl (dQ 10 rfl ?_); with_reducible refine (Stp.alloc 10 rfl rfl zero78 H ?_); clear H; intro g10 w1 H; simp only [pS]; simp only [nC] at H) | (with_reducible refine wpl rfl (stQ (ty := 78) rfl ?_); first | (with_reducible refine (Stp.str rfl size78 rfl rfl (by first | rfl | (simp [Value.oneCell']; done) | assumption) H uP sZ sZ ?_); clear H; intro w1 H; simp only [pS]) | (with_reducible refine (Stp.stl rfl size78 rfl rfl rfl rfl H uP (by simp) ?_); clear H; intro w1 H; simp only [pS]; simp only [List.drop_succ_cons, List.drop_zero, List.take_succ_cons, List.take_zero, List.nil_append, List.cons_append, Nat.reduceAdd] at H)) | (with_reducible refine wpl rfl (ldQ (ty := 37) rfl ?_); first | (with_reducible refine (Stp.ldo rfl agg37 rfl H (by assumption) (by assumption) ?_); simp only [pS]) | (with_reducible refine (Stp.ldc rfl agg37 rfl H mR cE ?_); simp only [pS])) | (with_reducible refine wpl rfl (ldQ (ty := 27) rfl ?_); first | (with_reducible refine (Stp.ldor rfl agg27 size27 rfl H (by assumption) sZ (by assumption) ?_); simp only [pS]) | (with_reducible refine (Stp.ldr rfl agg27 size27 rfl H mR sZ ?_); simp only [pS]) | (with_reducible refine (Stp.ldl rfl agg27 size27 rfl H mR (by simp) ?_); simp only [pS]; simp only [List.drop_succ_cons, List.drop_zero, List.take_succ_cons, List.take_zero])) | (with_reducible refine wpl rfl (ldQ (ty := 22) rfl ?_); first | (with_reducible refine (Stp.ldo rfl agg22 rfl H (by assumption) (by assumption) ?_); simp only [pS]) | (with_reducible refine (Stp.ldc rfl agg22 rfl H mR cE ?_); simp only [pS])))
            go_roundw
            case rel => exact ⟨k + 1, mput M2 x.p ((A : Int) - (y.told.length : Int)), by omega, by go_num, HM3, H.sub sU⟩
            case measure => simp [intOf]; omega
          · have hii : ((y.e.1.x.id : Int) == (id : Int)) = false := by simp; omega
            have HM3 : Hid (M2 = lateM id A (telP (ls.take q) ++ ((s1.map syd).map fun d => (x.p, idT d)).take (k + 1))) := Lib.hid (by
              rw [HTD.out, ← List.append_assoc, lateM_snoc, ← HM2.out, lateT_no (z := (x.p, idT (syd y))) hid])
            go_wp2_with (first | (with_reducible refine wpl rfl (Stp.ldq (cs := #[.int .u16 (y.p.1 : Int), .int .u32 (y.p.2 : Int), .int .u64 (y.e.1.x.id : Int), .slice y.e.2.ma y.e.1.x.mem.length y.e.2.mc, .slice y.e.2.la y.e.1.x.lvs.length y.e.2.lc, .slice y.e.2.da y.e.1.x.ldr.length y.e.2.dc, .slice y.aa y.all.length y.ac, .slice y.ta y.told.length y.tc, .bool y.fol]) rfl agg78 size78 rfl HC2.out rfl ?_); simp only [pS]) | (with_reducible refine wpl rfl (ldQ (ty := 29) rfl ?_); first | (with_reducible refine (Stp.ldor rfl agg29 size29 rfl H (by assumption) sZ (by assumption) ?_); simp only [pS]) | (with_reducible refine (Stp.ldr rfl agg29 size29 rfl H mR sZ ?_); simp only [pS]) | (with_reducible refine (Stp.ldl rfl agg29 size29 rfl H mR (by simp) ?_); simp only [pS]; simp only [List.drop_succ_cons, List.drop_zero, List.take_succ_cons, List.take_zero])) | (with_reducible refine wpl rfl (dQ 8 rfl ?_); with_reducible refine (Stp.alloc 8 rfl rfl zero29 H ?_); clear H; intro g8 w1 H; simp only [pS]; simp only [nC] at H) | (with_reducible refine wpl rfl (stQ (ty := 29) rfl ?_); first | (with_reducible refine (Stp.str rfl size29 rfl rfl (by first | rfl | (simp [Value.oneCell']; done) | assumption) H uP sZ sZ ?_); clear H; intro w1 H; simp only [pS]) | (with_reducible refine (Stp.stl rfl size29 rfl rfl rfl rfl H uP (by simp) ?_); clear H; intro w1 H; simp only [pS]; simp only [List.drop_succ_cons, List.drop_zero, List.take_succ_cons, List.take_zero, List.nil_append, List.cons_append, Nat.reduceAdd] at H)) | (with_reducible refine wpl rfl (ldQ (ty := 78) rfl ?_); first | (with_reducible refine (Stp.ldor rfl agg78 size78 rfl H (by assumption) sZ (by assumption) ?_); simp only [pS]) | (with_reducible refine (Stp.ldr rfl agg78 size78 rfl H mR sZ ?_); simp only [pS]) | (with_reducible refine (Stp.ldl rfl agg78 size78 rfl H mR (by simp) ?_); simp only [pS]; simp only [List.drop_succ_cons, List.drop_zero, List.take_succ_cons, List.take_zero])) | (with_reducible refine wpl rfl (dQ 10 rfl ?_); with_reducible refine (Stp.alloc 10 rfl rfl zero78 H ?_); clear H; intro g10 w1 H; simp only [pS]; simp only [nC] at H) | (with_reducible refine wpl rfl (stQ (ty := 78) rfl ?_); first | (with_reducible refine (Stp.str rfl size78 rfl rfl (by first | rfl | (simp [Value.oneCell']; done) | assumption) H uP sZ sZ ?_); clear H; intro w1 H; simp only [pS]) | (with_reducible refine (Stp.stl rfl size78 rfl rfl rfl rfl H uP (by simp) ?_); clear H; intro w1 H; simp only [pS]; simp only [List.drop_succ_cons, List.drop_zero, List.take_succ_cons, List.take_zero, List.nil_append, List.cons_append, Nat.reduceAdd] at H)) | (with_reducible refine wpl rfl (ldQ (ty := 37) rfl ?_); first | (with_reducible refine (Stp.ldo rfl agg37 rfl H (by assumption) (by assumption) ?_); simp only [pS]) | (with_reducible refine (Stp.ldc rfl agg37 rfl H mR cE ?_); simp only [pS])) | (with_reducible refine wpl rfl (ldQ (ty := 27) rfl ?_); first | (with_reducible refine (Stp.ldor rfl agg27 size27 rfl H (by assumption) sZ (by assumption) ?_); simp only [pS]) | (with_reducible refine (Stp.ldr rfl agg27 size27 rfl H mR sZ ?_); simp only [pS]) | (with_reducible refine (Stp.ldl rfl agg27 size27 rfl H mR (by simp) ?_); simp only [pS]; simp only [List.drop_succ_cons, List.drop_zero, List.take_succ_cons, List.take_zero])) | (with_reducible refine wpl rfl (ldQ (ty := 22) rfl ?_); first | (with_reducible refine (Stp.ldo rfl agg22 rfl H (by assumption) (by assumption) ?_); simp only [pS]) | (with_reducible refine (Stp.ldc rfl agg22 rfl H mR cE ?_); simp only [pS])))
            go_roundw
            case rel => exact ⟨k + 1, M2, by omega, by go_num, HM3, H.sub sU⟩
            case measure => simp [intOf]; omega
        · obtain rfl : k = n1 := by omega
          have HM3 : Hid (M2 = lateM id A (telP (ls.take (q + 1)))) := Lib.hid (by
            rw [HM2.out, telP_snoc HTk.out, List.take_of_length_le (l := (s1.map syd).map fun d => (x.p, idT d)) (by rw [List.length_map, List.length_map, HN1.out]; exact Nat.le_refl _), HD1.out, life_idP])
          go_wp2_with (first | (with_reducible refine wpl rfl (ldQ (ty := 29) rfl ?_); first | (with_reducible refine (Stp.ldor rfl agg29 size29 rfl H (by assumption) sZ (by assumption) ?_); simp only [pS]) | (with_reducible refine (Stp.ldr rfl agg29 size29 rfl H mR sZ ?_); simp only [pS]) | (with_reducible refine (Stp.ldl rfl agg29 size29 rfl H mR (by simp) ?_); simp only [pS]; simp only [List.drop_succ_cons, List.drop_zero, List.take_succ_cons, List.take_zero])) | (with_reducible refine wpl rfl (dQ 8 rfl ?_); with_reducible refine (Stp.alloc 8 rfl rfl zero29 H ?_); clear H; intro g8 w1 H; simp only [pS]; simp only [nC] at H) | (with_reducible refine wpl rfl (stQ (ty := 29) rfl ?_); first | (with_reducible refine (Stp.str rfl size29 rfl rfl (by first | rfl | (simp [Value.oneCell']; done) | assumption) H uP sZ sZ ?_); clear H; intro w1 H; simp only [pS]) | (with_reducible refine (Stp.stl rfl size29 rfl rfl rfl rfl H uP (by simp) ?_); clear H; intro w1 H; simp only [pS]; simp only [List.drop_succ_cons, List.drop_zero, List.take_succ_cons, List.take_zero, List.nil_append, List.cons_append, Nat.reduceAdd] at H)) | (with_reducible refine wpl rfl (ldQ (ty := 78) rfl ?_); first | (with_reducible refine (Stp.ldor rfl agg78 size78 rfl H (by assumption) sZ (by assumption) ?_); simp only [pS]) | (with_reducible refine (Stp.ldr rfl agg78 size78 rfl H mR sZ ?_); simp only [pS]) | (with_reducible refine (Stp.ldl rfl agg78 size78 rfl H mR (by simp) ?_); simp only [pS]; simp only [List.drop_succ_cons, List.drop_zero, List.take_succ_cons, List.take_zero])) | (with_reducible refine wpl rfl (dQ 10 rfl ?_); with_reducible refine (Stp.alloc 10 rfl rfl zero78 H ?_); clear H; intro g10 w1 H; simp only [pS]; simp only [nC] at H) | (with_reducible refine wpl rfl (stQ (ty := 78) rfl ?_); first | (with_reducible refine (Stp.str rfl size78 rfl rfl (by first | rfl | (simp [Value.oneCell']; done) | assumption) H uP sZ sZ ?_); clear H; intro w1 H; simp only [pS]) | (with_reducible refine (Stp.stl rfl size78 rfl rfl rfl rfl H uP (by simp) ?_); clear H; intro w1 H; simp only [pS]; simp only [List.drop_succ_cons, List.drop_zero, List.take_succ_cons, List.take_zero, List.nil_append, List.cons_append, Nat.reduceAdd] at H)) | (with_reducible refine wpl rfl (ldQ (ty := 37) rfl ?_); first | (with_reducible refine (Stp.ldo rfl agg37 rfl H (by assumption) (by assumption) ?_); simp only [pS]) | (with_reducible refine (Stp.ldc rfl agg37 rfl H mR cE ?_); simp only [pS])) | (with_reducible refine wpl rfl (ldQ (ty := 27) rfl ?_); first | (with_reducible refine (Stp.ldor rfl agg27 size27 rfl H (by assumption) sZ (by assumption) ?_); simp only [pS]) | (with_reducible refine (Stp.ldr rfl agg27 size27 rfl H mR sZ ?_); simp only [pS]) | (with_reducible refine (Stp.ldl rfl agg27 size27 rfl H mR (by simp) ?_); simp only [pS]; simp only [List.drop_succ_cons, List.drop_zero, List.take_succ_cons, List.take_zero])) | (with_reducible refine wpl rfl (ldQ (ty := 22) rfl ?_); first | (with_reducible refine (Stp.ldo rfl agg22 rfl H (by assumption) (by assumption) ?_); simp only [pS]) | (with_reducible refine (Stp.ldc rfl agg22 rfl H mR cE ?_); simp only [pS])))
          go_roundw
          case rel => exact ⟨q + 1, M2, by omega, by go_num, HM3, H.sub sU⟩
          case measure => simp [intOf]; omega
    · obtain rfl : q = n := by omega
      go_wp2_with (first | (with_reducible refine wpl rfl (ldQ (ty := 29) rfl ?_); first | (with_reducible refine (Stp.ldor rfl agg29 size29 rfl H (by assumption) sZ (by assumption) ?_); simp only [pS]) | (with_reducible refine (Stp.ldr rfl agg29 size29 rfl H mR sZ ?_); simp only [pS]) | (with_reducible refine (Stp.ldl rfl agg29 size29 rfl H mR (by simp) ?_); simp only [pS]; simp only [List.drop_succ_cons, List.drop_zero, List.take_succ_cons, List.take_zero])) | (with_reducible refine wpl rfl (dQ 8 rfl ?_); with_reducible refine (Stp.alloc 8 rfl rfl zero29 H ?_); clear H; intro g8 w1 H; simp only [pS]; simp only [nC] at H) | (with_reducible refine wpl rfl (stQ (ty := 29) rfl ?_); first | (with_reducible refine (Stp.str rfl size29 rfl rfl (by first | rfl | (simp [Value.oneCell']; done) | assumption) H uP sZ sZ ?_); clear H; intro w1 H; simp only [pS]) | (with_reducible refine (Stp.stl rfl size29 rfl rfl rfl rfl H uP (by simp) ?_); clear H; intro w1 H; simp only [pS]; simp only [List.drop_succ_cons, List.drop_zero, List.take_succ_cons, List.take_zero, List.nil_append, List.cons_append, Nat.reduceAdd] at H)) | (with_reducible refine wpl rfl (ldQ (ty := 78) rfl ?_); first | (with_reducible refine (Stp.ldor rfl agg78 size78 rfl H (by assumption) sZ (by assumption) ?_); simp only [pS]) | (with_reducible refine (Stp.ldr rfl agg78 size78 rfl H mR sZ ?_); simp only [pS]) | (with_reducible refine (Stp.ldl rfl agg78 size78 rfl H mR (by simp) ?_); simp only [pS]; simp only [List.drop_succ_cons, List.drop_zero, List.take_succ_cons, List.take_zero])) | (with_reducible refine wpl rfl (dQ 10 rfl ?_); with_reducible refine (Stp.alloc 10 rfl rfl zero78 H ?_); clear H; intro g10 w1 H; simp only [pS]; simp only [nC] at H) | (with_reducible refine wpl rfl (stQ (ty := 78) rfl ?_); first | (with_reducible refine (Stp.str rfl size78 rfl rfl (by first | rfl | (simp [Value.oneCell']; done) | assumption) H uP sZ sZ ?_); clear H; intro w1 H; simp only [pS]) | (with_reducible refine (Stp.stl rfl size78 rfl rfl rfl rfl H uP (by simp) ?_); clear H; intro w1 H; simp only [pS]; simp only [List.drop_succ_cons, List.drop_zero, List.take_succ_cons, List.take_zero, List.nil_append, List.cons_append, Nat.reduceAdd] at H)) | (with_reducible refine wpl rfl (ldQ (ty := 37) rfl ?_); first | (with_reducible refine (Stp.ldo rfl agg37 rfl H (by assumption) (by assumption) ?_); simp only [pS]) | (with_reducible refine (Stp.ldc rfl agg37 rfl H mR cE ?_); simp only [pS])) | (with_reducible refine wpl rfl (ldQ (ty := 27) rfl ?_); first | (with_reducible refine (Stp.ldor rfl agg27 size27 rfl H (by assumption) sZ (by assumption) ?_); simp only [pS]) | (with_reducible refine (Stp.ldr rfl agg27 size27 rfl H mR sZ ?_); simp only [pS]) | (with_reducible refine (Stp.ldl rfl agg27 size27 rfl H mR (by simp) ?_); simp only [pS]; simp only [List.drop_succ_cons, List.drop_zero, List.take_succ_cons, List.take_zero])) | (with_reducible refine wpl rfl (ldQ (ty := 22) rfl ?_); first | (with_reducible refine (Stp.ldo rfl agg22 rfl H (by assumption) (by assumption) ?_); simp only [pS]) | (with_reducible refine (Stp.ldc rfl agg22 rfl H mR cE ?_); simp only [pS])))
      go_ret
      have hm : MapAt Try.prog 27 ekP evI g15 M wr := H.get (r := mapr Try.prog 27 ekP evI g15 (M)) mE
      have e1 : lateM id A (telP ls) = M := by rw [HM.out, ← HN.out, List.take_length]
      exact ⟨_, rfl, ⟨g15, rfl, by rw [e1]; exact hm⟩, H.below⟩
theorem rlate_ok (ls : List Lv) (la : Option Addr) (lc n id A : Nat) (p : Pr) (hn : ls.length = n) (hnb : n ≤ 1000) (hA : (ordH id (tellL ls)).length = A) (hA1 : A ≤ 1000) (w : World) (hl : Sl w 3 n (.slice la n lc) (elL ls)) (hlw : ∀ x ∈ ls, LvO w x) (hle : ∀ x ∈ ls, x.l.length ≤ 1000) :
    Calls Try.prog 23 #[.slice la n lc, .int .u64 (id : Int), .agg #[.int .u16 (p.1 : Int), .int .u32 (p.2 : Int)]] w (Ret fun v w' => v = .tuple #[.int .i64 ((mget (lateM id A (telP ls)) p).getD 0), .bool (mget (lateM id A (telP ls)) p).isSome] ∧ Below w.heap.size w w') := by
  have H := St.init w
  have HN := Lib.hid hn
  have HLW := Lib.hid hlw
  have HLE := Lib.hid hle
  have HA := Lib.hid hA
  have HTL : Hid (∀ z ∈ tellL ls, z.2.length ≤ 1000) := Lib.hid (tellL_len hle)
  clear hn hlw hle hA
  go_enter Try.func23, Try.ntmps23
  go_wp2_with (first | (go_at_call 12; (with_reducible refine (stays29_ok ls la lc n HN.out hnb _ (hl.grow H.below) (fun x hx => (HLW.out x hx).grow H.below) HLE.out).mono ?_); rintro e wS ⟨v, rfl, hr⟩; obtain ⟨⟨R, ra, rc, G2, rfl, hR, hG, hRG⟩, hb1⟩ := hr; have HR := Lib.hid hR; have HSL := hRG.1.sl; have HB1 := Lib.hid (H.below.trans (hb1.mono H.below.size)); have HR5 := (H.grow hb1).getRow (t := 27) (g := g5) mE; clear H; have H := St.init wS; obtain ⟨n1, hn1⟩ : ∃ n1, R.length = n1 := ⟨_, rfl⟩; have HN1 := Lib.hid hn1; rw [hn1] at HSL ⊢; clear hb1 hR hG hRG hn1) | (with_reducible refine wpl rfl (dQ 5 rfl ?_); with_reducible refine (Stp.box 5 rfl rfl rfl H ?_); clear H; intro g5 w1 H; simp only [pS]; simp only [pE, nC, pS] at H))
  have HQ : Hid (R.map (fun r => idP (ryd r)) = telP ls) := Lib.hid (by rw [← all4_idP, ← HR.out, List.map_map]; rfl)
  have HSLc := HSL
  obtain ⟨_, _, _, hmc, _⟩ := HSLc
  unfold maxLen at hmc
  have hc5 : ∀ j, j < 2 → wS.cell? ⟨g5, 0 + j, none⟩ = (#[.int .u16 (p.1 : Int), .int .u32 (p.2 : Int)] : Array Value)[j]? := fun j hj => by
    rw [cell_of_rowAt HR5]
    have hj' : j = 0 ∨ j = 1 := by omega
    rcases hj' with rfl | rfl <;> rfl
  have hlt5 : g5 < wS.heap.size := rowAt_lt HR5
  clear HR5
  have H0 := H
  clear H
  go_loopw [9, 10, 11] (fun nn hh i wi => ∃ (k : Nat) (o : Option Int), k ≤ n1 ∧ i = .int .i64 k ∧ nn = .int .i64 (o.getD 0) ∧ hh = .bool o.isSome ∧ Hid (mget (lateM id A ((telP ls).take k)) p = o) ∧ St wS.heap.size wS wi []) (fun _ _ i _ => n1 - (intOf i).toNat)
  case atStart => exact ⟨0, none, Nat.zero_le _, rfl, rfl, rfl, Lib.hid (by rw [List.take_zero]; with_unfolding_all rfl), H0⟩
  case round =>
    clear H0
    obtain ⟨k, o, hk, rfl, rfl, rfl, HO, H⟩ := hrel
    by_cases hlt2 : k < n1
    · have hl2 : k < R.length := by rw [HN1.out]; exact hlt2
      obtain ⟨b2, o2, rfl, hb2⟩ := HSL.addr (by omega)
      have hc2 := HSL.cell hlt2
      rw [elR_at hl2] at hc2
      have hmy := List.getElem_mem hl2
      have HTD : Hid ((telP ls).take (k + 1) = (telP ls).take k ++ [idP (ryd R[k])]) := Lib.hid (by
        have hk2 : k < (R.map (fun r => idP (ryd r))).length := by rw [List.length_map]; exact hl2
        rw [← HQ.out, List.take_succ_eq_append_getElem hk2]
        simp only [List.getElem_map])
      obtain ⟨y, hy⟩ : ∃ y, R[k] = y := ⟨_, rfl⟩
      rw [hy] at hc2 hmy HTD
      have hyl : y.y.told.length ≤ 1000 := HTL.out (idP (ryd y)).2 (by rw [← telP_map, ← HQ.out]; exact List.mem_map.2 ⟨_, List.mem_map.2 ⟨y, hmy, rfl⟩, rfl⟩)
      have kli : (k : Int) < (n1 : Int) := by omega
      have hcp : ∀ j, j < 2 → wS.cell? ⟨b2, o2 + k * 11 + j, none⟩ = (#[.int .u16 (y.y.p.1 : Int), .int .u32 (y.y.p.2 : Int)] : Array Value)[j]? := fun j hj => by
        rw [hc2 j (by omega)]
        have hj' : j = 0 ∨ j = 1 := by omega
        rcases hj' with rfl | rfl <;> rfl
      have hid1 : wS.cell? ⟨b2, o2 + k * 11 + 2, none⟩ = some (.int .u64 (y.y.e.1.x.id : Int)) := hc2 2 (by omega)
      have htd1 : wS.cell? ⟨b2, o2 + k * 11 + 7, none⟩ = some (.slice y.y.ta y.y.told.length y.y.tc) := hc2 7 (by omega)
      clear hmy hy hl2 hc2
      by_cases hp : y.y.p = p
      · have HEP : Hid (decide (y.y.p = p) = true) := Lib.hid (decide_eq_true hp)
        by_cases hid : y.y.e.1.x.id = id
        · have HII : Hid (((y.y.e.1.x.id : Int) == (id : Int)) = true) := Lib.hid (by simp [hid])
          have HW : Hid (IntKind.i64.wrap ((A : Int) - (y.y.told.length : Int)) = (A : Int) - (y.y.told.length : Int)) := Lib.hid (by rw [IntKind.wrap_i64]; omega)
          have HO2 : Hid (mget (lateM id A ((telP ls).take (k + 1))) p = some ((A : Int) - (y.y.told.length : Int))) := Lib.hid (by
            rw [HTD.out, lateM_snoc, lateT_yes (z := idP (ryd y)) hid]
            show mget (mput _ y.y.p _) p = _
            rw [mget_put, if_pos hp.symm]; rfl)
          clear hid hp
          go_wp2_with (first | (with_reducible refine wpl rfl (dQ 5 rfl ?_); with_reducible refine (Stp.box 5 rfl rfl rfl H ?_); clear H; intro g5 w1 H; simp only [pS]; simp only [pE, nC, pS] at H))
          refine rg_begin 17 rfl (S := fun W => St _ _ W ([] : List Res)) (by kernel_rfl) (H.drew.sub sU) ?_
          replace H := H.drew
          have HS := H
          refine rg_take (i := 0) rfl kR kR kR (Yld.move rfl rfl) (H.sub sU) ?_; simp only [pS, pE]
          refine rg_take (i := 1) rfl kR kR kR (Yld.move rfl rfl) (H.sub sU) ?_; simp only [pS, pE]
          refine rg_take (i := 2) rfl kR kR kR (Yld.o rfl) (H.sub sU) ?_; simp only [pS]
          refine rg_take (i := 3) rfl kR kR kR (Yld.o rfl) (H.sub sU) ?_; simp only [pS]
          first | (refine rg_take (i := 4) rfl kR kR kR (Yld.ldor rfl rfl agg27 size27 rfl (by assumption) sZ (by assumption)) (H.sub sU) ?_; simp only [pS]) | (refine rg_take (i := 4) rfl kR kR kR (Yld.ldr rfl rfl agg27 size27 rfl mR sZ) (H.sub sU) ?_; simp only [pS]) | (refine rg_take (i := 4) rfl kR kR kR (Yld.ldl rfl rfl agg27 size27 rfl mR (by simp)) (H.sub sU) ?_; simp only [pS]; simp only [List.drop_succ_cons, List.drop_zero, List.take_succ_cons, List.take_zero])
          first | (refine rg_take (i := 5) rfl kR kR kR (Yld.ldor rfl rfl agg27 size27 rfl (by assumption) sZ (by assumption)) (H.sub sU) ?_; simp only [pS]) | (refine rg_take (i := 5) rfl kR kR kR (Yld.ldr rfl rfl agg27 size27 rfl mR sZ) (H.sub sU) ?_; simp only [pS]) | (refine rg_take (i := 5) rfl kR kR kR (Yld.ldl rfl rfl agg27 size27 rfl mR (by simp)) (H.sub sU) ?_; simp only [pS]; simp only [List.drop_succ_cons, List.drop_zero, List.take_succ_cons, List.take_zero])
          refine rg_take (i := 6) rfl kR kR kR (Yld.eqPD rfl rfl rfl rfl HEP.out) (H.sub sU) ?_; simp only [pS, pE]
          refine rg_take (i := 7) rfl kR kR kR (Yld.move rfl rfl) (H.sub sU) ?_; simp only [pS, pE]
          refine rg_take (i := 8) rfl kR kR kR (Yld.move rfl rfl) (H.sub sU) ?_; simp only [pS, pE]
          refine rg_take (i := 9) rfl kR kR kR (Yld.move rfl rfl) (H.sub sU) ?_; simp only [pS, pE]
          refine rg_take (i := 10) rfl kR kR kR (Yld.o rfl) (H.sub sU) ?_; simp only [pS]
          refine rg_take (i := 11) rfl kR kR kR (Yld.o rfl) (H.sub sU) ?_; simp only [pS]
          refine rg_take (i := 12) rfl kR kR kR (Yld.o rfl) (H.sub sU) ?_; simp only [pS]
          first | (refine rg_take (i := 13) rfl kR kR kR (Yld.ldo rfl rfl agg37 rfl (by assumption) (by assumption)) (H.sub sU) ?_; simp only [pS]) | (refine rg_take (i := 13) rfl kR kR kR (Yld.ldc rfl rfl agg37 rfl mR cE) (H.sub sU) ?_; simp only [pS])
          refine rg_take (i := 14) rfl kR kR kR (Yld.move rfl rfl) (H.sub sU) ?_; simp only [pS, pE]
          refine rg_take (i := 15) rfl kR kR kR (Yld.of (v := .bool true) rfl (fun W _ => by go_simp; first | done | exact HII.out | (rw [HII.out]) | (simpa using HII.out))) (H.sub sU) ?_; simp only [pS, pE]
          refine rg_take (i := 16) rfl kR kR kR (Yld.pick rfl rfl rfl) (H.sub sU) ?_; simp only [pS, pE]
          refine rg_done (by kernel_rfl) ?_
          go_wp2_with (first | (with_reducible refine wpl rfl (dQ 5 rfl ?_); with_reducible refine (Stp.box 5 rfl rfl rfl H ?_); clear H; intro g5 w1 H; simp only [pS]; simp only [pE, nC, pS] at H))
          refine rg_begin 12 rfl (S := fun W => St _ _ W ([] : List Res)) (by kernel_rfl) (H.drew.sub sU) ?_
          replace H := H.drew
          have HS := H
          refine rg_take (i := 0) rfl kR kR kR (Yld.move rfl rfl) (H.sub sU) ?_; simp only [pS, pE]
          refine rg_take (i := 1) rfl kR kR kR (Yld.move rfl rfl) (H.sub sU) ?_; simp only [pS, pE]
          refine rg_take (i := 4) rfl kR kR kR (Yld.move rfl rfl) (H.sub sU) ?_; simp only [pS, pE]
          refine rg_take (i := 5) rfl kR kR kR (Yld.move rfl rfl) (H.sub sU) ?_; simp only [pS, pE]
          refine rg_take (i := 6) rfl kR kR kR (Yld.o rfl) (H.sub sU) ?_; simp only [pS]
          refine rg_take (i := 7) rfl kR kR kR (Yld.o rfl) (H.sub sU) ?_; simp only [pS]
          first | (refine rg_take (i := 8) rfl kR kR kR (Yld.ldo rfl rfl agg22 rfl (by assumption) (by assumption)) (H.sub sU) ?_; simp only [pS]) | (refine rg_take (i := 8) rfl kR kR kR (Yld.ldc rfl rfl agg22 rfl mR cE) (H.sub sU) ?_; simp only [pS])
          refine rg_take (i := 9) rfl kR kR kR (Yld.o rfl) (H.sub sU) ?_; simp only [pS]
          refine rg_one (i := 2) (by kernel_rfl) rfl rfl (fun K hK => ?_)
          refine wp_callf rfl ent21 (rorder_ok ls la lc n id HN.out hnb _ (hl.grow (HB1.out.trans (H.below.mono HB1.out.size))) (fun x hx => (HLW.out x hx).grow (HB1.out.trans (H.below.mono HB1.out.size))) HLE.out) rfl (fun v w1 hr => ?_)
          obtain ⟨⟨oa, oc, A2, rfl, hA2, _⟩, hb1⟩ := hr
          replace H := H.grow hb1
          obtain rfl : A = A2 := HA.out.symm.trans hA2
          clear hb1 hA2
          clear HS
          have HS := H
          refine hK.out _ _ (H.sub sU) ?_
          clear hK K
          simp only [pS]
          refine rg_take (i := 3) rfl kR kR kR (Yld.o rfl) (H.sub sU) ?_; simp only [pS]
          refine rg_take (i := 10) rfl kR kR kR (Yld.of (v := .int .i64 ((A : Int) - (y.y.told.length : Int))) rfl (fun W _ => by go_simp; first | done | exact HW.out | (rw [HW.out]) | (simpa using HW.out))) (H.sub sU) ?_; simp only [pS, pE]
          refine rg_take (i := 11) rfl kR kR kR (Yld.assign rfl rfl) (H.sub sU) ?_; simp only [pS, pE]
          refine rg_done (by kernel_rfl) ?_
          go_wp2_with (first | (with_reducible refine wpl rfl (dQ 5 rfl ?_); with_reducible refine (Stp.box 5 rfl rfl rfl H ?_); clear H; intro g5 w1 H; simp only [pS]; simp only [pE, nC, pS] at H))
          go_roundw
          case rel => exact ⟨k + 1, some ((A : Int) - (y.y.told.length : Int)), by omega, by go_num, rfl, rfl, HO2, H.sub sU⟩
          case measure => simp [intOf]; omega
        · have HII : Hid (((y.y.e.1.x.id : Int) == (id : Int)) = false) := Lib.hid (by simp; omega)
          have HO2 : Hid (mget (lateM id A ((telP ls).take (k + 1))) p = o) := Lib.hid (by
            rw [HTD.out, lateM_snoc, lateT_no (z := idP (ryd y)) hid, HO.out])
          clear hid hp
          go_wp2_with (first | (with_reducible refine wpl rfl (dQ 5 rfl ?_); with_reducible refine (Stp.box 5 rfl rfl rfl H ?_); clear H; intro g5 w1 H; simp only [pS]; simp only [pE, nC, pS] at H))
          refine rg_begin 17 rfl (S := fun W => St _ _ W ([] : List Res)) (by kernel_rfl) (H.drew.sub sU) ?_
          replace H := H.drew
          have HS := H
          refine rg_take (i := 0) rfl kR kR kR (Yld.move rfl rfl) (H.sub sU) ?_; simp only [pS, pE]
          refine rg_take (i := 1) rfl kR kR kR (Yld.move rfl rfl) (H.sub sU) ?_; simp only [pS, pE]
          refine rg_take (i := 2) rfl kR kR kR (Yld.o rfl) (H.sub sU) ?_; simp only [pS]
          refine rg_take (i := 3) rfl kR kR kR (Yld.o rfl) (H.sub sU) ?_; simp only [pS]
          first | (refine rg_take (i := 4) rfl kR kR kR (Yld.ldor rfl rfl agg27 size27 rfl (by assumption) sZ (by assumption)) (H.sub sU) ?_; simp only [pS]) | (refine rg_take (i := 4) rfl kR kR kR (Yld.ldr rfl rfl agg27 size27 rfl mR sZ) (H.sub sU) ?_; simp only [pS]) | (refine rg_take (i := 4) rfl kR kR kR (Yld.ldl rfl rfl agg27 size27 rfl mR (by simp)) (H.sub sU) ?_; simp only [pS]; simp only [List.drop_succ_cons, List.drop_zero, List.take_succ_cons, List.take_zero])
          first | (refine rg_take (i := 5) rfl kR kR kR (Yld.ldor rfl rfl agg27 size27 rfl (by assumption) sZ (by assumption)) (H.sub sU) ?_; simp only [pS]) | (refine rg_take (i := 5) rfl kR kR kR (Yld.ldr rfl rfl agg27 size27 rfl mR sZ) (H.sub sU) ?_; simp only [pS]) | (refine rg_take (i := 5) rfl kR kR kR (Yld.ldl rfl rfl agg27 size27 rfl mR (by simp)) (H.sub sU) ?_; simp only [pS]; simp only [List.drop_succ_cons, List.drop_zero, List.take_succ_cons, List.take_zero])
          refine rg_take (i := 6) rfl kR kR kR (Yld.eqPD rfl rfl rfl rfl HEP.out) (H.sub sU) ?_; simp only [pS, pE]
          refine rg_take (i := 7) rfl kR kR kR (Yld.move rfl rfl) (H.sub sU) ?_; simp only [pS, pE]
          refine rg_take (i := 8) rfl kR kR kR (Yld.move rfl rfl) (H.sub sU) ?_; simp only [pS, pE]
          refine rg_take (i := 9) rfl kR kR kR (Yld.move rfl rfl) (H.sub sU) ?_; simp only [pS, pE]
          refine rg_take (i := 10) rfl kR kR kR (Yld.o rfl) (H.sub sU) ?_; simp only [pS]
          refine rg_take (i := 11) rfl kR kR kR (Yld.o rfl) (H.sub sU) ?_; simp only [pS]
          refine rg_take (i := 12) rfl kR kR kR (Yld.o rfl) (H.sub sU) ?_; simp only [pS]
          first | (refine rg_take (i := 13) rfl kR kR kR (Yld.ldo rfl rfl agg37 rfl (by assumption) (by assumption)) (H.sub sU) ?_; simp only [pS]) | (refine rg_take (i := 13) rfl kR kR kR (Yld.ldc rfl rfl agg37 rfl mR cE) (H.sub sU) ?_; simp only [pS])
          refine rg_take (i := 14) rfl kR kR kR (Yld.move rfl rfl) (H.sub sU) ?_; simp only [pS, pE]
          refine rg_take (i := 15) rfl kR kR kR (Yld.of (v := .bool false) rfl (fun W _ => by go_simp; first | done | exact HII.out | (rw [HII.out]) | (simpa using HII.out))) (H.sub sU) ?_; simp only [pS, pE]
          refine rg_take (i := 16) rfl kR kR kR (Yld.pick rfl rfl rfl) (H.sub sU) ?_; simp only [pS, pE]
          refine rg_done (by kernel_rfl) ?_
          go_wp2_with (first | (with_reducible refine wpl rfl (dQ 5 rfl ?_); with_reducible refine (Stp.box 5 rfl rfl rfl H ?_); clear H; intro g5 w1 H; simp only [pS]; simp only [pE, nC, pS] at H))
          go_roundw
          case rel => exact ⟨k + 1, o, by omega, by go_num, rfl, rfl, HO2, H.sub sU⟩
          case measure => simp [intOf]; omega
      · have HEP : Hid (decide (y.y.p = p) = false) := Lib.hid (decide_eq_false hp)
        have HO2 : Hid (mget (lateM id A ((telP ls).take (k + 1))) p = o) := Lib.hid (by
          rw [HTD.out, lateM_snoc]
          by_cases hid : (idP (ryd y)).2.1 = id
          · rw [lateT_yes hid, mget_put, if_neg (fun e => hp e.symm), HO.out]
          · rw [lateT_no hid, HO.out])
        clear hp
        go_wp2_with (first | (with_reducible refine wpl rfl (dQ 5 rfl ?_); with_reducible refine (Stp.box 5 rfl rfl rfl H ?_); clear H; intro g5 w1 H; simp only [pS]; simp only [pE, nC, pS] at H))
        refine rg_begin 17 rfl (S := fun W => St _ _ W ([] : List Res)) (by kernel_rfl) (H.drew.sub sU) ?_
        replace H := H.drew
        have HS := H
        refine rg_take (i := 0) rfl kR kR kR (Yld.move rfl rfl) (H.sub sU) ?_; simp only [pS, pE]
        refine rg_take (i := 1) rfl kR kR kR (Yld.move rfl rfl) (H.sub sU) ?_; simp only [pS, pE]
        refine rg_take (i := 2) rfl kR kR kR (Yld.o rfl) (H.sub sU) ?_; simp only [pS]
        refine rg_take (i := 3) rfl kR kR kR (Yld.o rfl) (H.sub sU) ?_; simp only [pS]
        first | (refine rg_take (i := 4) rfl kR kR kR (Yld.ldor rfl rfl agg27 size27 rfl (by assumption) sZ (by assumption)) (H.sub sU) ?_; simp only [pS]) | (refine rg_take (i := 4) rfl kR kR kR (Yld.ldr rfl rfl agg27 size27 rfl mR sZ) (H.sub sU) ?_; simp only [pS]) | (refine rg_take (i := 4) rfl kR kR kR (Yld.ldl rfl rfl agg27 size27 rfl mR (by simp)) (H.sub sU) ?_; simp only [pS]; simp only [List.drop_succ_cons, List.drop_zero, List.take_succ_cons, List.take_zero])
        first | (refine rg_take (i := 5) rfl kR kR kR (Yld.ldor rfl rfl agg27 size27 rfl (by assumption) sZ (by assumption)) (H.sub sU) ?_; simp only [pS]) | (refine rg_take (i := 5) rfl kR kR kR (Yld.ldr rfl rfl agg27 size27 rfl mR sZ) (H.sub sU) ?_; simp only [pS]) | (refine rg_take (i := 5) rfl kR kR kR (Yld.ldl rfl rfl agg27 size27 rfl mR (by simp)) (H.sub sU) ?_; simp only [pS]; simp only [List.drop_succ_cons, List.drop_zero, List.take_succ_cons, List.take_zero])
        refine rg_take (i := 6) rfl kR kR kR (Yld.eqPD rfl rfl rfl rfl HEP.out) (H.sub sU) ?_; simp only [pS, pE]
        refine rg_take (i := 7) rfl kR kR kR (Yld.move rfl rfl) (H.sub sU) ?_; simp only [pS, pE]
        refine rg_take (i := 8) rfl kR kR kR (Yld.skip rfl) (H.sub sU) ?_; simp only [pS]
        refine rg_take (i := 9) rfl kR kR kR (Yld.skip rfl) (H.sub sU) ?_; simp only [pS]
        refine rg_take (i := 10) rfl kR kR kR (Yld.skip rfl) (H.sub sU) ?_; simp only [pS]
        refine rg_take (i := 11) rfl kR kR kR (Yld.skip rfl) (H.sub sU) ?_; simp only [pS]
        refine rg_take (i := 12) rfl kR kR kR (Yld.skip rfl) (H.sub sU) ?_; simp only [pS]
        refine rg_take (i := 13) rfl kR kR kR (Yld.skip rfl) (H.sub sU) ?_; simp only [pS]
        refine rg_take (i := 14) rfl kR kR kR (Yld.skip rfl) (H.sub sU) ?_; simp only [pS]
        refine rg_take (i := 15) rfl kR kR kR (Yld.skip rfl) (H.sub sU) ?_; simp only [pS]
        refine rg_take (i := 16) rfl kR kR kR (Yld.pick rfl rfl rfl) (H.sub sU) ?_; simp only [pS, pE]
        refine rg_done (by kernel_rfl) ?_
        go_wp2_with (first | (with_reducible refine wpl rfl (dQ 5 rfl ?_); with_reducible refine (Stp.box 5 rfl rfl rfl H ?_); clear H; intro g5 w1 H; simp only [pS]; simp only [pE, nC, pS] at H))
        go_roundw
        case rel => exact ⟨k + 1, o, by omega, by go_num, rfl, rfl, HO2, H.sub sU⟩
        case measure => simp [intOf]; omega
    · obtain rfl : k = n1 := by omega
      have HOE : Hid (mget (lateM id A (telP ls)) p = o) := Lib.hid (by
        have := HO.out
        rw [List.take_of_length_le (by rw [← HQ.out, List.length_map, HN1.out]; exact Nat.le_refl _)] at this
        exact this)
      go_wp2_with (first | (with_reducible refine wpl rfl (dQ 5 rfl ?_); with_reducible refine (Stp.box 5 rfl rfl rfl H ?_); clear H; intro g5 w1 H; simp only [pS]; simp only [pE, nC, pS] at H))
      go_ret2
      exact ⟨_, rfl, by rw [HOE.out]; rfl, HB1.out.trans (H.below.mono HB1.out.size)⟩
end Go.Proofs.Ytbepaafgcbgmfaa
