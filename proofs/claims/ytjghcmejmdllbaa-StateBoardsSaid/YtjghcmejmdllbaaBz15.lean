/- The statement StateNil of layer 19 (state), proved; no condition: a state that is none, the example, the law's walk, and the row round it. Contracts of layer 1's short forms; the bounds on lengths stand in each. Contracts of layer 1's reference Short, and the document's examples of that layer; no condition. -/
import Derived.Test.YtjghcmejmdllbaaBz14
import Derived.Test.YtjghcmejmdllbaaBz2
namespace Go.Proofs.Ytjghcmejmdllbaa
open Go.ChangeShapes Go.WideShapes Go.ChangeAt Go.RowKit Go.Maps Go.Deep
set_option linter.unusedVariables false
set_option linter.unusedSimpArgs false
set_option linter.unusedSectionVars false
set_option maxRecDepth 100000
set_option maxHeartbeats 4000000
/-! ### '==' of two boards -/
section
variable {P : Program}
theorem run_arr_self_loop (e : TypeId) (d : Nat) (hagg : ∀ W : World, (isAgg e).run P W = .ok false W) (xs : Array Value) (w : World) :
    ∀ (l : List Nat), (∀ i ∈ l, ∃ v, xs[i]? = some v ∧ (Op.equalIn (d + 1) e v v).run P w = .ok true w) →
    (forIn (m := Sem) (β := Option Bool × PUnit) l (none, PUnit.unit) fun i _ => do
        let a ← part e xs (i * 1)
        let b ← part e xs (i * 1)
        let r ← Op.equalIn (d + 1) e a b
        if (!r) = true then pure (ForInStep.done (some false, PUnit.unit)) else pure (ForInStep.yield (none, PUnit.unit))).run P w =
      .ok (none, PUnit.unit) w := by
  intro l
  induction l with
  | nil => intro _; simp
  | cons i l ih =>
    intro h
    obtain ⟨v, h1, h2⟩ := h i (by simp)
    have ih' := ih (fun j hj => h j (by simp [hj]))
    rw [List.forIn_cons]
    simp only [Nat.mul_one] at ih' ⊢
    simp only [Sem.run_bind, run_part_cell hagg h1, Result.andThen_ok, h2, Bool.not_true, Bool.false_eq_true, if_false, Sem.run_pure, ih']
theorem run_equalIn_self (w : World) (t e : TypeId) (n : Nat) (d : Nat) (ht : P.underlying t = some (.array n e)) (hagg : ∀ W : World, (isAgg e).run P W = .ok false W) (hs : ∀ W : World, (sizeOf e).run P W = .ok 1 W)
    (xs : Array Value) (h : ∀ i, i < n → ∃ v, xs[i]? = some v ∧ (Op.equalIn (d + 1) e v v).run P w = .ok true w) :
    (Op.equalIn (d + 2) t (.agg xs) (.agg xs)).run P w = .ok true w := by
  unfold Op.equalIn
  simp only [Sem.run_bind, run_underlying ht, Result.andThen_ok, hs]
  rw [Std.Legacy.Range.forIn_eq_forIn_range']
  have hl := run_arr_self_loop e d hagg xs w (List.range n) (fun i hi => h i (by simpa using hi))
  have hr : List.range' [:n].start [:n].size [:n].step = List.range n := by simp [Std.Legacy.Range.size, List.range_eq_range']
  rw [hr]
  rw [hl]
  rfl
end
theorem eqBD_self (s0 s1 s2 s3 s4 s5 s6 s7 : ByteArray) (w : World) : (Op.equalIn 10000 46 (.agg #[.string s0, .string s1, .string s2, .string s3, .string s4, .string s5, .string s6, .string s7]) (.agg #[.string s0, .string s1, .string s2, .string s3, .string s4, .string s5, .string s6, .string s7])).run Try.prog w = .ok true w := by
  have key : ∀ s : ByteArray, (Op.equalIn 9999 9 (.string s) (.string s)).run Try.prog w = .ok true w := fun s => by
    rw [show (9999 : Nat) = 9998 + 1 from rfl, run_equalIn_string w 9998 9 s s Try.underlying9]; simp
  refine run_equalIn_self w 46 9 8 9998 Try.underlying46 (fun W => by kernel_rfl) (fun W => by kernel_rfl) _ (fun i hi => ?_)
  have : i = 0 ∨ i = 1 ∨ i = 2 ∨ i = 3 ∨ i = 4 ∨ i = 5 ∨ i = 6 ∨ i = 7 := by omega
  rcases this with rfl | rfl | rfl | rfl | rfl | rfl | rfl | rfl <;> exact ⟨_, rfl, key _⟩
theorem eqg_BD : Try.prog.eqGuardType Try.prog.depth 46 = false := by kernel_rfl
theorem eqlBD (s0 s1 s2 s3 s4 s5 s6 s7 : ByteArray) (w : World) : (binOp .eql 46 (.agg #[.string s0, .string s1, .string s2, .string s3, .string s4, .string s5, .string s6, .string s7]) (.agg #[.string s0, .string s1, .string s2, .string s3, .string s4, .string s5, .string s6, .string s7])).run Try.prog w = .ok (.bool true) w := by
  have h2 : (Op.equal 46 (.agg #[.string s0, .string s1, .string s2, .string s3, .string s4, .string s5, .string s6, .string s7]) (.agg #[.string s0, .string s1, .string s2, .string s3, .string s4, .string s5, .string s6, .string s7])).run Try.prog w = .ok true w := eqBD_self s0 s1 s2 s3 s4 s5 s6 s7 w
  simp only [binOp]
  simp [h2, eqg_BD]
theorem neqBD (s0 s1 s2 s3 s4 s5 s6 s7 : ByteArray) (w : World) : (binOp .neq 46 (.agg #[.string s0, .string s1, .string s2, .string s3, .string s4, .string s5, .string s6, .string s7]) (.agg #[.string s0, .string s1, .string s2, .string s3, .string s4, .string s5, .string s6, .string s7])).run Try.prog w = .ok (.bool false) w := by
  have h2 : (Op.equal 46 (.agg #[.string s0, .string s1, .string s2, .string s3, .string s4, .string s5, .string s6, .string s7]) (.agg #[.string s0, .string s1, .string s2, .string s3, .string s4, .string s5, .string s6, .string s7])).run Try.prog w = .ok true w := eqBD_self s0 s1 s2 s3 s4 s5 s6 s7 w
  simp only [binOp]
  simp [h2, eqg_BD]
theorem Stp.eqlB {a : Act} {w : World} {o : Oper} {N : Act → World → Prop} {x y : Operand} {s0 s1 s2 s3 s4 s5 s6 s7 : ByteArray} (ho : o.op = .binOp .eql 46 x y 46) (hx : a.eval x = .agg #[.string s0, .string s1, .string s2, .string s3, .string s4, .string s5, .string s6, .string s7]) (hy : a.eval y = .agg #[.string s0, .string s1, .string s2, .string s3, .string s4, .string s5, .string s6, .string s7])
    (h : N (a.put o.dst (.bool true)) w) : Stp Try.prog o a w N := by
  refine ⟨w, .inl ⟨_, ?_, h⟩⟩
  unfold execOp; simp only [ho, hx, hy]
  simp [eqlBD, eqGuard, eqg_BD]
/-! ### A state that is none -/
theorem nCounts_ok (cs : Array Value) (w : World) : Calls Try.prog 16 #[.pointer none, .agg cs] w (Ret fun v w' => v = .bool false ∧ Below w.heap.size w w') := by
  have H := St.init w
  go_enter Try.func16, Try.ntmps16
  go_wp2_with (first | (with_reducible refine wpl rfl (dQ 3 rfl ?_); with_reducible refine (Stp.box 3 rfl rfl rfl H ?_); clear H; intro g3 w1 H; simp only [pS]; simp only [pE, nC, pS] at H) | (with_reducible refine wpl rfl (ldQ (ty := 43) rfl ?_); first | (with_reducible refine (Stp.ldor rfl agg43 size43 rfl H (by assumption) sZ (by assumption) ?_); simp only [pS]) | (with_reducible refine (Stp.ldr rfl agg43 size43 rfl H mR sZ ?_); simp only [pS]) | (with_reducible refine (Stp.ldl rfl agg43 size43 rfl H mR (by simp) ?_); simp only [pS]; simp only [List.drop_succ_cons, List.drop_zero, List.take_succ_cons, List.take_zero])) | (with_reducible refine wpl rfl (ldQ (ty := 3) rfl ?_); first | (with_reducible refine (Stp.ldo rfl agg3 rfl H (by assumption) (by assumption) ?_); simp only [pS]) | (with_reducible refine (Stp.ldc rfl agg3 rfl H mR cE ?_); simp only [pS])))
  go_ret
  exact ⟨_, rfl, rfl, H.below⟩
theorem nApply_ok (c0 c1 c2 c3 c4 c5 c6 c7 c8 c9 : Value) (w : World) : Calls Try.prog 15 #[.pointer none, .agg #[c0, c1, c2, c3, c4, c5, c6, c7, c8, c9]] w (Ret fun v w' => v = .tuple #[.agg #[.int .i64 0, .int .u64 0, .slice none 0 0, .slice none 0 0, .slice none 0 0, .int .u16 0, .int .u32 0, .int .u64 0, .slice none 0 0], .bool false] ∧ Below w.heap.size w w') := by
  have H := St.init w
  go_enter Try.func15, Try.ntmps15
  go_wp2_with (first | (go_at_call 16; (with_reducible refine (nCounts_ok _ _).mono ?_); rintro e w1 ⟨v, rfl, hr⟩; obtain ⟨rfl, hb1⟩ := hr; replace H := H.grow hb1; clear hb1) | (with_reducible refine wpl rfl (dQ 10 rfl ?_); with_reducible refine (Stp.build (v := (.agg #[.int .i64 0, .int .u64 0, .slice none 0 0, .slice none 0 0, .slice none 0 0, .int .u16 0, .int .u32 0, .int .u64 0, .slice none 0 0])) 10 rfl rfl (fun W => by kernel_rfl) ?_); simp only [pS]) | (with_reducible refine wpl rfl (dQ 3 rfl ?_); with_reducible refine (Stp.box 3 rfl rfl rfl H ?_); clear H; intro g3 w1 H; simp only [pS]; simp only [pE, nC, pS] at H) | (with_reducible refine wpl rfl (dQ 4 rfl ?_); with_reducible refine (Stp.alloc 4 rfl rfl zero39 H ?_); clear H; intro g4 w1 H; simp only [pS]; simp only [nC] at H) | (with_reducible refine wpl rfl (ldQ (ty := 43) rfl ?_); first | (with_reducible refine (Stp.ldor rfl agg43 size43 rfl H (by assumption) sZ (by assumption) ?_); simp only [pS]) | (with_reducible refine (Stp.ldr rfl agg43 size43 rfl H mR sZ ?_); simp only [pS]) | (with_reducible refine (Stp.ldl rfl agg43 size43 rfl H mR (by simp) ?_); simp only [pS]; simp only [List.drop_succ_cons, List.drop_zero, List.take_succ_cons, List.take_zero])) | (with_reducible refine wpl rfl (stQ (ty := 39) rfl ?_); first | (with_reducible refine (Stp.str rfl size39 rfl rfl (by first | rfl | (simp [Value.oneCell']; done) | assumption) H uP sZ sZ ?_); clear H; intro w1 H; simp only [pS]) | (with_reducible refine (Stp.stl rfl size39 rfl rfl rfl rfl H uP (by simp) ?_); clear H; intro w1 H; simp only [pS]; simp only [List.drop_succ_cons, List.drop_zero, List.take_succ_cons, List.take_zero, List.nil_append, List.cons_append, Nat.reduceAdd] at H)) | (with_reducible refine wpl rfl (ldQ (ty := 3) rfl ?_); first | (with_reducible refine (Stp.ldo rfl agg3 rfl H (by assumption) (by assumption) ?_); simp only [pS]) | (with_reducible refine (Stp.ldc rfl agg3 rfl H mR cE ?_); simp only [pS])) | (with_reducible refine wpl rfl (ldQ (ty := 26) rfl ?_); first | (with_reducible refine (Stp.ldor rfl agg26 size26 rfl H (by assumption) sZ (by assumption) ?_); simp only [pS]) | (with_reducible refine (Stp.ldr rfl agg26 size26 rfl H mR sZ ?_); simp only [pS]) | (with_reducible refine (Stp.ldl rfl agg26 size26 rfl H mR (by simp) ?_); simp only [pS]; simp only [List.drop_succ_cons, List.drop_zero, List.take_succ_cons, List.take_zero])) | (with_reducible refine wpl rfl (stQ (ty := 26) rfl ?_); first | (with_reducible refine (Stp.str rfl size26 rfl rfl (by first | rfl | (simp [Value.oneCell']; done) | assumption) H uP sZ sZ ?_); clear H; intro w1 H; simp only [pS]) | (with_reducible refine (Stp.stl rfl size26 rfl rfl rfl rfl H uP (by simp) ?_); clear H; intro w1 H; simp only [pS]; simp only [List.drop_succ_cons, List.drop_zero, List.take_succ_cons, List.take_zero, List.nil_append, List.cons_append, Nat.reduceAdd] at H)) | (with_reducible refine wpl rfl (stQ (ty := 114) rfl ?_); first | (with_reducible refine (Stp.stc rfl size114 rfl rfl rfl rfl H uP (by first | omega | (simp; done) | (simp; omega)) ?_); clear H; intro w1 H; simp only [pS]; simp only [pE, nC, pS] at H)) | (with_reducible refine wpl rfl (ldQ (ty := 37) rfl ?_); first | (with_reducible refine (Stp.ldo rfl agg37 rfl H (by assumption) (by assumption) ?_); simp only [pS]) | (with_reducible refine (Stp.ldc rfl agg37 rfl H mR cE ?_); simp only [pS])))
  exact post_row2 rfl agg39 size39 rfl H mE rfl rfl ⟨_, rfl, rfl, H.below⟩
theorem nView_ok (w : World) : Calls Try.prog 21 #[.pointer none] w (Ret fun v w' => v = .agg #[.int .u64 0, .slice none 0 0, .slice none 0 0, .slice none 0 0] ∧ Below w.heap.size w w') := by
  have H := St.init w
  go_enter Try.func21, Try.ntmps21
  go_wp2_with (first | (with_reducible refine wpl rfl (dQ 5 rfl ?_); with_reducible refine (Stp.build (v := (.agg #[.int .u64 0, .slice none 0 0, .slice none 0 0, .slice none 0 0])) 5 rfl rfl (fun W => by kernel_rfl) ?_); simp only [pS]) | (with_reducible refine wpl rfl (dQ 2 rfl ?_); with_reducible refine (Stp.alloc 2 rfl rfl zero26 H ?_); clear H; intro g2 w1 H; simp only [pS]; simp only [nC] at H) | (with_reducible refine wpl rfl (stQ (ty := 26) rfl ?_); first | (with_reducible refine (Stp.str rfl size26 rfl rfl (by first | rfl | (simp [Value.oneCell']; done) | assumption) H uP sZ sZ ?_); clear H; intro w1 H; simp only [pS]) | (with_reducible refine (Stp.stl rfl size26 rfl rfl rfl rfl H uP (by simp) ?_); clear H; intro w1 H; simp only [pS]; simp only [List.drop_succ_cons, List.drop_zero, List.take_succ_cons, List.take_zero, List.nil_append, List.cons_append, Nat.reduceAdd] at H)) | (with_reducible refine wpl rfl (ldQ (ty := 26) rfl ?_); first | (with_reducible refine (Stp.ldor rfl agg26 size26 rfl H (by assumption) sZ (by assumption) ?_); simp only [pS]) | (with_reducible refine (Stp.ldr rfl agg26 size26 rfl H mR sZ ?_); simp only [pS]) | (with_reducible refine (Stp.ldl rfl agg26 size26 rfl H mR (by simp) ?_); simp only [pS]; simp only [List.drop_succ_cons, List.drop_zero, List.take_succ_cons, List.take_zero])))
  exact post_row rfl agg26 size26 rfl H mE rfl rfl ⟨_, rfl, rfl, H.below⟩
theorem nLast_ok (cs : Array Value) (w : World) : Calls Try.prog 22 #[.pointer none, .agg cs] w (Ret fun v w' => v = .int .u64 0 ∧ Below w.heap.size w w') := by
  have H := St.init w
  go_enter Try.func22, Try.ntmps22
  go_wp2_with (first | (with_reducible refine wpl rfl (dQ 3 rfl ?_); with_reducible refine (Stp.box 3 rfl rfl rfl H ?_); clear H; intro g3 w1 H; simp only [pS]; simp only [pE, nC, pS] at H))
  go_ret
  exact ⟨_, rfl, rfl, H.below⟩
theorem nBoard_ok (w : World) : Calls Try.prog 24 #[.pointer none] w (Ret fun v w' => v = .agg #[.string ByteArray.empty, .string ByteArray.empty, .string ByteArray.empty, .string ByteArray.empty, .string ByteArray.empty, .string ByteArray.empty, .string ByteArray.empty, .string ByteArray.empty] ∧ Below w.heap.size w w') := by
  have H := St.init w
  go_enter Try.func24, Try.ntmps24
  go_wp2_with (first | (with_reducible refine wpl rfl (dQ 5 rfl ?_); with_reducible refine (Stp.build (v := (.agg #[.string ByteArray.empty, .string ByteArray.empty, .string ByteArray.empty, .string ByteArray.empty, .string ByteArray.empty, .string ByteArray.empty, .string ByteArray.empty, .string ByteArray.empty])) 5 rfl rfl (fun W => by kernel_rfl) ?_); simp only [pS]) | (with_reducible refine wpl rfl (dQ 2 rfl ?_); with_reducible refine (Stp.alloc 2 rfl rfl zero46 H ?_); clear H; intro g2 w1 H; simp only [pS]; simp only [nC] at H) | (with_reducible refine wpl rfl (stQ (ty := 46) rfl ?_); first | (with_reducible refine (Stp.str rfl size46 rfl rfl (by first | rfl | (simp [Value.oneCell']; done) | assumption) H uP sZ sZ ?_); clear H; intro w1 H; simp only [pS]) | (with_reducible refine (Stp.stl rfl size46 rfl rfl rfl rfl H uP (by simp) ?_); clear H; intro w1 H; simp only [pS]; simp only [List.drop_succ_cons, List.drop_zero, List.take_succ_cons, List.take_zero, List.nil_append, List.cons_append, Nat.reduceAdd] at H)) | (with_reducible refine wpl rfl (ldQ (ty := 46) rfl ?_); first | (with_reducible refine (Stp.ldor rfl agg46 size46 rfl H (by assumption) sZ (by assumption) ?_); simp only [pS]) | (with_reducible refine (Stp.ldr rfl agg46 size46 rfl H mR sZ ?_); simp only [pS]) | (with_reducible refine (Stp.ldl rfl agg46 size46 rfl H mR (by simp) ?_); simp only [pS]; simp only [List.drop_succ_cons, List.drop_zero, List.take_succ_cons, List.take_zero])))
  exact post_row rfl agg46 size46 rfl H mE rfl rfl ⟨_, rfl, rfl, H.below⟩
theorem nLoad_ok (cs : Array Value) (w : World) : Calls Try.prog 26 #[.pointer none, .agg cs] w (Ret fun v w' => v = .bool false ∧ Below w.heap.size w w') := by
  have H := St.init w
  go_enter Try.func26, Try.ntmps26
  go_wp2_with (first | (with_reducible refine wpl rfl (dQ 3 rfl ?_); with_reducible refine (Stp.box 3 rfl rfl rfl H ?_); clear H; intro g3 w1 H; simp only [pS]; simp only [pE, nC, pS] at H) | (with_reducible refine wpl rfl (ldQ (ty := 46) rfl ?_); first | (with_reducible refine (Stp.ldor rfl agg46 size46 rfl H (by assumption) sZ (by assumption) ?_); simp only [pS]) | (with_reducible refine (Stp.ldr rfl agg46 size46 rfl H mR sZ ?_); simp only [pS]) | (with_reducible refine (Stp.ldl rfl agg46 size46 rfl H mR (by simp) ?_); simp only [pS]; simp only [List.drop_succ_cons, List.drop_zero, List.take_succ_cons, List.take_zero])) | (with_reducible refine wpl rfl (stQ (ty := 46) rfl ?_); first | (with_reducible refine (Stp.str rfl size46 rfl rfl (by first | rfl | (simp [Value.oneCell']; done) | assumption) H uP sZ sZ ?_); clear H; intro w1 H; simp only [pS]) | (with_reducible refine (Stp.stl rfl size46 rfl rfl rfl rfl H uP (by simp) ?_); clear H; intro w1 H; simp only [pS]; simp only [List.drop_succ_cons, List.drop_zero, List.take_succ_cons, List.take_zero, List.nil_append, List.cons_append, Nat.reduceAdd] at H)))
  go_ret
  exact ⟨_, rfl, rfl, H.below⟩
theorem nSame0_ok (w : World) : Calls Try.prog 25 #[.pointer none, .pointer none] w (Ret fun v w' => v = .bool true ∧ Below w.heap.size w w') := by
  have H := St.init w
  go_enter Try.func25, Try.ntmps25
  go_wp2_with fail
  go_ret
  exact ⟨_, rfl, rfl, H.below⟩
theorem nil_eql_in {P : Program} (d : Nat) (t : TypeId) (a : Addr) (h : P.underlying t = some (.pointer (P.pointee t))) (w : World) : (Op.equalIn (d + 1) t (.pointer none) (.pointer (some a))).run P w = .ok false w := by
  simp [Op.equalIn, run_underlying h]
theorem nil_eql_some (a : Addr) (w : World) : (binOp .eql 30 (.pointer none) (.pointer (some a))).run Try.prog w = .ok (.bool false) w := by
  have h2 : (Op.equal 30 (.pointer none) (.pointer (some a))).run Try.prog w = .ok false w := nil_eql_in 9999 30 a (by kernel_rfl) w
  simp only [binOp]
  simp [h2]
attribute [local go_sem] nil_eql_some in
theorem nSame1_ok (g0 : Nat) (w : World) : Calls Try.prog 25 #[.pointer none, .pointer (some ⟨g0, 0, none⟩)] w (Ret fun v w' => v = .bool false ∧ Below w.heap.size w w') := by
  have H := St.init w
  go_enter Try.func25, Try.ntmps25
  go_wp2_with fail
  go_ret
  exact ⟨_, rfl, rfl, H.below⟩
theorem rvsz_ok (w : World) : Calls Try.prog 20 #[.agg #[.int .u64 0, .slice none 0 0, .slice none 0 0, .slice none 0 0], .agg #[.int .u64 0, .slice none 0 0, .slice none 0 0, .slice none 0 0]] w (Ret fun v w' => v = .bool true ∧ Below w.heap.size w w') :=
  rvsame_is (G1 := fun _ => False) (G2 := fun _ => False) vw0 vw0 none none none none none none 0 0 0 0 0 0 w true (VwG.nil _ _ 0) (VwG.nil _ _ 0) (vSame_iff.2 rfl)
theorem gV_sm {x : Vw} (h : gV x = false) : smV x := by
  unfold gV at h
  simp only [Bool.or_eq_false_iff, decide_eq_false_iff_not, List.any_eq_false] at h
  obtain ⟨⟨⟨h2, h3⟩, h4⟩, h5⟩ := h
  exact ⟨by omega, by omega, fun l hl => by have := h5 l hl; simp at this; omega, by omega⟩
/-! ### The example -/
def awV : Vw := ⟨1, [(1, 1)], [[(1, 1)]], [(1, 1)]⟩
def awK : Cm := ⟨2, (1, 1), 1, 1, [], vw0⟩
theorem awK_err : cErr awK = 0 := by
  have h1 : only awK = awK := rfl
  have h2 : cSame awK awK = true := cSame_iff.2 rfl
  unfold cErr kindOk
  rw [h1, h2]
  rfl
theorem awV_sm : smV awV := ⟨by decide, by decide, (by intro l hl; simp only [awV, List.mem_singleton] at hl; subst hl; decide), by decide⟩
theorem awK_sm : smC awK := ⟨by decide, ⟨by decide, by decide, (by intro l hl; cases hl), by decide⟩⟩
theorem awK_wf : wfC awK := ⟨by decide, by decide, by decide, by decide, (by intro x hx; cases hx), ⟨by decide, (by intro p hp; cases hp), (by intro l hl; cases hl), (by intro p hp; cases hp)⟩⟩
theorem awK_yes : cntS awV (lastN [] awK.fr) awK = true := by unfold cntS; rw [awK_err]; decide
theorem awK_no : cntS awV (lastN (mput [] awK.fr awK.num) awK.fr) awK = false := by unfold cntS; rw [awK_err]; decide
theorem slg_one {G : Nat → Prop} {W : World} {gb : Nat} (h : W.heap[gb]? = some (.cells #[.int .u16 1, .int .u32 1] 36 (0, 0))) (hG : G gb) : SlG G W 2 1 (.slice (some ⟨gb, 0, none⟩) 1 1) (elQ [(1, 1)]) :=
  ⟨_, _, rfl, by simp [maxLen], fun _ => ⟨gb, 0, rfl, hG, rowAt_lt (rowAt_of h), fun i hi j hj => by
    rw [cell_of_rowAt (rowAt_of h)]
    obtain rfl : i = 0 := by omega
    have : j = 0 ∨ j = 1 := by omega
    rcases this with rfl | rfl <;> rfl⟩⟩
theorem awnew19_ok {B : Nat} {w0 : World} {L : List Res} (ga gb gc gd : Nat) (w : World) (H : St B w0 w (row 36 gd #[.int .u16 1, .int .u32 1] :: row 23 gc #[.slice (some ⟨gb, 0, none⟩) 1 1] :: row 36 gb #[.int .u16 1, .int .u32 1] :: row 36 ga #[.int .u16 1, .int .u32 1] :: L)) :
    Calls Try.prog 14 #[.agg #[.int .u64 1, .slice (some ⟨ga, 0, none⟩) 1 1, .slice (some ⟨gc, 0, none⟩) 1 1, .slice (some ⟨gd, 0, none⟩) 1 1]] w (Ret fun v w' => ∃ g0 R, v = .pointer (some ⟨g0, 0, none⟩) ∧ StaR g0 awV [] bd0 R ∧ St B w0 w' (R :: L)) := by
  refine (snew_ok (G1 := fun _ => True) awV (some ⟨ga, 0, none⟩) (some ⟨gc, 0, none⟩) (some ⟨gd, 0, none⟩) 1 1 1 awV_sm w (fun W _ q => ?_) H).mono ?_
  · have h1 := q _ List.mem_cons_self
    have h2 := q _ (List.mem_cons_of_mem _ List.mem_cons_self)
    have h3 := q _ (List.mem_cons_of_mem _ (List.mem_cons_of_mem _ List.mem_cons_self))
    have h4 := q _ (List.mem_cons_of_mem _ (List.mem_cons_of_mem _ (List.mem_cons_of_mem _ List.mem_cons_self)))
    refine ⟨slg_one h4 trivial, ⟨fun _ => .slice (some ⟨gb, 0, none⟩) 1 1, ⟨_, _, rfl, by simp [awV, maxLen], fun _ => ⟨gc, 0, rfl, trivial, rowAt_lt (rowAt_of h2), fun i hi j hj => ?_⟩⟩, fun i hi => ?_⟩, slg_one h1 trivial⟩
    · rw [cell_of_rowAt (rowAt_of h2)]
      have : i = 0 := by simp only [awV, List.length_singleton] at hi; omega
      subst this
      obtain rfl : j = 0 := by omega
      rfl
    · have : i = 0 := by simp only [awV, List.length_singleton] at hi; omega
      subst this
      exact slg_one h3 trivial
  · rintro e w1 ⟨v, rfl, g0, R, rfl, hR, H2⟩
    exact ⟨_, rfl, g0, R, rfl, hR, H2.sub sU⟩
theorem awap1_ok {B : Nat} {w0 : World} {L : List Res} (g0 : Nat) (R : Res) (hR : StaR g0 awV [] bd0 R) (w : World) (H : St B w0 w (R :: L)) :
    Calls Try.prog 15 #[.pointer (some ⟨g0, 0, none⟩), .agg #[.int .i64 2, .int .u16 1, .int .u32 1, .int .u64 1, .int .u64 1, .slice none 0 0, .int .u64 0, .slice none 0 0, .slice none 0 0, .slice none 0 0]] w (Ret fun v w' => ∃ (ba3 : Option Addr) (bc3 : Nat) (R' : Res), v = .tuple #[.agg #[.int .i64 2, .int .u64 0, .slice none 0 0, .slice none 0 0, .slice none 0 0, .int .u16 1, .int .u32 1, .int .u64 1, .slice ba3 0 bc3], .bool true] ∧ StaR g0 awV (mput [] awK.fr awK.num) bd0 R' ∧ St B w0 w' (R' :: L)) := by
  refine (sapply_send (G1 := fun _ => False) g0 awV [] bd0 awK none none none none 0 0 0 0 awK_sm awK_wf awK_yes rfl (Nat.le_refl _) R hR (fun W _ _ => CmG.nil _ W 2) w H).mono ?_
  rintro e w1 ⟨v, rfl, ba3, bc3, R', rfl, hR', H2⟩
  exact ⟨_, rfl, ba3, bc3, R', rfl, hR', H2.sub sU⟩
theorem awap2_ok {B : Nat} {w0 : World} {L : List Res} (g0 : Nat) (R : Res) (hR : StaR g0 awV (mput [] awK.fr awK.num) bd0 R) (w : World) (H : St B w0 w (R :: L)) :
    Calls Try.prog 15 #[.pointer (some ⟨g0, 0, none⟩), .agg #[.int .i64 2, .int .u16 1, .int .u32 1, .int .u64 1, .int .u64 1, .slice none 0 0, .int .u64 0, .slice none 0 0, .slice none 0 0, .slice none 0 0]] w (Ret fun v w' => v = .tuple #[.agg #[.int .i64 0, .int .u64 0, .slice none 0 0, .slice none 0 0, .slice none 0 0, .int .u16 0, .int .u32 0, .int .u64 0, .slice none 0 0], .bool false] ∧ St B w0 w' (R :: L)) :=
  sapply_no (G1 := fun _ => False) g0 awV _ bd0 awK none none none none 0 0 0 0 awK_sm awK_wf awK_no R hR (fun W _ _ => CmG.nil _ W 2) w H
theorem awlast_ok (g0 : Nat) (w : World) (h : StAt w g0 awV (mput [] awK.fr awK.num) bd0) : Calls Try.prog 22 #[.pointer (some ⟨g0, 0, none⟩), .agg #[.int .u16 1, .int .u32 1]] w (Ret fun v w' => v = .int .u64 1 ∧ Below w.heap.size w w') :=
  slast_is g0 awV _ bd0 (1, 1) (by decide) (by decide) 1 rfl w h
theorem aw19_ok (w : World) : Calls Try.prog 13 #[] w (Ret fun v w' => v = .bool true ∧ Below w.heap.size w w') := by
  have H := St.init w
  go_enter Try.func13, Try.ntmps13
  go_wp2_with (first | (with_reducible refine wpl rfl (dQ 8 rfl ?_); with_reducible refine (Stp.build (v := (.agg #[.int .u16 1, .int .u32 1])) 8 rfl rfl (fun W => by kernel_rfl) ?_); simp only [pS]) | (with_reducible refine wpl rfl (dQ 10 rfl ?_); with_reducible refine (Stp.bsl (e := 36) (cs := #[.int .u16 1, .int .u32 1]) 10 rfl rfl (fun W => by kernel_rfl) H ?_); clear H; intro g10 w1 H; simp only [pS]) | (with_reducible refine wpl rfl (dQ 12 rfl ?_); with_reducible refine (Stp.bsl (e := 36) (cs := #[.int .u16 1, .int .u32 1]) 12 rfl rfl (fun W => by kernel_rfl) H ?_); clear H; intro g12 w1 H; simp only [pS]) | (with_reducible refine wpl rfl (dQ 13 rfl ?_); with_reducible refine (Stp.bsl (e := 23) (cs := #[.slice (some ⟨g12, 0, none⟩) 1 1]) 13 rfl rfl (fun W => by kernel_rfl) H ?_); clear H; intro g13 w1 H; simp only [pS]) | (with_reducible refine wpl rfl (dQ 15 rfl ?_); with_reducible refine (Stp.bsl (e := 36) (cs := #[.int .u16 1, .int .u32 1]) 15 rfl rfl (fun W => by kernel_rfl) H ?_); clear H; intro g15 w1 H; simp only [pS]) | (go_at_call 14; (with_reducible refine (awnew19_ok g10 g12 g13 g15 _ H).mono ?_); rintro e w1 ⟨v, rfl, hr⟩; obtain ⟨g0, R, rfl, hR, H2⟩ := hr; clear H; have H := H2; have HR := Lib.hid hR; clear H2 hR) | (with_reducible refine wpl rfl (dQ 19 rfl ?_); with_reducible refine (Stp.build (v := (.agg #[.int .i64 2, .int .u16 1, .int .u32 1, .int .u64 1, .int .u64 1, .slice none 0 0, .int .u64 0, .slice none 0 0, .slice none 0 0, .slice none 0 0])) 19 rfl rfl (fun W => by kernel_rfl) ?_); simp only [pS]) | (go_at_call 15; (with_reducible refine (awap1_ok g0 R HR.out _ (H.pull (r := R) pU)).mono ?_); rintro e w1 ⟨v, rfl, hr⟩; obtain ⟨ba3, bc3, R2, rfl, hR2, H3⟩ := hr; clear H HR; have H := H3; have HR2 := Lib.hid hR2; clear H3 hR2) | (go_at_call 15; (with_reducible refine (awap2_ok g0 R2 HR2.out _ (H.pull (r := R2) pU)).mono ?_); rintro e w1 ⟨v, rfl, hr⟩; obtain ⟨rfl, H3⟩ := hr; clear H; have H := H3; clear H3) | (go_at_call 22; (with_reducible refine (awlast_ok g0 _ (HR2.out.at H mE)).mono ?_); rintro e w1 ⟨v, rfl, hr⟩; obtain ⟨rfl, hb1⟩ := hr; replace H := H.grow hb1; clear hb1) | (with_reducible refine wpl rfl (dQ 1 rfl ?_); with_reducible refine (Stp.alloc 1 rfl rfl zero36 H ?_); clear H; intro g1 w1 H; simp only [pS]; simp only [nC] at H) | (with_reducible refine wpl rfl (stQ (ty := 36) rfl ?_); first | (with_reducible refine (Stp.str rfl size36 rfl rfl (by first | rfl | (simp [Value.oneCell']; done) | assumption) H uP sZ sZ ?_); clear H; intro w1 H; simp only [pS]) | (with_reducible refine (Stp.stl rfl size36 rfl rfl rfl rfl H uP (by simp) ?_); clear H; intro w1 H; simp only [pS]; simp only [List.drop_succ_cons, List.drop_zero, List.take_succ_cons, List.take_zero, List.nil_append, List.cons_append, Nat.reduceAdd] at H)) | (with_reducible refine wpl rfl (ldQ (ty := 36) rfl ?_); first | (with_reducible refine (Stp.ldor rfl agg36 size36 rfl H (by assumption) sZ (by assumption) ?_); simp only [pS]) | (with_reducible refine (Stp.ldr rfl agg36 size36 rfl H mR sZ ?_); simp only [pS]) | (with_reducible refine (Stp.ldl rfl agg36 size36 rfl H mR (by simp) ?_); simp only [pS]; simp only [List.drop_succ_cons, List.drop_zero, List.take_succ_cons, List.take_zero])) | (with_reducible refine wpl rfl (dQ 3 rfl ?_); with_reducible refine (Stp.alloc 3 rfl rfl zero43 H ?_); clear H; intro g3 w1 H; simp only [pS]; simp only [nC] at H) | (with_reducible refine wpl rfl (stQ (ty := 43) rfl ?_); first | (with_reducible refine (Stp.str rfl size43 rfl rfl (by first | rfl | (simp [Value.oneCell']; done) | assumption) H uP sZ sZ ?_); clear H; intro w1 H; simp only [pS]) | (with_reducible refine (Stp.stl rfl size43 rfl rfl rfl rfl H uP (by simp) ?_); clear H; intro w1 H; simp only [pS]; simp only [List.drop_succ_cons, List.drop_zero, List.take_succ_cons, List.take_zero, List.nil_append, List.cons_append, Nat.reduceAdd] at H)) | (with_reducible refine wpl rfl (ldQ (ty := 43) rfl ?_); first | (with_reducible refine (Stp.ldor rfl agg43 size43 rfl H (by assumption) sZ (by assumption) ?_); simp only [pS]) | (with_reducible refine (Stp.ldr rfl agg43 size43 rfl H mR sZ ?_); simp only [pS]) | (with_reducible refine (Stp.ldl rfl agg43 size43 rfl H mR (by simp) ?_); simp only [pS]; simp only [List.drop_succ_cons, List.drop_zero, List.take_succ_cons, List.take_zero])) | (with_reducible refine wpl rfl (dQ 4 rfl ?_); with_reducible refine (Stp.alloc 4 rfl rfl zero39 H ?_); clear H; intro g4 w1 H; simp only [pS]; simp only [nC] at H) | (with_reducible refine wpl rfl (stQ (ty := 39) rfl ?_); first | (with_reducible refine (Stp.str rfl size39 rfl rfl (by first | rfl | (simp [Value.oneCell']; done) | assumption) H uP sZ sZ ?_); clear H; intro w1 H; simp only [pS]) | (with_reducible refine (Stp.stl rfl size39 rfl rfl rfl rfl H uP (by simp) ?_); clear H; intro w1 H; simp only [pS]; simp only [List.drop_succ_cons, List.drop_zero, List.take_succ_cons, List.take_zero, List.nil_append, List.cons_append, Nat.reduceAdd] at H)) | (with_reducible refine wpl rfl (dQ 6 rfl ?_); with_reducible refine (Stp.alloc 6 rfl rfl zero39 H ?_); clear H; intro g6 w1 H; simp only [pS]; simp only [nC] at H) | (with_reducible refine wpl rfl (ldQ (ty := 3) rfl ?_); first | (with_reducible refine (Stp.ldo rfl agg3 rfl H (by assumption) (by assumption) ?_); simp only [pS]) | (with_reducible refine (Stp.ldc rfl agg3 rfl H mR cE ?_); simp only [pS])))
  go_ret
  exact ⟨_, rfl, rfl, H.below⟩
/-! ### The law -/
theorem law_snil (c : Cm) (ba ma2 la2 da2 : Option Addr) (bc mc2 lc2 dc2 : Nat) (x : Vw) (ma la da : Option Addr) (mc lc dc : Nat) (w : World) (hx : VwG (Old w) w (.slice ma x.mem.length mc) (.slice la x.lvs.length lc) (.slice da x.ldr.length dc) x) :
    Calls Try.prog 7 #[.agg (cmC c ba ma2 la2 da2 bc mc2 lc2 dc2), .agg (vwC x ma la da mc lc dc)] w (Ret fun v w' => v = .bool true ∧ Below w.heap.size w w') := by
  have H := St.init w
  obtain ⟨e, he⟩ : ∃ e, gV x = e := ⟨_, rfl⟩
  have HE := Lib.hid he
  simp only [cmC, vwC]
  cases e
  · have HSM := Lib.hid (gV_sm he)
    have HXR : Hid (∀ L, Rd w.heap.size w L fun W => VwG (Old w) W (.slice ma x.mem.length mc) (.slice la x.lvs.length lc) (.slice da x.ldr.length dc) x) := Lib.hid (fun L W hW _ => hx.grow hW)
    clear he
    go_enter Try.func7, Try.ntmps7
    go_wp2_with (first | (go_at_call 27; (with_reducible refine (rgreat_is x ma la da mc lc dc _ _ HE.out (hx.grow H.below)).mono ?_); rintro e w1 ⟨v, rfl, hr⟩; obtain ⟨rfl, hb1⟩ := hr; replace H := H.grow hb1; clear hb1) | (with_reducible refine wpl rfl (Stp.eqlB rfl rfl rfl ?_); simp only [pS]) | (go_at_call 15; (with_reducible refine (nApply_ok _ _ _ _ _ _ _ _ _ _ _).mono ?_); rintro e w1 ⟨v, rfl, hr⟩; obtain ⟨rfl, hb1⟩ := hr; replace H := H.grow hb1; clear hb1) | (go_at_call 16; (with_reducible refine (nCounts_ok _ _).mono ?_); rintro e w1 ⟨v, rfl, hr⟩; obtain ⟨rfl, hb1⟩ := hr; replace H := H.grow hb1; clear hb1) | (go_at_call 21; (with_reducible refine (nView_ok _).mono ?_); rintro e w1 ⟨v, rfl, hr⟩; obtain ⟨rfl, hb1⟩ := hr; replace H := H.grow hb1; clear hb1) | (go_at_call 20; (with_reducible refine (rvsz_ok _).mono ?_); rintro e w1 ⟨v, rfl, hr⟩; obtain ⟨rfl, hb1⟩ := hr; replace H := H.grow hb1; clear hb1) | (go_at_call 22; (with_reducible refine (nLast_ok _ _).mono ?_); rintro e w1 ⟨v, rfl, hr⟩; obtain ⟨rfl, hb1⟩ := hr; replace H := H.grow hb1; clear hb1) | (go_at_call 25; (with_reducible refine (nSame0_ok _).mono ?_); rintro e w1 ⟨v, rfl, hr⟩; obtain ⟨rfl, hb1⟩ := hr; replace H := H.grow hb1; clear hb1) | (go_at_call 25; (with_reducible refine (nSame1_ok g0 _).mono ?_); rintro e w1 ⟨v, rfl, hr⟩; obtain ⟨rfl, hb1⟩ := hr; replace H := H.grow hb1; clear hb1) | (go_at_call 24; (with_reducible refine (nBoard_ok _).mono ?_); rintro e w1 ⟨v, rfl, hr⟩; obtain ⟨rfl, hb1⟩ := hr; replace H := H.grow hb1; clear hb1) | (go_at_call 26; (with_reducible refine (nLoad_ok _ _).mono ?_); rintro e w1 ⟨v, rfl, hr⟩; obtain ⟨rfl, hb1⟩ := hr; replace H := H.grow hb1; clear hb1) | (go_at_call 14; (with_reducible refine (snew_ok (G1 := Old w) x ma la da mc lc dc HSM.out _ (HXR.out _) H).mono ?_); rintro e w1 ⟨v, rfl, hr⟩; obtain ⟨g0, R, rfl, hR, H2⟩ := hr; clear H; have H := H2; clear H2) | (with_reducible refine wpl rfl (dQ 28 rfl ?_); with_reducible refine (Stp.build (v := (.agg #[.int .u64 0, .slice none 0 0, .slice none 0 0, .slice none 0 0])) 28 rfl rfl (fun W => by kernel_rfl) ?_); simp only [pS]) | (with_reducible refine wpl rfl (dQ 35 rfl ?_); with_reducible refine (Stp.build (v := (.agg #[.string ByteArray.empty, .string ByteArray.empty, .string ByteArray.empty, .string ByteArray.empty, .string ByteArray.empty, .string ByteArray.empty, .string ByteArray.empty, .string ByteArray.empty])) 35 rfl rfl (fun W => by kernel_rfl) ?_); simp only [pS]) | (with_reducible refine wpl rfl (dQ 40 rfl ?_); with_reducible refine (Stp.build (v := (.agg #[.string ByteArray.empty, .string ByteArray.empty, .string ByteArray.empty, .string ByteArray.empty, .string ByteArray.empty, .string ByteArray.empty, .string ByteArray.empty, .string ByteArray.empty])) 40 rfl rfl (fun W => by kernel_rfl) ?_); simp only [pS]) | (go_at_call 13; (with_reducible refine (aw19_ok _).mono ?_); rintro e w1 ⟨v, rfl, hr⟩; obtain ⟨rfl, hb1⟩ := hr; replace H := H.grow hb1; clear hb1) | (with_reducible refine wpl rfl (dQ 2 rfl ?_); with_reducible refine (Stp.box 2 rfl rfl rfl H ?_); clear H; intro g2 w1 H; simp only [pS]; simp only [pE, nC, pS] at H) | (with_reducible refine wpl rfl (dQ 3 rfl ?_); with_reducible refine (Stp.box 3 rfl rfl rfl H ?_); clear H; intro g3 w1 H; simp only [pS]; simp only [pE, nC, pS] at H) | (with_reducible refine wpl rfl (ldQ (ty := 26) rfl ?_); first | (with_reducible refine (Stp.ldor rfl agg26 size26 rfl H (by assumption) sZ (by assumption) ?_); simp only [pS]) | (with_reducible refine (Stp.ldr rfl agg26 size26 rfl H mR sZ ?_); simp only [pS]) | (with_reducible refine (Stp.ldl rfl agg26 size26 rfl H mR (by simp) ?_); simp only [pS]; simp only [List.drop_succ_cons, List.drop_zero, List.take_succ_cons, List.take_zero])) | (with_reducible refine wpl rfl (ldQ (ty := 43) rfl ?_); first | (with_reducible refine (Stp.ldor rfl agg43 size43 rfl H (by assumption) sZ (by assumption) ?_); simp only [pS]) | (with_reducible refine (Stp.ldr rfl agg43 size43 rfl H mR sZ ?_); simp only [pS]) | (with_reducible refine (Stp.ldl rfl agg43 size43 rfl H mR (by simp) ?_); simp only [pS]; simp only [List.drop_succ_cons, List.drop_zero, List.take_succ_cons, List.take_zero])) | (with_reducible refine wpl rfl (dQ 6 rfl ?_); with_reducible refine (Stp.alloc 6 rfl rfl zero39 H ?_); clear H; intro g6 w1 H; simp only [pS]; simp only [nC] at H) | (with_reducible refine wpl rfl (stQ (ty := 39) rfl ?_); first | (with_reducible refine (Stp.str rfl size39 rfl rfl (by first | rfl | (simp [Value.oneCell']; done) | assumption) H uP sZ sZ ?_); clear H; intro w1 H; simp only [pS]) | (with_reducible refine (Stp.stl rfl size39 rfl rfl rfl rfl H uP (by simp) ?_); clear H; intro w1 H; simp only [pS]; simp only [List.drop_succ_cons, List.drop_zero, List.take_succ_cons, List.take_zero, List.nil_append, List.cons_append, Nat.reduceAdd] at H)) | (with_reducible refine wpl rfl (ldQ (ty := 36) rfl ?_); first | (with_reducible refine (Stp.ldor rfl agg36 size36 rfl H (by assumption) sZ (by assumption) ?_); simp only [pS]) | (with_reducible refine (Stp.ldr rfl agg36 size36 rfl H mR sZ ?_); simp only [pS]) | (with_reducible refine (Stp.ldl rfl agg36 size36 rfl H mR (by simp) ?_); simp only [pS]; simp only [List.drop_succ_cons, List.drop_zero, List.take_succ_cons, List.take_zero])))
    go_ret
    exact ⟨_, rfl, rfl, H.below⟩
  · clear he
    go_enter Try.func7, Try.ntmps7
    go_wp2_with (first | (go_at_call 27; (with_reducible refine (rgreat_is x ma la da mc lc dc _ _ HE.out (hx.grow H.below)).mono ?_); rintro e w1 ⟨v, rfl, hr⟩; obtain ⟨rfl, hb1⟩ := hr; replace H := H.grow hb1; clear hb1) | (go_at_call 13; (with_reducible refine (aw19_ok _).mono ?_); rintro e w1 ⟨v, rfl, hr⟩; obtain ⟨rfl, hb1⟩ := hr; replace H := H.grow hb1; clear hb1) | (with_reducible refine wpl rfl (dQ 2 rfl ?_); with_reducible refine (Stp.box 2 rfl rfl rfl H ?_); clear H; intro g2 w1 H; simp only [pS]; simp only [pE, nC, pS] at H) | (with_reducible refine wpl rfl (dQ 3 rfl ?_); with_reducible refine (Stp.box 3 rfl rfl rfl H ?_); clear H; intro g3 w1 H; simp only [pS]; simp only [pE, nC, pS] at H) | (with_reducible refine wpl rfl (ldQ (ty := 26) rfl ?_); first | (with_reducible refine (Stp.ldor rfl agg26 size26 rfl H (by assumption) sZ (by assumption) ?_); simp only [pS]) | (with_reducible refine (Stp.ldr rfl agg26 size26 rfl H mR sZ ?_); simp only [pS]) | (with_reducible refine (Stp.ldl rfl agg26 size26 rfl H mR (by simp) ?_); simp only [pS]; simp only [List.drop_succ_cons, List.drop_zero, List.take_succ_cons, List.take_zero])) | (with_reducible refine wpl rfl (ldQ (ty := 43) rfl ?_); first | (with_reducible refine (Stp.ldor rfl agg43 size43 rfl H (by assumption) sZ (by assumption) ?_); simp only [pS]) | (with_reducible refine (Stp.ldr rfl agg43 size43 rfl H mR sZ ?_); simp only [pS]) | (with_reducible refine (Stp.ldl rfl agg43 size43 rfl H mR (by simp) ?_); simp only [pS]; simp only [List.drop_succ_cons, List.drop_zero, List.take_succ_cons, List.take_zero])) | (with_reducible refine wpl rfl (dQ 6 rfl ?_); with_reducible refine (Stp.alloc 6 rfl rfl zero39 H ?_); clear H; intro g6 w1 H; simp only [pS]; simp only [nC] at H) | (with_reducible refine wpl rfl (stQ (ty := 39) rfl ?_); first | (with_reducible refine (Stp.str rfl size39 rfl rfl (by first | rfl | (simp [Value.oneCell']; done) | assumption) H uP sZ sZ ?_); clear H; intro w1 H; simp only [pS]) | (with_reducible refine (Stp.stl rfl size39 rfl rfl rfl rfl H uP (by simp) ?_); clear H; intro w1 H; simp only [pS]; simp only [List.drop_succ_cons, List.drop_zero, List.take_succ_cons, List.take_zero, List.nil_append, List.cons_append, Nat.reduceAdd] at H)) | (with_reducible refine wpl rfl (ldQ (ty := 36) rfl ?_); first | (with_reducible refine (Stp.ldor rfl agg36 size36 rfl H (by assumption) sZ (by assumption) ?_); simp only [pS]) | (with_reducible refine (Stp.ldr rfl agg36 size36 rfl H mR sZ ?_); simp only [pS]) | (with_reducible refine (Stp.ldl rfl agg36 size36 rfl H mR (by simp) ?_); simp only [pS]; simp only [List.drop_succ_cons, List.drop_zero, List.take_succ_cons, List.take_zero])))
    go_ret
    exact ⟨_, rfl, rfl, H.below⟩
set_option maxRecDepth 100000 in
theorem stateNil_lifted (os : Os) (started : os.Started) (H : Type) (enc : TypeId × Value → H) :
    ReturnsInHanded {} Try.checked os 7 .any (Rows.stateNilSpec.pre6 enc Try.prog Try.f7 Rows.stateNilRow.domain false) (Rows.stateNilSpec.post enc Try.prog Try.f7 false true false false) := by
  refine law_lifted (C := Try.checked) own started (by kernel_rfl) Try.func7 laidOut rfl Try.underlying4 rfl (by kernel_rfl) (fun ds hd => ?_)
    (ChangeSpec.witness6 (enc := enc) (C := Try.checked) false ⟨#[], #[.agg #[.int .i64 0, .int .u16 0, .int .u32 0, .int .u64 0, .int .u64 0, .slice none 0 0, .int .u64 0, .slice none 0 0, .slice none 0 0, .slice none 0 0], .agg #[.int .u64 0, .slice none 0 0, .slice none 0 0, .slice none 0 0]], []⟩ 8 (by kernel_rfl) (by kernel_rfl) (by kernel_rfl) (by kernel_rfl)) ?_
  · match ds, hd with
    | [d0, d1], _ => exact ⟨rfl, rfl, rfl⟩
  intro W base args ds p hval hA
  rw [Try.params7] at hA hval
  obtain ⟨v0, vs0, d0, ds0, p0, q0, hargs, rfl, rfl, h0, r0⟩ := trodAll_cons hA
  obtain ⟨v1, vs1, d1, ds1, p1, q1, rfl, rfl, rfl, h1, r1⟩ := trodAll_cons r0
  obtain ⟨rfl, rfl, rfl⟩ := trodAll_nil r1
  obtain rfl : args = #[v0, v1] := by cases args; simp_all
  obtain ⟨c, ba, ma2, la2, da2, bc, mc2, lc2, dc2, rfl, cw, cr⟩ := open_cm (hval 0 43 v0 rfl rfl) h0
  obtain ⟨x, ma, la, da, mc, lc, dc, rfl, hw, hx⟩ := open_vw (hval 1 26 v1 rfl rfl) h1
  exact law_snil c ba ma2 la2 da2 bc mc2 lc2 dc2 x ma la da mc lc dc W hx
theorem stateNil_over : Rows.stateNilRow.holds Try.pinned (OpenSpec.ofChange Rows.stateNilSpec) :=
  OpenClaim.holds_of_wide 7 Try.f7 rfl rfl rfl rfl rfl rfl rfl ⟨rfl, rfl, rfl, rfl, rfl⟩ rfl rfl rfl rfl rfl (by kernel_rfl) Try.func7 (by kernel_rfl)
    (of_decide_eq_true (by kernel_rfl)) (by unfold Func.isWrapper; first | (rw [if_pos (by decide +kernel)]; kernel_rfl) | (rw [if_neg (by decide +kernel)]; exact ⟨rfl, rfl⟩))
    (fun os started H enc _ => stateNil_lifted os started H enc)
theorem stateNil_holds : Rows.StateNilSaid := stateNil_over
#print axioms stateNil_holds
end Go.Proofs.Ytjghcmejmdllbaa

namespace Go.Proofs.Ytjghcmejmdllbaa
open Go.ChangeShapes Go.WideShapes Go.ChangeAt Go.RowKit
set_option linter.unusedVariables false
set_option linter.unusedSimpArgs false
/-- A number's short form, f bytes more at most. -/
def shortF : Nat → Nat → List Nat
  | 0, n => [n % 256]
  | f + 1, n => if n < 128 then [n % 256] else (n % 128 + 128) :: shortF f (n / 128)
def shortB (n : Nat) : List Nat := shortF 9 n
theorem shortF_len : ∀ (f n : Nat), (shortF f n).length ≤ f + 1
  | 0, n => by simp [shortF]
  | f + 1, n => by
    unfold shortF; split
    · simp
    · have := shortF_len f (n / 128); simp; omega
theorem shortF_small (f n : Nat) (h : n < 128) : shortF f n = [n % 256] := by
  cases f with
  | zero => rfl
  | succ f => unfold shortF; rw [if_pos h]
theorem shortF_big (f n : Nat) (h : ¬ n < 128) : shortF (f + 1) n = (n % 128 + 128) :: shortF f (n / 128) := by
  rw [shortF, if_neg h]
theorem or128 (x : Nat) (h : x < 256) : bits .or .u8 (x : Int) 128 = ((x % 128 + 128 : Nat) : Int) := by
  have := (by decide +kernel : ∀ x : Fin 256, bits .or .u8 ((x.val : Nat) : Int) 128 = ((x.val % 128 + 128 : Nat) : Int))
  exact this ⟨x, h⟩
set_option maxRecDepth 100000 in
theorem putshort_ok (v : Value) (l : List Nat) (n : Nat) (hn : n < 18446744073709551616) (hl : l.length ≤ 900000) (w : World) (hs : Sl w 1 l.length v (elB l)) :
    Calls Try.prog 141 #[v, .int .u64 (n : Int)] w (Ret fun v' w' => (∃ ap cp, v' = .slice ap (l ++ shortB n).length cp) ∧ w'.ownsRow w.heap.size 5 1 v' (l ++ shortB n).length (bv (l ++ shortB n)) ∧ Below w.heap.size w w') := by
  have HN := Lib.hid hn
  clear hn
  have H := St.init w
  go_enter Try.func141, Try.ntmps141
  go_wp2_with (first | (go_at_call 146; refine (room_ok _ l _ (by omega) (by omega) (by omega) _ (hs.grow H.below)).mono ?_; rintro e w1 ⟨v, rfl, hr⟩; obtain ⟨⟨ap, cp, rfl⟩, ho, hb1⟩ := hr; replace H := H.new hb1 (slc_sound ho) (fun g hg => (ho.lt g hg).1); clear hb1 ho))
  go_loopw [1, 5] (fun x o wr => ∃ (k m : Nat) (pre : List Nat), k ≤ 9 ∧ pre.length = k ∧ x = .int .u64 (m : Int) ∧ Hid (m < 2 ^ (64 - 7 * k)) ∧ Hid (shortB n = pre ++ shortF (9 - k) m) ∧ ∃ ap cp, o = .slice ap (l.length + pre.length) cp ∧ St w.heap.size w wr [slc 5 1 (.slice ap (l.length + pre.length) cp) (l.length + pre.length) (bv (l ++ pre))]) (fun x _ _ => (intOf x).toNat)
  case atStart => exact ⟨0, n, [], Nat.zero_le _, rfl, rfl, Lib.hid (by simpa using HN.out), Lib.hid (by simp [shortB]), ap, cp, rfl, by simpa using H⟩
  case round =>
    clear H
    obtain ⟨k, m, pre, hk, hpl, rfl, HM, HS, ap, cp, rfl, H⟩ := hrel
    have hp9 : pre.length ≤ 9 := by omega
    have HP := Lib.hid hpl
    clear hpl
    by_cases hlt : m < 128
    · have hd : decide ((128 : Int) ≤ (m : Int)) = false := by simp; omega
      go_wp2_with (first | (with_reducible refine wpl rfl (dQ 21 rfl ?_); with_reducible refine (Stp.bsl1 21 rfl rfl Try.underlying37 size5 zero5 rfl rfl H ?_); clear H; intro g21 w1 H; simp only [pS]) | (with_reducible refine wpl rfl (dQ 22 rfl ?_); with_reducible refine (Stp.app 22 rfl rfl Try.underlying37 info5 rfl (by decide) rfl rfl H (fun _ => uP) rfl (new1 (H.getRow mE)) (by simp [Value.oneCell']) (by unfold maxLen; omega) (by omega) ?_); clear H; intro a22 c22 w1 H; simp only [pS]))
      go_ret
      have e : shortB n = pre ++ [m] := by rw [HS.out, shortF_small _ _ hlt, Nat.mod_eq_of_lt (by omega)]
      have hlen : (l ++ shortB n).length = l.length + pre.length + 1 := by rw [e]; simp; omega
      have ho := H.getSlc mE
      have e2 : bv (l ++ pre) ++ [Value.int .u8 (m : Int)] = bv (l ++ shortB n) := by rw [e]; simp [bv]
      rw [e2] at ho
      rw [hlen]
      exact ⟨_, rfl, ⟨a22, c22, rfl⟩, ho, H.below⟩
    · have hd : decide ((128 : Int) ≤ (m : Int)) = true := by simp; omega
      have hk8 : k ≤ 8 := by
        rcases Nat.lt_or_ge k 9 with h | h
        · omega
        · have h2 := HM.out
          have : k = 9 := by omega
          subst this
          have : (2 : Nat) ^ (64 - 7 * 9) = 2 := by decide
          omega
      go_wp2_with (first | (with_reducible refine wpl rfl (dQ 14 rfl ?_); with_reducible refine (Stp.bsl1 14 rfl rfl Try.underlying37 size5 zero5 rfl rfl H ?_); clear H; intro g14 w1 H; simp only [pS]) | (with_reducible refine wpl rfl (dQ 15 rfl ?_); with_reducible refine (Stp.app 15 rfl rfl Try.underlying37 info5 rfl (by decide) rfl rfl H (fun _ => uP) rfl (new1 (H.getRow mE)) (by simp [Value.oneCell']) (by unfold maxLen; omega) (by omega) ?_); clear H; intro a15 c15 w1 H; simp only [pS]))
      have eo : bits .or .u8 ((m : Int) % 256) 128 = ((m % 128 + 128 : Nat) : Int) := by
        have h1 := or128 (m % 256) (Nat.mod_lt _ (by omega))
        rw [Int.natCast_emod] at h1
        rw [show ((256 : Nat) : Int) = 256 from rfl] at h1
        rw [h1]
        congr 2
        omega
      rw [eo] at H
      go_roundw
      case rel =>
        refine ⟨k + 1, m / 128, pre ++ [m % 128 + 128], by omega, by simp [HP.out], rfl, Lib.hid ?_, Lib.hid ?_, a15, c15, by simp; omega, ?_⟩
        · have h2 := HM.out
          have h3 : (2 : Nat) ^ (64 - 7 * k) = 128 * 2 ^ (64 - 7 * (k + 1)) := by
            rw [show 64 - 7 * k = 7 + (64 - 7 * (k + 1)) by omega, Nat.pow_add]
          rw [h3] at h2
          exact Nat.div_lt_of_lt_mul h2
        · rw [HS.out, show 9 - k = (9 - (k + 1)) + 1 by omega, shortF_big _ _ hlt]; simp
        · have e2 : bv (l ++ pre) ++ [Value.int .u8 ((m % 128 + 128 : Nat) : Int)] = bv (l ++ (pre ++ [m % 128 + 128])) := by simp [bv]
          rw [e2] at H
          have e3 : l.length + (pre ++ [m % 128 + 128]).length = l.length + pre.length + 1 := by simp; omega
          rw [e3]
          exact H.tl
      case measure => simp [intOf]; omega
end Go.Proofs.Ytjghcmejmdllbaa

namespace Go.Proofs.Ytjghcmejmdllbaa
open Go.ChangeShapes Go.WideShapes Go.ChangeAt Go.RowKit
set_option linter.unusedVariables false
set_option linter.unusedSimpArgs false
set_option maxRecDepth 100000 in
theorem rshort_ok (n : Nat) (hn : n < 18446744073709551616) (w : World) :
    Calls Try.prog 142 #[.int .u64 (n : Int)] w (Ret fun v' w' => (∃ ap cp, v' = .slice ap (shortB n).length cp) ∧ w'.ownsRow w.heap.size 5 1 v' (shortB n).length (bv (shortB n)) ∧ Below w.heap.size w w') := by
  have HN := Lib.hid hn
  clear hn
  have H := (St.init w).nil 5 1
  go_enter Try.func142, Try.ntmps142
  go_wp2_with fail
  go_loopw [0, 3] (fun x o wr => ∃ (k m : Nat) (pre : List Nat), k ≤ 9 ∧ pre.length = k ∧ x = .int .u64 (m : Int) ∧ Hid (m < 2 ^ (64 - 7 * k)) ∧ Hid (shortB n = pre ++ shortF (9 - k) m) ∧ ∃ ap cp, o = .slice ap pre.length cp ∧ St w.heap.size w wr [slc 5 1 (.slice ap pre.length cp) pre.length (bv pre)]) (fun x _ _ => (intOf x).toNat)
  case atStart => exact ⟨0, n, [], Nat.zero_le _, rfl, rfl, Lib.hid (by simpa using HN.out), Lib.hid (by simp [shortB]), _, _, rfl, H⟩
  case round =>
    clear H
    obtain ⟨k, m, pre, hk, hpl, rfl, HM, HS, ap, cp, rfl, H⟩ := hrel
    have hp9 : pre.length ≤ 9 := by omega
    have HP := Lib.hid hpl
    clear hpl
    by_cases hlt : m < 128
    · have hd : decide ((128 : Int) ≤ (m : Int)) = false := by simp; omega
      go_wp2_with (first | (with_reducible refine wpl rfl (dQ 18 rfl ?_); with_reducible refine (Stp.bsl1 18 rfl rfl Try.underlying37 size5 zero5 rfl rfl H ?_); clear H; intro g18 w1 H; simp only [pS]) | (with_reducible refine wpl rfl (dQ 19 rfl ?_); with_reducible refine (Stp.app 19 rfl rfl Try.underlying37 info5 rfl (by decide) rfl rfl H (fun _ => uP) rfl (new1 (H.getRow mE)) (by simp [Value.oneCell']) (by unfold maxLen; omega) (by omega) ?_); clear H; intro a19 c19 w1 H; simp only [pS]))
      go_ret
      have e : shortB n = pre ++ [m] := by rw [HS.out, shortF_small _ _ hlt, Nat.mod_eq_of_lt (by omega)]
      have hlen : (shortB n).length = pre.length + 1 := by rw [e]; simp
      have ho := H.getSlc mE
      have e2 : bv pre ++ [Value.int .u8 (m : Int)] = bv (shortB n) := by rw [e]; simp [bv]
      rw [e2] at ho
      rw [hlen]
      exact ⟨_, rfl, ⟨_, _, rfl⟩, ho, H.below⟩
    · have hd : decide ((128 : Int) ≤ (m : Int)) = true := by simp; omega
      have hk8 : k ≤ 8 := by
        rcases Nat.lt_or_ge k 9 with h | h
        · omega
        · have h2 := HM.out
          have : k = 9 := by omega
          subst this
          have : (2 : Nat) ^ (64 - 7 * 9) = 2 := by decide
          omega
      go_wp2_with (first | (with_reducible refine wpl rfl (dQ 11 rfl ?_); with_reducible refine (Stp.bsl1 11 rfl rfl Try.underlying37 size5 zero5 rfl rfl H ?_); clear H; intro g11 w1 H; simp only [pS]) | (with_reducible refine wpl rfl (dQ 12 rfl ?_); with_reducible refine (Stp.app 12 rfl rfl Try.underlying37 info5 rfl (by decide) rfl rfl H (fun _ => uP) rfl (new1 (H.getRow mE)) (by simp [Value.oneCell']) (by unfold maxLen; omega) (by omega) ?_); clear H; intro a12 c12 w1 H; simp only [pS]))
      have hm64 : m < 18446744073709551616 := Nat.lt_of_lt_of_le HM.out (by
        have : (2 : Nat) ^ (64 - 7 * k) ≤ 2 ^ 64 := Nat.pow_le_pow_right (by omega) (by omega)
        simpa using this)
      have ew : IntKind.u64.wrap ((m : Int) / 128) = ((m / 128 : Nat) : Int) := by
        rw [Int.natCast_ediv]; exact wrap_u64_in _ (by omega) (by omega)
      have eo : ((m : Int) % 128 + 128) = ((m % 128 + 128 : Nat) : Int) := by omega
      rw [ew]
      rw [eo] at H
      clear hm64
      go_roundw
      case rel =>
        refine ⟨k + 1, m / 128, pre ++ [m % 128 + 128], by omega, by simp [HP.out], rfl, Lib.hid ?_, Lib.hid ?_, a12, c12, by simp, ?_⟩
        · have h2 := HM.out
          have h3 : (2 : Nat) ^ (64 - 7 * k) = 128 * 2 ^ (64 - 7 * (k + 1)) := by
            rw [show 64 - 7 * k = 7 + (64 - 7 * (k + 1)) by omega, Nat.pow_add]
          rw [h3] at h2
          exact Nat.div_lt_of_lt_mul h2
        · rw [HS.out, show 9 - k = (9 - (k + 1)) + 1 by omega, shortF_big _ _ hlt]; simp
        · have e2 : bv pre ++ [Value.int .u8 ((m % 128 + 128 : Nat) : Int)] = bv (pre ++ [m % 128 + 128]) := by simp [bv]
          rw [e2] at H
          have e3 : (pre ++ [m % 128 + 128]).length = pre.length + 1 := by simp
          rw [e3]
          exact H.tl
      case measure => simp [intOf]; omega
end Go.Proofs.Ytjghcmejmdllbaa
