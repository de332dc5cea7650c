/- Layer 19's State (state), where it is one: how it lies in memory, and what is read of it: Counts, Last, View, Board; the bounds stand in each. -/
import Derived.Test.YtjghcmejmdllbaaSta1
import Derived.Test.YtjghcmejmdllbaaRg
namespace Go.Proofs.Ytjghcmejmdllbaa
open Go.ChangeShapes Go.WideShapes Go.ChangeAt Go.RowKit Go.Maps
set_option linter.unusedVariables false
set_option linter.unusedSimpArgs false
set_option linter.unusedSectionVars false
set_option maxRecDepth 100000
set_option maxHeartbeats 4000000
abbrev evL (n : Nat) : Value := .int .u64 (n : Int)
/-- How many messages of a member were told. -/
def lastN (M : List (Pr × Nat)) (p : Pr) : Nat := (mget M p).getD 0
theorem look_lastN (M : List (Pr × Nat)) (p : Pr) : ((mget M p).map evL).getD (.int .u64 0) = .int .u64 ((lastN M p : Nat) : Int) := by
  unfold lastN; cases mget M p <;> rfl
theorem mz22 : ∀ W : World, (zeroValue 22).run Try.prog W = .ok (.int .u64 0) W := fun _ => by kernel_rfl
/-- A state's cells. -/
abbrev stC (x : Vw) (ma la da : Option Addr) (mc lc dc gm : Nat) (b : Nat → ByteArray) : Array Value := #[.int .u64 (x.id : Int), .slice ma x.mem.length mc, .slice la x.lvs.length lc, .slice da x.ldr.length dc, .map (some gm), .string (b 0), .string (b 1), .string (b 2), .string (b 3), .string (b 4), .string (b 5), .string (b 6), .string (b 7)]
/-- A state in memory: the view, the counts, the board. -/
def StAt (w : World) (g0 : Nat) (x : Vw) (M : List (Pr × Nat)) (b : Nat → ByteArray) : Prop :=
  ∃ (ma la da : Option Addr) (mc lc dc gm : Nat) (G : Nat → Prop), w.heap[g0]? = some (.cells (stC x ma la da mc lc dc gm b) 116 (0, 0)) ∧ VwG G w (.slice ma x.mem.length mc) (.slice la x.lvs.length lc) (.slice da x.ldr.length dc) x ∧ MapAt Try.prog 36 ekP evL gm M w
theorem StAt.grow {w w' : World} {g0 : Nat} {x : Vw} {M : List (Pr × Nat)} {b : Nat → ByteArray} (h : StAt w g0 x M b) (hb : Below w.heap.size w w') : StAt w' g0 x M b := by
  obtain ⟨ma, la, da, mc, lc, dc, gm, G, hr, hv, hM⟩ := h
  exact ⟨ma, la, da, mc, lc, dc, gm, G, (hb.block g0 (rowAt_lt (rowAt_of hr))).trans hr, hv.grow hb, hM.grow hb⟩
/-- The same as one resource. -/
def StaR (g0 : Nat) (x : Vw) (M : List (Pr × Nat)) (b : Nat → ByteArray) (R : Res) : Prop :=
  ∃ (ma la da : Option Addr) (mc lc dc gm : Nat) (G : Nat → Prop), R = sep (row 116 g0 (stC x ma la da mc lc dc gm b)) (sep (vwr G (.slice ma x.mem.length mc) (.slice la x.lvs.length lc) (.slice da x.ldr.length dc) x) (mapr Try.prog 36 ekP evL gm M))
theorem StaR.at {B : Nat} {w0 w : World} {L : List Res} {g0 : Nat} {x : Vw} {M : List (Pr × Nat)} {b : Nat → ByteArray} {R : Res} (hR : StaR g0 x M b R) (H : St B w0 w L) (h : R ∈ L) : StAt w g0 x M b := by
  obtain ⟨ma, la, da, mc, lc, dc, gm, G, rfl⟩ := hR
  obtain ⟨h1, h2, _⟩ := H.get h
  obtain ⟨h3, h4, _⟩ := h2.here
  exact ⟨ma, la, da, mc, lc, dc, gm, G, h1.here, h3.here, h4.here⟩
section
variable {w : World} {g0 : Nat} {x : Vw} {ma la da : Option Addr} {mc lc dc gm : Nat} {b : Nat → ByteArray}
theorem stC_view (hr : w.heap[g0]? = some (.cells (stC x ma la da mc lc dc gm b) 116 (0, 0))) : ∀ j, j < 4 → w.cell? ⟨g0, 0 + j, none⟩ = (#[.int .u64 (x.id : Int), .slice ma x.mem.length mc, .slice la x.lvs.length lc, .slice da x.ldr.length dc] : Array Value)[j]? := fun j hj => by
  rw [cell_of_rowAt (rowAt_of hr)]
  have : j = 0 ∨ j = 1 ∨ j = 2 ∨ j = 3 := by omega
  rcases this with rfl | rfl | rfl | rfl <;> rfl
theorem stC_id (hr : w.heap[g0]? = some (.cells (stC x ma la da mc lc dc gm b) 116 (0, 0))) : w.cell? ⟨g0, 0, none⟩ = some (.int .u64 (x.id : Int)) := by
  rw [cell_of_rowAt (rowAt_of hr)]; rfl
theorem stC_map (hr : w.heap[g0]? = some (.cells (stC x ma la da mc lc dc gm b) 116 (0, 0))) : w.cell? ⟨g0, 4, none⟩ = some (.map (some gm)) := by
  rw [cell_of_rowAt (rowAt_of hr)]; rfl
theorem stC_board (hr : w.heap[g0]? = some (.cells (stC x ma la da mc lc dc gm b) 116 (0, 0))) : ∀ j, j < 8 → w.cell? ⟨g0, 5 + j, none⟩ = (#[.string (b 0), .string (b 1), .string (b 2), .string (b 3), .string (b 4), .string (b 5), .string (b 6), .string (b 7)] : Array Value)[j]? := fun j hj => by
  rw [cell_of_rowAt (rowAt_of hr)]
  have : j = 0 ∨ j = 1 ∨ j = 2 ∨ j = 3 ∨ j = 4 ∨ j = 5 ∨ j = 6 ∨ j = 7 := by omega
  rcases this with rfl | rfl | rfl | rfl | rfl | rfl | rfl | rfl <;> rfl
end
section
variable {ops : Array Oper} {a : Act} {w0 : World} {L : List Res} {o : Oper} {x y : Operand} {M : List (Pr × Nat)} {b : Nat} {q : Pr} {l : Lit}
theorem Yld.lookL (hw : Region.wanted o (yielded ops a.tmps) = true) (ho : o.op = .lookup 114 x y false) (hx : a.eval x = .map (some b)) (hy : a.eval y = ekP q) (ha : keyOf Try.prog 36 (ekP q) = some l) (hm : MapAt Try.prog 36 ekP evL b M w0) : YieldsIf Try.prog ops (fun W => St w0.heap.size w0 W L) o (.int .u64 ((lastN M q : Nat) : Int)) a :=
  .inl ⟨hw, fun W H => by
    rw [← look_lastN]
    unfold execOp; simp only [ho, hx, hy]
    simp [run_look false keyedP ekP_inj Try.underlying114 (mz22 W) (hm.grow H.below) ha]⟩
end
/-- Does a command count, behind n messages of its sender's? -/
def cntS (x : Vw) (n : Nat) (c : Cm) : Bool := decide (cErr c = 0) && ((decide (c.kind = 2) && (decide (c.vw = x.id) && (decide (c.fr ∈ x.mem) && decide (c.num = (n + 1) % 18446744073709551616)))) || (decide (c.kind = 3) && decide (c.v.id = (x.id + 1) % 18446744073709551616)))
theorem wrap64s (n : Nat) : IntKind.u64.wrap ((n : Int) + 1) = (((n + 1) % 18446744073709551616 : Nat) : Int) := by rw [IntKind.wrap_u64]; omega
attribute [local irreducible] cErr
theorem scounts_is {G1 : Nat → Prop} (g0 : Nat) (x : Vw) (M : List (Pr × Nat)) (b : Nat → ByteArray) (c : Cm) (ba ma2 la2 da2 : Option Addr) (bc mc2 lc2 dc2 : Nat) (hm : smV c.v) (hw : wfC c) (r : Bool) (hres : cntS x (lastN M c.fr) c = r) (w : World) (hat : StAt w g0 x M b)
    (hx : CmG G1 w (.slice ba c.data.length bc) (.slice ma2 c.v.mem.length mc2) (.slice la2 c.v.lvs.length lc2) (.slice da2 c.v.ldr.length dc2) c) :
    Calls Try.prog 16 #[.pointer (some ⟨g0, 0, none⟩), .agg (cmC c ba ma2 la2 da2 bc mc2 lc2 dc2)] w (Ret fun v w' => v = .bool r ∧ Below w.heap.size w w') := by
  have H := St.init w
  obtain ⟨ma, la, da, mc, lc, dc, gm, G, hr, hv, hM⟩ := hat
  have hcv := stC_view hr
  have hc0 := stC_id hr
  have hc4 := stC_map hr
  have hcb := stC_board hr
  have hlt : g0 < w.heap.size := rowAt_lt (rowAt_of hr)
  clear hr
  obtain ⟨kl, hkl⟩ := keyP c.fr hw.fr1 hw.fr2
  have HK := Lib.hid hkl
  clear hkl
  simp only [cmC]
  obtain ⟨e, he⟩ : ∃ e, cErr c = e := ⟨_, rfl⟩
  have HE := Lib.hid he
  by_cases he0 : e = 0
  · subst he0
    by_cases k2 : c.kind = 2
    · have i2 : (c.kind == 2) = true := by simp [k2]
      obtain ⟨m, hm1⟩ : ∃ m : Nat, (lastN M c.fr + 1) % 18446744073709551616 = m := ⟨_, rfl⟩
      have HW1 : Hid (IntKind.u64.wrap (((lastN M c.fr : Nat) : Int) + 1) = (m : Int)) := Lib.hid (by rw [wrap64s, hm1])
      obtain ⟨b3, hb3⟩ : ∃ b3, decide (c.num = m) = b3 := ⟨_, rfl⟩
      have HN : Hid (((c.num : Int) == (m : Int)) = b3) := Lib.hid (by rw [← hb3, Bool.eq_iff_iff]; simp; omega)
      obtain ⟨bb, hbb⟩ : ∃ bb, decide (c.fr ∈ x.mem) = bb := ⟨_, rfl⟩
      have HB2 := Lib.hid hbb
      by_cases hvw : c.vw = x.id
      · have iv : ((c.vw : Int) == (x.id : Int)) = true := by simp [hvw]
        have hr : r = (bb && b3) := by
          rw [← hres]; unfold cntS
          rw [he, hm1, hbb, hb3]
          simp [k2, hvw]
        clear he k2 hm1 hb3 hbb hvw hres
        cases bb
        · subst hr
          go_enter Try.func16, Try.ntmps16
          go_wp2_with (first | (go_at_call 62; (with_reducible refine (ccheck_ok c ba ma2 la2 da2 bc mc2 lc2 dc2 hm hw _ (hx.grow H.below)).mono ?_); rintro e w1 ⟨v, rfl, hr⟩; obtain ⟨rfl, hb1⟩ := hr; replace H := H.grow hb1; clear hb1; rw [HE.out]) | (with_reducible refine wpl rfl (Stp.box 3 rfl rfl rfl H ?_); clear H; intro g3 w1 H; simp only [pS]; simp only [pE, nC, pS] at H) | (with_reducible refine wpl rfl (Stp.ldr rfl agg43 size43 rfl H mR sZ ?_); simp only [pS]) | (with_reducible refine wpl rfl (Stp.ldl rfl agg43 size43 rfl H mR (by simp) ?_); simp only [pS]; simp only [List.drop_succ_cons, List.drop_zero, List.take_succ_cons, List.take_zero]) | (with_reducible refine wpl rfl (Stp.ldor rfl agg43 size43 rfl H (by assumption) sZ (by assumption) ?_); simp only [pS]) | (with_reducible refine wpl rfl (Stp.ldc rfl agg3 rfl H mR cE ?_); simp only [pS]) | (with_reducible refine wpl rfl (Stp.ldo rfl agg3 rfl H (by assumption) (by assumption) ?_); simp only [pS]))
          refine rg_begin 31 rfl (S := fun W => St _ _ W (row 43 g3 #[.int .i64 c.kind, .int .u16 (c.fr.1 : Int), .int .u32 (c.fr.2 : Int), .int .u64 (c.num : Int), .int .u64 (c.vw : Int), .slice ba c.data.length bc, .int .u64 (c.v.id : Int), .slice ma2 c.v.mem.length mc2, .slice la2 c.v.lvs.length lc2, .slice da2 c.v.ldr.length dc2] :: [])) (by kernel_rfl) (H.drew.sub sU) ?_
          replace H := H.drew
          have HS := H
          refine rg_take (i := 0) rfl kR kR kR (Yld.o rfl) HS ?_; simp only [pS]
          first | (refine rg_take (i := 1) rfl kR kR kR (Yld.ldc rfl rfl agg22 rfl mR cE) HS ?_; simp only [pS]) | (refine rg_take (i := 1) rfl kR kR kR (Yld.ldo rfl rfl agg22 rfl (by assumption) (by assumption)) HS ?_; simp only [pS])
          refine rg_take (i := 2) rfl kR kR kR (Yld.move rfl rfl) HS ?_; simp only [pS, pE]
          refine rg_take (i := 3) rfl kR kR kR (Yld.o rfl) HS ?_; simp only [pS]
          refine rg_take (i := 4) rfl kR kR kR (Yld.o rfl) HS ?_; simp only [pS]
          refine rg_take (i := 5) rfl kR kR kR (Yld.o rfl) HS ?_; simp only [pS]
          first | (refine rg_take (i := 6) rfl kR kR kR (Yld.ldc rfl rfl agg22 rfl mR cE) HS ?_; simp only [pS]) | (refine rg_take (i := 6) rfl kR kR kR (Yld.ldo rfl rfl agg22 rfl (by assumption) (by assumption)) HS ?_; simp only [pS])
          refine rg_take (i := 7) rfl kR kR kR (Yld.o rfl) HS ?_; simp only [pS]
          refine rg_take (i := 8) rfl kR kR kR (Yld.move rfl rfl) HS ?_; simp only [pS, pE]
          refine rg_take (i := 9) rfl kR kR kR (Yld.move rfl rfl) HS ?_; simp only [pS, pE]
          refine rg_take (i := 10) rfl kR kR kR (Yld.o rfl) HS ?_; simp only [pS]
          refine rg_take (i := 11) rfl kR kR kR (Yld.o rfl) HS ?_; simp only [pS]
          first | (refine rg_take (i := 12) rfl kR kR kR (Yld.ldr rfl rfl agg26 size26 rfl mR sZ) HS ?_; simp only [pS]) | (refine rg_take (i := 12) rfl kR kR kR (Yld.ldl rfl rfl agg26 size26 rfl mR (by simp)) HS ?_; simp only [pS]; simp only [List.drop_succ_cons, List.drop_zero, List.take_succ_cons, List.take_zero]) | (refine rg_take (i := 12) rfl kR kR kR (Yld.ldor rfl rfl agg26 size26 rfl (by assumption) sZ (by assumption)) HS ?_; simp only [pS])
          refine rg_take (i := 13) rfl kR kR kR (Yld.o rfl) HS ?_; simp only [pS]
          first | (refine rg_take (i := 14) rfl kR kR kR (Yld.ldr rfl rfl agg36 size36 rfl mR sZ) HS ?_; simp only [pS]) | (refine rg_take (i := 14) rfl kR kR kR (Yld.ldl rfl rfl agg36 size36 rfl mR (by simp)) HS ?_; simp only [pS]; simp only [List.drop_succ_cons, List.drop_zero, List.take_succ_cons, List.take_zero]) | (refine rg_take (i := 14) rfl kR kR kR (Yld.ldor rfl rfl agg36 size36 rfl (by assumption) sZ (by assumption)) HS ?_; simp only [pS])
          refine rg_one (i := 15) (by kernel_rfl) rfl rfl (fun K hK => ?_)
          refine wp_callf rfl ent63 (vhas_is x ma la da mc lc dc c.fr _ HB2.out _ (hv.1.sl.grow H.below)) rfl (fun v w1 hr => ?_)
          obtain ⟨rfl, hb1⟩ := hr
          replace H := H.grow hb1
          clear hb1
          clear HS
          have HS := H
          refine hK.out _ _ HS ?_
          clear hK K
          simp only [pS]
          refine rg_take (i := 16) rfl kR kR kR (Yld.pick rfl rfl rfl) HS ?_; simp only [pS, pE]
          refine rg_take (i := 17) rfl kR kR kR (Yld.move rfl rfl) HS ?_; simp only [pS, pE]
          refine rg_take (i := 18) rfl kR kR kR (Yld.skip rfl) HS ?_; simp only [pS]
          refine rg_take (i := 19) rfl kR kR kR (Yld.skip rfl) HS ?_; simp only [pS]
          refine rg_take (i := 20) rfl kR kR kR (Yld.skip rfl) HS ?_; simp only [pS]
          refine rg_take (i := 21) rfl kR kR kR (Yld.skip rfl) HS ?_; simp only [pS]
          refine rg_take (i := 22) rfl kR kR kR (Yld.skip rfl) HS ?_; simp only [pS]
          refine rg_take (i := 23) rfl kR kR kR (Yld.skip rfl) HS ?_; simp only [pS]
          refine rg_take (i := 24) rfl kR kR kR (Yld.skip rfl) HS ?_; simp only [pS]
          refine rg_take (i := 25) rfl kR kR kR (Yld.skip rfl) HS ?_; simp only [pS]
          refine rg_take (i := 26) rfl kR kR kR (Yld.skip rfl) HS ?_; simp only [pS]
          refine rg_take (i := 27) rfl kR kR kR (Yld.skip rfl) HS ?_; simp only [pS]
          refine rg_take (i := 28) rfl kR kR kR (Yld.skip rfl) HS ?_; simp only [pS]
          refine rg_take (i := 29) rfl kR kR kR (Yld.pick rfl rfl rfl) HS ?_; simp only [pS, pE]
          refine rg_take (i := 30) rfl kR kR kR (Yld.assign rfl rfl) HS ?_; simp only [pS, pE]
          refine rg_done (by kernel_rfl) ?_
          go_wp2_with (first | (with_reducible refine wpl rfl (Stp.box 3 rfl rfl rfl H ?_); clear H; intro g3 w1 H; simp only [pS]; simp only [pE, nC, pS] at H) | (with_reducible refine wpl rfl (Stp.ldr rfl agg43 size43 rfl H mR sZ ?_); simp only [pS]) | (with_reducible refine wpl rfl (Stp.ldl rfl agg43 size43 rfl H mR (by simp) ?_); simp only [pS]; simp only [List.drop_succ_cons, List.drop_zero, List.take_succ_cons, List.take_zero]) | (with_reducible refine wpl rfl (Stp.ldor rfl agg43 size43 rfl H (by assumption) sZ (by assumption) ?_); simp only [pS]) | (with_reducible refine wpl rfl (Stp.ldc rfl agg3 rfl H mR cE ?_); simp only [pS]) | (with_reducible refine wpl rfl (Stp.ldo rfl agg3 rfl H (by assumption) (by assumption) ?_); simp only [pS]))
          go_ret
          exact ⟨_, rfl, rfl, H.below⟩
        · rw [Bool.true_and] at hr
          subst hr
          go_enter Try.func16, Try.ntmps16
          go_wp2_with (first | (go_at_call 62; (with_reducible refine (ccheck_ok c ba ma2 la2 da2 bc mc2 lc2 dc2 hm hw _ (hx.grow H.below)).mono ?_); rintro e w1 ⟨v, rfl, hr⟩; obtain ⟨rfl, hb1⟩ := hr; replace H := H.grow hb1; clear hb1; rw [HE.out]) | (with_reducible refine wpl rfl (Stp.box 3 rfl rfl rfl H ?_); clear H; intro g3 w1 H; simp only [pS]; simp only [pE, nC, pS] at H) | (with_reducible refine wpl rfl (Stp.ldr rfl agg43 size43 rfl H mR sZ ?_); simp only [pS]) | (with_reducible refine wpl rfl (Stp.ldl rfl agg43 size43 rfl H mR (by simp) ?_); simp only [pS]; simp only [List.drop_succ_cons, List.drop_zero, List.take_succ_cons, List.take_zero]) | (with_reducible refine wpl rfl (Stp.ldor rfl agg43 size43 rfl H (by assumption) sZ (by assumption) ?_); simp only [pS]) | (with_reducible refine wpl rfl (Stp.ldc rfl agg3 rfl H mR cE ?_); simp only [pS]) | (with_reducible refine wpl rfl (Stp.ldo rfl agg3 rfl H (by assumption) (by assumption) ?_); simp only [pS]))
          refine rg_begin 31 rfl (S := fun W => St _ _ W (row 43 g3 #[.int .i64 c.kind, .int .u16 (c.fr.1 : Int), .int .u32 (c.fr.2 : Int), .int .u64 (c.num : Int), .int .u64 (c.vw : Int), .slice ba c.data.length bc, .int .u64 (c.v.id : Int), .slice ma2 c.v.mem.length mc2, .slice la2 c.v.lvs.length lc2, .slice da2 c.v.ldr.length dc2] :: [])) (by kernel_rfl) (H.drew.sub sU) ?_
          replace H := H.drew
          have HS := H
          refine rg_take (i := 0) rfl kR kR kR (Yld.o rfl) HS ?_; simp only [pS]
          first | (refine rg_take (i := 1) rfl kR kR kR (Yld.ldc rfl rfl agg22 rfl mR cE) HS ?_; simp only [pS]) | (refine rg_take (i := 1) rfl kR kR kR (Yld.ldo rfl rfl agg22 rfl (by assumption) (by assumption)) HS ?_; simp only [pS])
          refine rg_take (i := 2) rfl kR kR kR (Yld.move rfl rfl) HS ?_; simp only [pS, pE]
          refine rg_take (i := 3) rfl kR kR kR (Yld.o rfl) HS ?_; simp only [pS]
          refine rg_take (i := 4) rfl kR kR kR (Yld.o rfl) HS ?_; simp only [pS]
          refine rg_take (i := 5) rfl kR kR kR (Yld.o rfl) HS ?_; simp only [pS]
          first | (refine rg_take (i := 6) rfl kR kR kR (Yld.ldc rfl rfl agg22 rfl mR cE) HS ?_; simp only [pS]) | (refine rg_take (i := 6) rfl kR kR kR (Yld.ldo rfl rfl agg22 rfl (by assumption) (by assumption)) HS ?_; simp only [pS])
          refine rg_take (i := 7) rfl kR kR kR (Yld.o rfl) HS ?_; simp only [pS]
          refine rg_take (i := 8) rfl kR kR kR (Yld.move rfl rfl) HS ?_; simp only [pS, pE]
          refine rg_take (i := 9) rfl kR kR kR (Yld.move rfl rfl) HS ?_; simp only [pS, pE]
          refine rg_take (i := 10) rfl kR kR kR (Yld.o rfl) HS ?_; simp only [pS]
          refine rg_take (i := 11) rfl kR kR kR (Yld.o rfl) HS ?_; simp only [pS]
          first | (refine rg_take (i := 12) rfl kR kR kR (Yld.ldr rfl rfl agg26 size26 rfl mR sZ) HS ?_; simp only [pS]) | (refine rg_take (i := 12) rfl kR kR kR (Yld.ldl rfl rfl agg26 size26 rfl mR (by simp)) HS ?_; simp only [pS]; simp only [List.drop_succ_cons, List.drop_zero, List.take_succ_cons, List.take_zero]) | (refine rg_take (i := 12) rfl kR kR kR (Yld.ldor rfl rfl agg26 size26 rfl (by assumption) sZ (by assumption)) HS ?_; simp only [pS])
          refine rg_take (i := 13) rfl kR kR kR (Yld.o rfl) HS ?_; simp only [pS]
          first | (refine rg_take (i := 14) rfl kR kR kR (Yld.ldr rfl rfl agg36 size36 rfl mR sZ) HS ?_; simp only [pS]) | (refine rg_take (i := 14) rfl kR kR kR (Yld.ldl rfl rfl agg36 size36 rfl mR (by simp)) HS ?_; simp only [pS]; simp only [List.drop_succ_cons, List.drop_zero, List.take_succ_cons, List.take_zero]) | (refine rg_take (i := 14) rfl kR kR kR (Yld.ldor rfl rfl agg36 size36 rfl (by assumption) sZ (by assumption)) HS ?_; simp only [pS])
          refine rg_one (i := 15) (by kernel_rfl) rfl rfl (fun K hK => ?_)
          refine wp_callf rfl ent63 (vhas_is x ma la da mc lc dc c.fr _ HB2.out _ (hv.1.sl.grow H.below)) rfl (fun v w1 hr => ?_)
          obtain ⟨rfl, hb1⟩ := hr
          replace H := H.grow hb1
          clear hb1
          clear HS
          have HS := H
          refine hK.out _ _ HS ?_
          clear hK K
          simp only [pS]
          refine rg_take (i := 16) rfl kR kR kR (Yld.pick rfl rfl rfl) HS ?_; simp only [pS, pE]
          refine rg_take (i := 17) rfl kR kR kR (Yld.move rfl rfl) HS ?_; simp only [pS, pE]
          refine rg_take (i := 18) rfl kR kR kR (Yld.o rfl) HS ?_; simp only [pS]
          first | (refine rg_take (i := 19) rfl kR kR kR (Yld.ldc rfl rfl agg22 rfl mR cE) HS ?_; simp only [pS]) | (refine rg_take (i := 19) rfl kR kR kR (Yld.ldo rfl rfl agg22 rfl (by assumption) (by assumption)) HS ?_; simp only [pS])
          refine rg_take (i := 20) rfl kR kR kR (Yld.move rfl rfl) HS ?_; simp only [pS, pE]
          refine rg_take (i := 21) rfl kR kR kR (Yld.o rfl) HS ?_; simp only [pS]
          refine rg_take (i := 22) rfl kR kR kR (Yld.o rfl) HS ?_; simp only [pS]
          first | (refine rg_take (i := 23) rfl kR kR kR (Yld.ldc rfl rfl agg114 rfl mR cE) HS ?_; simp only [pS]) | (refine rg_take (i := 23) rfl kR kR kR (Yld.ldo rfl rfl agg114 rfl (by assumption) (by assumption)) HS ?_; simp only [pS])
          refine rg_take (i := 24) rfl kR kR kR (Yld.o rfl) HS ?_; simp only [pS]
          first | (refine rg_take (i := 25) rfl kR kR kR (Yld.ldr rfl rfl agg36 size36 rfl mR sZ) HS ?_; simp only [pS]) | (refine rg_take (i := 25) rfl kR kR kR (Yld.ldl rfl rfl agg36 size36 rfl mR (by simp)) HS ?_; simp only [pS]; simp only [List.drop_succ_cons, List.drop_zero, List.take_succ_cons, List.take_zero]) | (refine rg_take (i := 25) rfl kR kR kR (Yld.ldor rfl rfl agg36 size36 rfl (by assumption) sZ (by assumption)) HS ?_; simp only [pS])
          refine rg_take (i := 26) rfl kR kR kR (Yld.lookL (q := c.fr) rfl rfl rfl rfl HK.out hM) HS ?_; simp only [pS, pE]
          refine rg_take (i := 27) rfl kR kR kR (Yld.of (v := .int .u64 (m : Int)) rfl (fun W _ => by go_simp; first | done | exact HW1.out | (rw [HW1.out]))) HS ?_; simp only [pS, pE]
          refine rg_take (i := 28) rfl kR kR kR (Yld.of (v := .bool r) rfl (fun W _ => by go_simp; first | done | exact HN.out | (rw [HN.out]))) HS ?_; simp only [pS, pE]
          refine rg_take (i := 29) rfl kR kR kR (Yld.pick rfl rfl rfl) HS ?_; simp only [pS, pE]
          refine rg_take (i := 30) rfl kR kR kR (Yld.assign rfl rfl) HS ?_; simp only [pS, pE]
          refine rg_done (by kernel_rfl) ?_
          go_wp2_with (first | (with_reducible refine wpl rfl (Stp.box 3 rfl rfl rfl H ?_); clear H; intro g3 w1 H; simp only [pS]; simp only [pE, nC, pS] at H) | (with_reducible refine wpl rfl (Stp.ldr rfl agg43 size43 rfl H mR sZ ?_); simp only [pS]) | (with_reducible refine wpl rfl (Stp.ldl rfl agg43 size43 rfl H mR (by simp) ?_); simp only [pS]; simp only [List.drop_succ_cons, List.drop_zero, List.take_succ_cons, List.take_zero]) | (with_reducible refine wpl rfl (Stp.ldor rfl agg43 size43 rfl H (by assumption) sZ (by assumption) ?_); simp only [pS]) | (with_reducible refine wpl rfl (Stp.ldc rfl agg3 rfl H mR cE ?_); simp only [pS]) | (with_reducible refine wpl rfl (Stp.ldo rfl agg3 rfl H (by assumption) (by assumption) ?_); simp only [pS]))
          go_ret
          exact ⟨_, rfl, rfl, H.below⟩
      · have iv : ((c.vw : Int) == (x.id : Int)) = false := by simp; omega
        have hr : r = false := by
          rw [← hres]; unfold cntS
          simp [k2, hvw]
        subst hr
        clear he k2 hm1 hb3 hbb hvw hres
        go_enter Try.func16, Try.ntmps16
        go_wp2_with (first | (go_at_call 62; (with_reducible refine (ccheck_ok c ba ma2 la2 da2 bc mc2 lc2 dc2 hm hw _ (hx.grow H.below)).mono ?_); rintro e w1 ⟨v, rfl, hr⟩; obtain ⟨rfl, hb1⟩ := hr; replace H := H.grow hb1; clear hb1; rw [HE.out]) | (with_reducible refine wpl rfl (Stp.box 3 rfl rfl rfl H ?_); clear H; intro g3 w1 H; simp only [pS]; simp only [pE, nC, pS] at H) | (with_reducible refine wpl rfl (Stp.ldr rfl agg43 size43 rfl H mR sZ ?_); simp only [pS]) | (with_reducible refine wpl rfl (Stp.ldl rfl agg43 size43 rfl H mR (by simp) ?_); simp only [pS]; simp only [List.drop_succ_cons, List.drop_zero, List.take_succ_cons, List.take_zero]) | (with_reducible refine wpl rfl (Stp.ldor rfl agg43 size43 rfl H (by assumption) sZ (by assumption) ?_); simp only [pS]) | (with_reducible refine wpl rfl (Stp.ldc rfl agg3 rfl H mR cE ?_); simp only [pS]) | (with_reducible refine wpl rfl (Stp.ldo rfl agg3 rfl H (by assumption) (by assumption) ?_); simp only [pS]))
        refine rg_begin 31 rfl (S := fun W => St _ _ W (row 43 g3 #[.int .i64 c.kind, .int .u16 (c.fr.1 : Int), .int .u32 (c.fr.2 : Int), .int .u64 (c.num : Int), .int .u64 (c.vw : Int), .slice ba c.data.length bc, .int .u64 (c.v.id : Int), .slice ma2 c.v.mem.length mc2, .slice la2 c.v.lvs.length lc2, .slice da2 c.v.ldr.length dc2] :: [])) (by kernel_rfl) (H.drew.sub sU) ?_
        replace H := H.drew
        have HS := H
        refine rg_take (i := 0) rfl kR kR kR (Yld.o rfl) HS ?_; simp only [pS]
        first | (refine rg_take (i := 1) rfl kR kR kR (Yld.ldc rfl rfl agg22 rfl mR cE) HS ?_; simp only [pS]) | (refine rg_take (i := 1) rfl kR kR kR (Yld.ldo rfl rfl agg22 rfl (by assumption) (by assumption)) HS ?_; simp only [pS])
        refine rg_take (i := 2) rfl kR kR kR (Yld.move rfl rfl) HS ?_; simp only [pS, pE]
        refine rg_take (i := 3) rfl kR kR kR (Yld.o rfl) HS ?_; simp only [pS]
        refine rg_take (i := 4) rfl kR kR kR (Yld.o rfl) HS ?_; simp only [pS]
        refine rg_take (i := 5) rfl kR kR kR (Yld.o rfl) HS ?_; simp only [pS]
        first | (refine rg_take (i := 6) rfl kR kR kR (Yld.ldc rfl rfl agg22 rfl mR cE) HS ?_; simp only [pS]) | (refine rg_take (i := 6) rfl kR kR kR (Yld.ldo rfl rfl agg22 rfl (by assumption) (by assumption)) HS ?_; simp only [pS])
        refine rg_take (i := 7) rfl kR kR kR (Yld.o rfl) HS ?_; simp only [pS]
        refine rg_take (i := 8) rfl kR kR kR (Yld.move rfl rfl) HS ?_; simp only [pS, pE]
        refine rg_take (i := 9) rfl kR kR kR (Yld.skip rfl) HS ?_; simp only [pS]
        refine rg_take (i := 10) rfl kR kR kR (Yld.skip rfl) HS ?_; simp only [pS]
        refine rg_take (i := 11) rfl kR kR kR (Yld.skip rfl) HS ?_; simp only [pS]
        refine rg_take (i := 12) rfl kR kR kR (Yld.skip rfl) HS ?_; simp only [pS]
        refine rg_take (i := 13) rfl kR kR kR (Yld.skip rfl) HS ?_; simp only [pS]
        refine rg_take (i := 14) rfl kR kR kR (Yld.skip rfl) HS ?_; simp only [pS]
        refine rg_take (i := 15) rfl kR kR kR (Yld.skip rfl) HS ?_; simp only [pS]
        refine rg_take (i := 16) rfl kR kR kR (Yld.pick rfl rfl rfl) HS ?_; simp only [pS, pE]
        refine rg_take (i := 17) rfl kR kR kR (Yld.move rfl rfl) HS ?_; simp only [pS, pE]
        refine rg_take (i := 18) rfl kR kR kR (Yld.skip rfl) HS ?_; simp only [pS]
        refine rg_take (i := 19) rfl kR kR kR (Yld.skip rfl) HS ?_; simp only [pS]
        refine rg_take (i := 20) rfl kR kR kR (Yld.skip rfl) HS ?_; simp only [pS]
        refine rg_take (i := 21) rfl kR kR kR (Yld.skip rfl) HS ?_; simp only [pS]
        refine rg_take (i := 22) rfl kR kR kR (Yld.skip rfl) HS ?_; simp only [pS]
        refine rg_take (i := 23) rfl kR kR kR (Yld.skip rfl) HS ?_; simp only [pS]
        refine rg_take (i := 24) rfl kR kR kR (Yld.skip rfl) HS ?_; simp only [pS]
        refine rg_take (i := 25) rfl kR kR kR (Yld.skip rfl) HS ?_; simp only [pS]
        refine rg_take (i := 26) rfl kR kR kR (Yld.skip rfl) HS ?_; simp only [pS]
        refine rg_take (i := 27) rfl kR kR kR (Yld.skip rfl) HS ?_; simp only [pS]
        refine rg_take (i := 28) rfl kR kR kR (Yld.skip rfl) HS ?_; simp only [pS]
        refine rg_take (i := 29) rfl kR kR kR (Yld.pick rfl rfl rfl) HS ?_; simp only [pS, pE]
        refine rg_take (i := 30) rfl kR kR kR (Yld.assign rfl rfl) HS ?_; simp only [pS, pE]
        refine rg_done (by kernel_rfl) ?_
        go_wp2_with (first | (with_reducible refine wpl rfl (Stp.box 3 rfl rfl rfl H ?_); clear H; intro g3 w1 H; simp only [pS]; simp only [pE, nC, pS] at H) | (with_reducible refine wpl rfl (Stp.ldr rfl agg43 size43 rfl H mR sZ ?_); simp only [pS]) | (with_reducible refine wpl rfl (Stp.ldl rfl agg43 size43 rfl H mR (by simp) ?_); simp only [pS]; simp only [List.drop_succ_cons, List.drop_zero, List.take_succ_cons, List.take_zero]) | (with_reducible refine wpl rfl (Stp.ldor rfl agg43 size43 rfl H (by assumption) sZ (by assumption) ?_); simp only [pS]) | (with_reducible refine wpl rfl (Stp.ldc rfl agg3 rfl H mR cE ?_); simp only [pS]) | (with_reducible refine wpl rfl (Stp.ldo rfl agg3 rfl H (by assumption) (by assumption) ?_); simp only [pS]))
        go_ret
        exact ⟨_, rfl, rfl, H.below⟩
    · have i2 : (c.kind == 2) = false := by simp [k2]
      by_cases k3 : c.kind = 3
      · have i3 : (c.kind == 3) = true := by simp [k3]
        obtain ⟨m, hm1⟩ : ∃ m : Nat, (x.id + 1) % 18446744073709551616 = m := ⟨_, rfl⟩
        have HW1 : Hid (IntKind.u64.wrap ((x.id : Int) + 1) = (m : Int)) := Lib.hid (by rw [wrap64s, hm1])
        obtain ⟨b3, hb3⟩ : ∃ b3, decide (c.v.id = m) = b3 := ⟨_, rfl⟩
        have HN : Hid (((c.v.id : Int) == (m : Int)) = b3) := Lib.hid (by rw [← hb3, Bool.eq_iff_iff]; simp; omega)
        have hr : r = b3 := by
          rw [← hres]; unfold cntS
          rw [he, hm1, hb3]
          simp [k3]
        subst hr
        clear he k2 k3 hm1 hb3 hres
        go_enter Try.func16, Try.ntmps16
        go_wp2_with (first | (go_at_call 62; (with_reducible refine (ccheck_ok c ba ma2 la2 da2 bc mc2 lc2 dc2 hm hw _ (hx.grow H.below)).mono ?_); rintro e w1 ⟨v, rfl, hr⟩; obtain ⟨rfl, hb1⟩ := hr; replace H := H.grow hb1; clear hb1; rw [HE.out]) | (with_reducible refine wpl rfl (Stp.box 3 rfl rfl rfl H ?_); clear H; intro g3 w1 H; simp only [pS]; simp only [pE, nC, pS] at H) | (with_reducible refine wpl rfl (Stp.ldr rfl agg43 size43 rfl H mR sZ ?_); simp only [pS]) | (with_reducible refine wpl rfl (Stp.ldl rfl agg43 size43 rfl H mR (by simp) ?_); simp only [pS]; simp only [List.drop_succ_cons, List.drop_zero, List.take_succ_cons, List.take_zero]) | (with_reducible refine wpl rfl (Stp.ldor rfl agg43 size43 rfl H (by assumption) sZ (by assumption) ?_); simp only [pS]) | (with_reducible refine wpl rfl (Stp.ldc rfl agg3 rfl H mR cE ?_); simp only [pS]) | (with_reducible refine wpl rfl (Stp.ldo rfl agg3 rfl H (by assumption) (by assumption) ?_); simp only [pS]))
        refine rg_begin 11 rfl (S := fun W => St _ _ W (row 43 g3 #[.int .i64 c.kind, .int .u16 (c.fr.1 : Int), .int .u32 (c.fr.2 : Int), .int .u64 (c.num : Int), .int .u64 (c.vw : Int), .slice ba c.data.length bc, .int .u64 (c.v.id : Int), .slice ma2 c.v.mem.length mc2, .slice la2 c.v.lvs.length lc2, .slice da2 c.v.ldr.length dc2] :: [])) (by kernel_rfl) (H.drew.sub sU) ?_
        replace H := H.drew
        have HS := H
        refine rg_take (i := 0) rfl kR kR kR (Yld.o rfl) HS ?_; simp only [pS]
        refine rg_take (i := 1) rfl kR kR kR (Yld.o rfl) HS ?_; simp only [pS]
        first | (refine rg_take (i := 2) rfl kR kR kR (Yld.ldc rfl rfl agg22 rfl mR cE) HS ?_; simp only [pS]) | (refine rg_take (i := 2) rfl kR kR kR (Yld.ldo rfl rfl agg22 rfl (by assumption) (by assumption)) HS ?_; simp only [pS])
        refine rg_take (i := 3) rfl kR kR kR (Yld.move rfl rfl) HS ?_; simp only [pS, pE]
        refine rg_take (i := 4) rfl kR kR kR (Yld.o rfl) HS ?_; simp only [pS]
        refine rg_take (i := 5) rfl kR kR kR (Yld.o rfl) HS ?_; simp only [pS]
        refine rg_take (i := 6) rfl kR kR kR (Yld.o rfl) HS ?_; simp only [pS]
        first | (refine rg_take (i := 7) rfl kR kR kR (Yld.ldc rfl rfl agg22 rfl mR cE) HS ?_; simp only [pS]) | (refine rg_take (i := 7) rfl kR kR kR (Yld.ldo rfl rfl agg22 rfl (by assumption) (by assumption)) HS ?_; simp only [pS])
        refine rg_take (i := 8) rfl kR kR kR (Yld.of (v := .int .u64 (m : Int)) rfl (fun W _ => by go_simp; first | done | exact HW1.out | (rw [HW1.out]))) HS ?_; simp only [pS, pE]
        refine rg_take (i := 9) rfl kR kR kR (Yld.of (v := .bool r) rfl (fun W _ => by go_simp; first | done | exact HN.out | (rw [HN.out]))) HS ?_; simp only [pS, pE]
        refine rg_take (i := 10) rfl kR kR kR (Yld.assign rfl rfl) HS ?_; simp only [pS, pE]
        refine rg_done (by kernel_rfl) ?_
        go_wp2_with (first | (with_reducible refine wpl rfl (Stp.box 3 rfl rfl rfl H ?_); clear H; intro g3 w1 H; simp only [pS]; simp only [pE, nC, pS] at H) | (with_reducible refine wpl rfl (Stp.ldr rfl agg43 size43 rfl H mR sZ ?_); simp only [pS]) | (with_reducible refine wpl rfl (Stp.ldl rfl agg43 size43 rfl H mR (by simp) ?_); simp only [pS]; simp only [List.drop_succ_cons, List.drop_zero, List.take_succ_cons, List.take_zero]) | (with_reducible refine wpl rfl (Stp.ldor rfl agg43 size43 rfl H (by assumption) sZ (by assumption) ?_); simp only [pS]) | (with_reducible refine wpl rfl (Stp.ldc rfl agg3 rfl H mR cE ?_); simp only [pS]) | (with_reducible refine wpl rfl (Stp.ldo rfl agg3 rfl H (by assumption) (by assumption) ?_); simp only [pS]))
        go_ret
        exact ⟨_, rfl, rfl, H.below⟩
      · have i3 : (c.kind == 3) = false := by simp [k3]
        have hr : r = false := by
          rw [← hres]; unfold cntS
          simp [k2, k3]
        subst hr
        clear he k2 k3 hres
        go_enter Try.func16, Try.ntmps16
        go_wp2_with (first | (go_at_call 62; (with_reducible refine (ccheck_ok c ba ma2 la2 da2 bc mc2 lc2 dc2 hm hw _ (hx.grow H.below)).mono ?_); rintro e w1 ⟨v, rfl, hr⟩; obtain ⟨rfl, hb1⟩ := hr; replace H := H.grow hb1; clear hb1; rw [HE.out]) | (with_reducible refine wpl rfl (Stp.box 3 rfl rfl rfl H ?_); clear H; intro g3 w1 H; simp only [pS]; simp only [pE, nC, pS] at H) | (with_reducible refine wpl rfl (Stp.ldr rfl agg43 size43 rfl H mR sZ ?_); simp only [pS]) | (with_reducible refine wpl rfl (Stp.ldl rfl agg43 size43 rfl H mR (by simp) ?_); simp only [pS]; simp only [List.drop_succ_cons, List.drop_zero, List.take_succ_cons, List.take_zero]) | (with_reducible refine wpl rfl (Stp.ldor rfl agg43 size43 rfl H (by assumption) sZ (by assumption) ?_); simp only [pS]) | (with_reducible refine wpl rfl (Stp.ldc rfl agg3 rfl H mR cE ?_); simp only [pS]) | (with_reducible refine wpl rfl (Stp.ldo rfl agg3 rfl H (by assumption) (by assumption) ?_); simp only [pS]))
        go_ret
        exact ⟨_, rfl, rfl, H.below⟩
  · have hi : (e == 0) = false := by simp [he0]
    have hj : (e != 0) = true := by simp [he0]
    have hr : r = false := by
      rw [← hres]; unfold cntS
      simp [he, he0]
    subst hr
    clear he he0 hres
    go_enter Try.func16, Try.ntmps16
    go_wp2_with (first | (go_at_call 62; (with_reducible refine (ccheck_ok c ba ma2 la2 da2 bc mc2 lc2 dc2 hm hw _ (hx.grow H.below)).mono ?_); rintro e w1 ⟨v, rfl, hr⟩; obtain ⟨rfl, hb1⟩ := hr; replace H := H.grow hb1; clear hb1; rw [HE.out]) | (with_reducible refine wpl rfl (Stp.box 3 rfl rfl rfl H ?_); clear H; intro g3 w1 H; simp only [pS]; simp only [pE, nC, pS] at H) | (with_reducible refine wpl rfl (Stp.ldr rfl agg43 size43 rfl H mR sZ ?_); simp only [pS]) | (with_reducible refine wpl rfl (Stp.ldl rfl agg43 size43 rfl H mR (by simp) ?_); simp only [pS]; simp only [List.drop_succ_cons, List.drop_zero, List.take_succ_cons, List.take_zero]) | (with_reducible refine wpl rfl (Stp.ldor rfl agg43 size43 rfl H (by assumption) sZ (by assumption) ?_); simp only [pS]) | (with_reducible refine wpl rfl (Stp.ldc rfl agg3 rfl H mR cE ?_); simp only [pS]) | (with_reducible refine wpl rfl (Stp.ldo rfl agg3 rfl H (by assumption) (by assumption) ?_); simp only [pS]))
    go_ret
    exact ⟨_, rfl, rfl, H.below⟩
theorem slast_is (g0 : Nat) (x : Vw) (M : List (Pr × Nat)) (b : Nat → ByteArray) (p : Pr) (p1 : p.1 < 65536) (p2 : p.2 < 4294967296) (n : Nat) (hn : lastN M p = n) (w : World) (hat : StAt w g0 x M b) :
    Calls Try.prog 22 #[.pointer (some ⟨g0, 0, none⟩), .agg #[.int .u16 (p.1 : Int), .int .u32 (p.2 : Int)]] w (Ret fun v w' => v = .int .u64 (n : Int) ∧ Below w.heap.size w w') := by
  subst hn
  have H := St.init w
  obtain ⟨ma, la, da, mc, lc, dc, gm, G, hr, hv, hM⟩ := hat
  have hcv := stC_view hr
  have hc0 := stC_id hr
  have hc4 := stC_map hr
  have hcb := stC_board hr
  have hlt : g0 < w.heap.size := rowAt_lt (rowAt_of hr)
  clear hr
  obtain ⟨kl, hkl⟩ := keyP p p1 p2
  have HK := Lib.hid hkl
  clear hkl
  go_enter Try.func22, Try.ntmps22
  go_wp2_with (first | (with_reducible refine wpl rfl (Stp.box 3 rfl rfl rfl H ?_); clear H; intro g3 w1 H; simp only [pS]; simp only [pE, nC, pS] at H))
  refine rg_begin 7 rfl (S := fun W => St _ _ W [row 36 g3 #[.int .u16 (p.1 : Int), .int .u32 (p.2 : Int)]]) (by kernel_rfl) (H.drew.sub sU) ?_
  replace H := H.drew
  have HS := H
  refine rg_take (i := 0) rfl kR kR kR (Yld.move rfl rfl) HS ?_; simp only [pS, pE]
  refine rg_take (i := 1) rfl kR kR kR (Yld.o rfl) HS ?_; simp only [pS]
  refine rg_take (i := 2) rfl kR kR kR (Yld.o rfl) HS ?_; simp only [pS]
  first | (refine rg_take (i := 3) rfl kR kR kR (Yld.ldc rfl rfl agg114 rfl mR cE) HS ?_; simp only [pS]) | (refine rg_take (i := 3) rfl kR kR kR (Yld.ldo rfl rfl agg114 rfl (by assumption) (by assumption)) HS ?_; simp only [pS])
  first | (refine rg_take (i := 4) rfl kR kR kR (Yld.ldr rfl rfl agg36 size36 rfl mR sZ) HS ?_; simp only [pS]) | (refine rg_take (i := 4) rfl kR kR kR (Yld.ldl rfl rfl agg36 size36 rfl mR (by simp)) HS ?_; simp only [pS]; simp only [List.drop_succ_cons, List.drop_zero, List.take_succ_cons, List.take_zero]) | (refine rg_take (i := 4) rfl kR kR kR (Yld.ldor rfl rfl agg36 size36 rfl (by assumption) sZ (by assumption)) HS ?_; simp only [pS])
  refine rg_take (i := 5) rfl kR kR kR (Yld.lookL (q := p) rfl rfl rfl rfl HK.out hM) HS ?_; simp only [pS, pE]
  refine rg_take (i := 6) rfl kR kR kR (Yld.assign rfl rfl) HS ?_; simp only [pS, pE]
  refine rg_done (by kernel_rfl) ?_
  go_wp2_with (first | (with_reducible refine wpl rfl (Stp.box 3 rfl rfl rfl H ?_); clear H; intro g3 w1 H; simp only [pS]; simp only [pE, nC, pS] at H))
  go_ret
  exact ⟨_, rfl, rfl, H.below⟩
theorem sview_ok (g0 : Nat) (x : Vw) (M : List (Pr × Nat)) (b : Nat → ByteArray) (hb1 : x.mem.length ≤ 1000) (hb2 : x.lvs.length ≤ 1000) (hb3 : ∀ l ∈ x.lvs, l.length ≤ 1000) (hb4 : x.ldr.length ≤ 1000) (w : World) (hat : StAt w g0 x M b) :
    Calls Try.prog 21 #[.pointer (some ⟨g0, 0, none⟩)] w (Ret fun v w' => ∃ (G : Nat → Prop) (am al ad : Option Addr) (cm cl cd : Nat), v = .agg (vwC x am al ad cm cl cd) ∧ (∀ g, G g → w.heap.size ≤ g ∧ g < w'.heap.size) ∧ VwG G w' (.slice am x.mem.length cm) (.slice al x.lvs.length cl) (.slice ad x.ldr.length cd) x ∧ Below w.heap.size w w') := by
  have H := St.init w
  obtain ⟨ma, la, da, mc, lc, dc, gm, G, hr, hv, hM⟩ := hat
  have hcv := stC_view hr
  have hc0 := stC_id hr
  have hc4 := stC_map hr
  have hcb := stC_board hr
  have hlt : g0 < w.heap.size := rowAt_lt (rowAt_of hr)
  clear hr
  have HB3 := Lib.hid hb3
  clear hb3
  go_enter Try.func21, Try.ntmps21
  go_wp2_with (first | (go_at_call 59; (with_reducible refine (vcopy_ok x _ _ _ _ _ _ hb1 hb2 HB3.out hb4 _ (hv.grow H.below)).mono ?_); rintro e w1 ⟨v, rfl, hr⟩; obtain ⟨G2, am, al, ad, cm, cl, cd, rfl, hG, hv2, hbw⟩ := hr; replace H := H.new hbw (vwr_sound hG hv2) (fun g hg => (hG g hg).1); clear hbw hG hv2) | (with_reducible refine wpl rfl (Stp.alloc 2 rfl rfl zero26 H ?_); clear H; intro g2 w1 H; simp only [pS]; simp only [nC] at H) | (with_reducible refine wpl rfl (Stp.str rfl size26 rfl rfl (by first | rfl | (simp [Value.oneCell']; done) | assumption) H uP sZ sZ ?_); clear H; intro w1 H; simp only [pS]) | (with_reducible refine wpl rfl (Stp.stl rfl size26 rfl rfl rfl rfl H uP (by simp) ?_); clear H; intro w1 H; simp only [pS]; simp only [List.drop_succ_cons, List.drop_zero, List.take_succ_cons, List.take_zero, List.nil_append, List.cons_append, Nat.reduceAdd] at H) | (with_reducible refine wpl rfl (Stp.ldr rfl agg26 size26 rfl H mR sZ ?_); simp only [pS]) | (with_reducible refine wpl rfl (Stp.ldl rfl agg26 size26 rfl H mR (by simp) ?_); simp only [pS]; simp only [List.drop_succ_cons, List.drop_zero, List.take_succ_cons, List.take_zero]) | (with_reducible refine wpl rfl (Stp.ldor rfl agg26 size26 rfl H (by assumption) sZ (by assumption) ?_); simp only [pS]))
  refine post_row rfl agg26 size26 rfl H mE rfl rfl ⟨_, rfl, G2, am, al, ad, cm, cl, cd, rfl, fun g hg => ⟨H.base (vwr G2 _ _ _ x) mE g hg, (H.sound (vwr G2 _ _ _ x) mE).lt g hg⟩, H.get (r := vwr G2 _ _ _ x) mE, H.below⟩
theorem sboard_ok (g0 : Nat) (x : Vw) (M : List (Pr × Nat)) (b : Nat → ByteArray) (w : World) (hat : StAt w g0 x M b) :
    Calls Try.prog 24 #[.pointer (some ⟨g0, 0, none⟩)] w (Ret fun v w' => v = .agg #[.string (b 0), .string (b 1), .string (b 2), .string (b 3), .string (b 4), .string (b 5), .string (b 6), .string (b 7)] ∧ Below w.heap.size w w') := by
  have H := St.init w
  obtain ⟨ma, la, da, mc, lc, dc, gm, G, hr, hv, hM⟩ := hat
  have hcv := stC_view hr
  have hc0 := stC_id hr
  have hc4 := stC_map hr
  have hcb := stC_board hr
  have hlt : g0 < w.heap.size := rowAt_lt (rowAt_of hr)
  clear hr
  go_enter Try.func24, Try.ntmps24
  go_wp2_with (first | (with_reducible refine wpl rfl (Stp.alloc 2 rfl rfl zero46 H ?_); clear H; intro g2 w1 H; simp only [pS]; simp only [nC] at H) | (with_reducible refine wpl rfl (Stp.str rfl size46 rfl rfl (by first | rfl | (simp [Value.oneCell']; done) | assumption) H uP sZ sZ ?_); clear H; intro w1 H; simp only [pS]) | (with_reducible refine wpl rfl (Stp.stl rfl size46 rfl rfl rfl rfl H uP (by simp) ?_); clear H; intro w1 H; simp only [pS]; simp only [List.drop_succ_cons, List.drop_zero, List.take_succ_cons, List.take_zero, List.nil_append, List.cons_append, Nat.reduceAdd] at H) | (with_reducible refine wpl rfl (Stp.ldr rfl agg46 size46 rfl H mR sZ ?_); simp only [pS]) | (with_reducible refine wpl rfl (Stp.ldl rfl agg46 size46 rfl H mR (by simp) ?_); simp only [pS]; simp only [List.drop_succ_cons, List.drop_zero, List.take_succ_cons, List.take_zero]) | (with_reducible refine wpl rfl (Stp.ldor rfl agg46 size46 rfl H (by assumption) sZ (by assumption) ?_); simp only [pS]))
  exact post_row rfl agg46 size46 rfl H mE rfl rfl ⟨_, rfl, rfl, H.below⟩
end Go.Proofs.Ytjghcmejmdllbaa
