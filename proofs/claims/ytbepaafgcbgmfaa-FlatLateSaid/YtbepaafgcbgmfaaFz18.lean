/- Layer 29 (flat): the rule of views (views); no condition. -/
import Derived.Test.YtbepaafgcbgmfaaFz17
namespace Go.Proofs.Ytbepaafgcbgmfaa
open Go.ChangeShapes Go.WideShapes Go.ChangeAt Go.RowKit Go.Maps Go.Deep
set_option linter.unusedVariables false
set_option linter.unusedSimpArgs false
set_option linter.unusedSectionVars false
set_option maxRecDepth 100000
set_option maxHeartbeats 8000000
/-- May a stay's view be, is it a member, and does the view follow the one ahead? -/
def vwOk (ss : List Sy) (i : Nat) (y : Sy) : Bool := decide (vErr y.e.1.x = 0) && (decide (y.p ∈ y.e.1.x.mem) && (decide (i = 0) || decide (y.e.1.x.id = ((ss.getD (i - 1) sy0).e.1.x.id + 1) % 18446744073709551616)))
def viewsD (D : Ck) : Bool := D.bys.all fun b => allN (vwOk b.ss) 0 b.ss
attribute [local irreducible] vErr
theorem views_ok (gc : Nat) (D : Ck) (r : Bool) (hr : viewsD D = r) (w : World) (hD : CkW w gc D) :
    Calls Try.prog 37 #[.pointer (some ⟨gc, 0, none⟩)] w (Ret fun v w' => v = .bool r ∧ Below w.heap.size w w') := by
  have H := St.init w
  have hc1 : w.cell? ⟨gc, 1, none⟩ = some (.slice D.ba D.bys.length D.bc) := hD.c 1 (by omega)
  have hlt := hD.lt
  have hb := hD.b
  have HBY := Lib.hid hD.by_
  obtain ⟨n, hn⟩ : ∃ n, D.bys.length = n := ⟨_, rfl⟩
  obtain ⟨ba, hba⟩ : ∃ a, D.ba = a := ⟨_, rfl⟩
  have HN := Lib.hid hn
  have HR := Lib.hid hr
  have hmx : n ≤ 9223372036854775807 := by obtain ⟨_, _, _, h, _⟩ := hb; rw [hn] at h; exact h
  rw [hn, hba] at hb hc1
  clear hn hba hr hD
  go_enter Try.func37, Try.ntmps37
  go_wp2_with (first | (with_reducible refine wpl rfl (ldQ (ty := 69) rfl ?_); first | (with_reducible refine (Stp.ldo rfl agg69 rfl H (by assumption) (by assumption) ?_); simp only [pS]) | (with_reducible refine (Stp.ldc rfl agg69 rfl H mR cE ?_); simp only [pS])) | (with_reducible refine wpl rfl (ldQ (ty := 70) rfl ?_); first | (with_reducible refine (Stp.ldo rfl agg70 rfl H (by assumption) (by assumption) ?_); simp only [pS]) | (with_reducible refine (Stp.ldc rfl agg70 rfl H mR cE ?_); simp only [pS])) | (with_reducible refine wpl rfl (ldQ (ty := 78) rfl ?_); first | (with_reducible refine (Stp.ldor rfl agg78 size78 rfl H (by assumption) sZ (by assumption) ?_); simp only [pS]) | (with_reducible refine (Stp.ldr rfl agg78 size78 rfl H mR sZ ?_); simp only [pS]) | (with_reducible refine (Stp.ldl rfl agg78 size78 rfl H mR (by simp) ?_); simp only [pS]; simp only [List.drop_succ_cons, List.drop_zero, List.take_succ_cons, List.take_zero])) | (with_reducible refine wpl rfl (dQ 6 rfl ?_); with_reducible refine (Stp.alloc 6 rfl rfl zero78 H ?_); clear H; intro g6 w1 H; simp only [pS]; simp only [nC] at H) | (with_reducible refine wpl rfl (stQ (ty := 78) rfl ?_); first | (with_reducible refine (Stp.str rfl size78 rfl rfl (by first | rfl | (simp [Value.oneCell']; done) | assumption) H uP sZ sZ ?_); clear H; intro w1 H; simp only [pS]) | (with_reducible refine (Stp.stl rfl size78 rfl rfl rfl rfl H uP (by simp) ?_); clear H; intro w1 H; simp only [pS]; simp only [List.drop_succ_cons, List.drop_zero, List.take_succ_cons, List.take_zero, List.nil_append, List.cons_append, Nat.reduceAdd] at H)))
  go_loopw [12] (fun i wr => ∃ q : Nat, q ≤ n ∧ i = .int .i64 q ∧ Hid ((D.bys.take q).all (fun b => allN (vwOk b.ss) 0 b.ss) = true) ∧ St w.heap.size w wr []) (fun i _ => n - (intOf i).toNat)
  case atStart => exact ⟨0, Nat.zero_le _, rfl, Lib.hid (by simp), H⟩
  case round =>
    clear H
    obtain ⟨q, hq, rfl, HT, H⟩ := hrel
    by_cases hlt2 : q < n
    · have hl1 : q < D.bys.length := by rw [HN.out]; exact hlt2
      obtain ⟨bB, oB, rfl, hbB⟩ := hb.addr (by omega)
      have hcb := hb.cell hlt2 0 (by omega)
      rw [getD_at hl1, Nat.mul_one, Nat.add_zero] at hcb
      have hme := List.getElem_mem hl1
      have HTk := Lib.hid (List.take_succ_eq_append_getElem hl1)
      obtain ⟨⟨ss, sa, sc⟩, hx⟩ : ∃ x, D.bys[q] = x := ⟨_, rfl⟩
      rw [hx] at hcb hme HTk
      obtain ⟨hss, hsy⟩ := HBY.out _ hme
      simp only [hvB] at hcb hss hsy
      obtain ⟨m, hm⟩ : ∃ m, ss.length = m := ⟨_, rfl⟩
      have HM := Lib.hid hm
      have HSY := Lib.hid hsy
      rw [hm] at hcb hss
      have hmm : m ≤ 9223372036854775807 := by obtain ⟨_, _, _, h, _⟩ := hss; exact h
      have hcb2 : w.cell? ⟨bB, oB + q, none⟩ = some (.slice sa m sc) := by rw [hcb]; rfl
      have qli : (q : Int) < (n : Int) := by omega
      have HBAD0 : Hid (allN (vwOk ss) 0 ss = false → r = false) := Lib.hid (fun h => by
        rw [← HR.out]; unfold viewsD
        rw [List.all_eq_false]
        exact ⟨⟨ss, sa, sc⟩, hme, by simp only; rw [h]; decide⟩)
      clear hx hme hcb hm hsy hl1
      go_wp2_with (first | (with_reducible refine wpl rfl (ldQ (ty := 69) rfl ?_); first | (with_reducible refine (Stp.ldo rfl agg69 rfl H (by assumption) (by assumption) ?_); simp only [pS]) | (with_reducible refine (Stp.ldc rfl agg69 rfl H mR cE ?_); simp only [pS])) | (with_reducible refine wpl rfl (ldQ (ty := 70) rfl ?_); first | (with_reducible refine (Stp.ldo rfl agg70 rfl H (by assumption) (by assumption) ?_); simp only [pS]) | (with_reducible refine (Stp.ldc rfl agg70 rfl H mR cE ?_); simp only [pS])) | (with_reducible refine wpl rfl (ldQ (ty := 78) rfl ?_); first | (with_reducible refine (Stp.ldor rfl agg78 size78 rfl H (by assumption) sZ (by assumption) ?_); simp only [pS]) | (with_reducible refine (Stp.ldr rfl agg78 size78 rfl H mR sZ ?_); simp only [pS]) | (with_reducible refine (Stp.ldl rfl agg78 size78 rfl H mR (by simp) ?_); simp only [pS]; simp only [List.drop_succ_cons, List.drop_zero, List.take_succ_cons, List.take_zero])) | (with_reducible refine wpl rfl (dQ 6 rfl ?_); with_reducible refine (Stp.alloc 6 rfl rfl zero78 H ?_); clear H; intro g6 w1 H; simp only [pS]; simp only [nC] at H) | (with_reducible refine wpl rfl (stQ (ty := 78) rfl ?_); first | (with_reducible refine (Stp.str rfl size78 rfl rfl (by first | rfl | (simp [Value.oneCell']; done) | assumption) H uP sZ sZ ?_); clear H; intro w1 H; simp only [pS]) | (with_reducible refine (Stp.stl rfl size78 rfl rfl rfl rfl H uP (by simp) ?_); clear H; intro w1 H; simp only [pS]; simp only [List.drop_succ_cons, List.drop_zero, List.take_succ_cons, List.take_zero, List.nil_append, List.cons_append, Nat.reduceAdd] at H)))
      go_loopw [18] (fun i wr => ∃ k : Nat, k ≤ m ∧ i = .int .i64 k ∧ Hid (allN (vwOk ss) 0 (ss.take k) = true) ∧ St w.heap.size w wr []) (fun i _ => m - (intOf i).toNat)
      case atStart => exact ⟨0, Nat.zero_le _, rfl, Lib.hid (by rw [List.take_zero]; rfl), H⟩
      case round =>
        clear H
        obtain ⟨i, hi, rfl, HT1, H⟩ := hrel
        by_cases hil : i < m
        · have hl1 : i < ss.length := by rw [HM.out]; exact hil
          obtain ⟨bs, os, rfl, hbs⟩ := hss.addr (by omega)
          have hcs := hss.cell hil
          rw [elS_at hl1] at hcs
          unfold syc at hcs
          have hme := List.getElem_mem hl1
          have HTi := Lib.hid (List.take_succ_eq_append_getElem hl1)
          have hprev : ∀ j, i = j + 1 → w.cell? ⟨bs, os + j * 9 + 2, none⟩ = some (.int .u64 ((ss.getD j sy0).e.1.x.id : Int)) := fun j hj => by
            have := hss.cell (i := j) (by omega) 2 (by omega)
            rw [this]; rfl
          obtain ⟨y, hx⟩ : ∃ x, ss[i] = x := ⟨_, rfl⟩
          rw [hx] at hcs hme HTi
          have HYW : Hid (SyW w y) := Lib.hid (HSY.out y hme)
          have ili : (i : Int) < (m : Int) := by omega
          have HBAD : Hid (vwOk ss i y = false → r = false) := Lib.hid (fun h => HBAD0.out (allN_take _ _ _ (i + 1) (by
            rw [HTi.out, allN_snoc, HT1.out, List.length_take, HM.out, Nat.min_eq_left (by omega), Nat.zero_add, Bool.true_and]; exact h)))
          have HGOOD : Hid (vwOk ss i y = true → allN (vwOk ss) 0 (ss.take (i + 1)) = true) := Lib.hid (fun h => by
            rw [HTi.out, allN_snoc, HT1.out, List.length_take, HM.out, Nat.min_eq_left (by omega), Nat.zero_add, Bool.true_and]; exact h)
          obtain ⟨e2, he2⟩ : ∃ e, decide (y.p ∈ y.e.1.x.mem) = e := ⟨_, rfl⟩
          have HHS := Lib.hid he2
          clear hx hme hl1 he2
          by_cases he0 : vErr y.e.1.x = 0
          · have HV0 : Hid ((vErr y.e.1.x != 0) = false) := Lib.hid (by simp [he0])
            have HE0 := Lib.hid (decide_eq_true he0)
            clear he0
            cases e2
            · have HV : Hid (r = false) := Lib.hid (HBAD.out (by unfold vwOk; rw [HE0.out, HHS.out]; rfl))
              go_wp2_with (first | (with_reducible refine wpl rfl (ldQ (ty := 69) rfl ?_); first | (with_reducible refine (Stp.ldo rfl agg69 rfl H (by assumption) (by assumption) ?_); simp only [pS]) | (with_reducible refine (Stp.ldc rfl agg69 rfl H mR cE ?_); simp only [pS])) | (with_reducible refine wpl rfl (ldQ (ty := 70) rfl ?_); first | (with_reducible refine (Stp.ldo rfl agg70 rfl H (by assumption) (by assumption) ?_); simp only [pS]) | (with_reducible refine (Stp.ldc rfl agg70 rfl H mR cE ?_); simp only [pS])) | (with_reducible refine wpl rfl (ldQ (ty := 78) rfl ?_); first | (with_reducible refine (Stp.ldor rfl agg78 size78 rfl H (by assumption) sZ (by assumption) ?_); simp only [pS]) | (with_reducible refine (Stp.ldr rfl agg78 size78 rfl H mR sZ ?_); simp only [pS]) | (with_reducible refine (Stp.ldl rfl agg78 size78 rfl H mR (by simp) ?_); simp only [pS]; simp only [List.drop_succ_cons, List.drop_zero, List.take_succ_cons, List.take_zero])) | (with_reducible refine wpl rfl (dQ 6 rfl ?_); with_reducible refine (Stp.alloc 6 rfl rfl zero78 H ?_); clear H; intro g6 w1 H; simp only [pS]; simp only [nC] at H) | (with_reducible refine wpl rfl (stQ (ty := 78) rfl ?_); first | (with_reducible refine (Stp.str rfl size78 rfl rfl (by first | rfl | (simp [Value.oneCell']; done) | assumption) H uP sZ sZ ?_); clear H; intro w1 H; simp only [pS]) | (with_reducible refine (Stp.stl rfl size78 rfl rfl rfl rfl H uP (by simp) ?_); clear H; intro w1 H; simp only [pS]; simp only [List.drop_succ_cons, List.drop_zero, List.take_succ_cons, List.take_zero, List.nil_append, List.cons_append, Nat.reduceAdd] at H)))
              refine rg_begin 30 rfl (S := fun W => St _ _ W (row 78 g6 #[.int .u16 (y.p.1 : Int), .int .u32 (y.p.2 : Int), .int .u64 (y.e.1.x.id : Int), .slice y.e.2.ma y.e.1.x.mem.length y.e.2.mc, .slice y.e.2.la y.e.1.x.lvs.length y.e.2.lc, .slice y.e.2.da y.e.1.x.ldr.length y.e.2.dc, .slice y.aa y.all.length y.ac, .slice y.ta y.told.length y.tc, .bool y.fol] :: [])) (by kernel_rfl) (H.drew.sub sU) ?_
              replace H := H.drew
              have HS := H
              refine rg_take (i := 0) rfl kR kR kR (Yld.o rfl) (H.sub sU) ?_; simp only [pS]
              first | (refine rg_take (i := 1) rfl kR kR kR (Yld.ldor rfl rfl agg41 size41 rfl (by assumption) sZ (by assumption)) (H.sub sU) ?_; simp only [pS]) | (refine rg_take (i := 1) rfl kR kR kR (Yld.ldr rfl rfl agg41 size41 rfl mR sZ) (H.sub sU) ?_; simp only [pS]) | (refine rg_take (i := 1) rfl kR kR kR (Yld.ldl rfl rfl agg41 size41 rfl mR (by simp)) (H.sub sU) ?_; simp only [pS]; simp only [List.drop_succ_cons, List.drop_zero, List.take_succ_cons, List.take_zero])
              refine rg_one (i := 2) (by kernel_rfl) rfl rfl (fun K hK => ?_)
              refine wp_callf rfl ent53 (vcheck_ok y.e.1.x _ _ _ _ _ _ HYW.out.sm HYW.out.wv.x _ (HYW.out.v.vw.grow H.below)) rfl (fun v w1 hr => ?_)
              obtain ⟨rfl, hb1⟩ := hr
              replace H := H.grow hb1
              clear hb1
              clear HS
              have HS := H
              refine hK.out _ _ (H.sub sU) ?_
              clear hK K
              simp only [pS]
              refine rg_take (i := 3) rfl kR kR kR (Yld.of (v := .bool false) rfl (fun W _ => by go_simp; first | done | exact HV0.out | (rw [HV0.out]) | (simpa using HV0.out) | (have hq := HV0.out; omega) | (have hq := HV0.out; simp at hq ⊢; omega))) (H.sub sU) ?_; simp only [pS, pE]
              refine rg_take (i := 4) rfl kR kR kR (Yld.move rfl rfl) (H.sub sU) ?_; simp only [pS, pE]
              refine rg_take (i := 5) rfl kR kR kR (Yld.o rfl) (H.sub sU) ?_; simp only [pS]
              first | (refine rg_take (i := 6) rfl kR kR kR (Yld.ldor rfl rfl agg41 size41 rfl (by assumption) sZ (by assumption)) (H.sub sU) ?_; simp only [pS]) | (refine rg_take (i := 6) rfl kR kR kR (Yld.ldr rfl rfl agg41 size41 rfl mR sZ) (H.sub sU) ?_; simp only [pS]) | (refine rg_take (i := 6) rfl kR kR kR (Yld.ldl rfl rfl agg41 size41 rfl mR (by simp)) (H.sub sU) ?_; simp only [pS]; simp only [List.drop_succ_cons, List.drop_zero, List.take_succ_cons, List.take_zero])
              refine rg_take (i := 7) rfl kR kR kR (Yld.o rfl) (H.sub sU) ?_; simp only [pS]
              first | (refine rg_take (i := 8) rfl kR kR kR (Yld.ldor rfl rfl agg27 size27 rfl (by assumption) sZ (by assumption)) (H.sub sU) ?_; simp only [pS]) | (refine rg_take (i := 8) rfl kR kR kR (Yld.ldr rfl rfl agg27 size27 rfl mR sZ) (H.sub sU) ?_; simp only [pS]) | (refine rg_take (i := 8) rfl kR kR kR (Yld.ldl rfl rfl agg27 size27 rfl mR (by simp)) (H.sub sU) ?_; simp only [pS]; simp only [List.drop_succ_cons, List.drop_zero, List.take_succ_cons, List.take_zero])
              refine rg_one (i := 9) (by kernel_rfl) rfl rfl (fun K hK => ?_)
              refine wp_callf rfl ent54 (vhas_is y.e.1.x _ _ _ _ _ _ y.p _ HHS.out _ (HYW.out.v.memS.grow H.below)) rfl (fun v w1 hr => ?_)
              obtain ⟨rfl, hb1⟩ := hr
              replace H := H.grow hb1
              clear hb1
              clear HS
              have HS := H
              refine hK.out _ _ (H.sub sU) ?_
              clear hK K
              simp only [pS]
              refine rg_take (i := 10) rfl kR kR kR (Yld.o rfl) (H.sub sU) ?_; simp only [pS]
              refine rg_take (i := 11) rfl kR kR kR (Yld.pick rfl rfl rfl) (H.sub sU) ?_; simp only [pS, pE]
              refine rg_take (i := 12) rfl kR kR kR (Yld.move rfl rfl) (H.sub sU) ?_; simp only [pS, pE]
              refine rg_take (i := 13) rfl kR kR kR (Yld.skip rfl) (H.sub sU) ?_; simp only [pS]
              refine rg_take (i := 14) rfl kR kR kR (Yld.skip rfl) (H.sub sU) ?_; simp only [pS]
              refine rg_take (i := 15) rfl kR kR kR (Yld.skip rfl) (H.sub sU) ?_; simp only [pS]
              refine rg_take (i := 16) rfl kR kR kR (Yld.skip rfl) (H.sub sU) ?_; simp only [pS]
              refine rg_take (i := 17) rfl kR kR kR (Yld.skip rfl) (H.sub sU) ?_; simp only [pS]
              refine rg_take (i := 18) rfl kR kR kR (Yld.skip rfl) (H.sub sU) ?_; simp only [pS]
              refine rg_take (i := 19) rfl kR kR kR (Yld.skip rfl) (H.sub sU) ?_; simp only [pS]
              refine rg_take (i := 20) rfl kR kR kR (Yld.skip rfl) (H.sub sU) ?_; simp only [pS]
              refine rg_take (i := 21) rfl kR kR kR (Yld.skip rfl) (H.sub sU) ?_; simp only [pS]
              refine rg_take (i := 22) rfl kR kR kR (Yld.skip rfl) (H.sub sU) ?_; simp only [pS]
              refine rg_take (i := 23) rfl kR kR kR (Yld.skip rfl) (H.sub sU) ?_; simp only [pS]
              refine rg_take (i := 24) rfl kR kR kR (Yld.skip rfl) (H.sub sU) ?_; simp only [pS]
              refine rg_take (i := 25) rfl kR kR kR (Yld.skip rfl) (H.sub sU) ?_; simp only [pS]
              refine rg_take (i := 26) rfl kR kR kR (Yld.skip rfl) (H.sub sU) ?_; simp only [pS]
              refine rg_take (i := 27) rfl kR kR kR (Yld.skip rfl) (H.sub sU) ?_; simp only [pS]
              refine rg_take (i := 28) rfl kR kR kR (Yld.skip rfl) (H.sub sU) ?_; simp only [pS]
              refine rg_take (i := 29) rfl kR kR kR (Yld.pick rfl rfl rfl) (H.sub sU) ?_; simp only [pS, pE]
              refine rg_done (by kernel_rfl) ?_
              go_wp2_with (first | (with_reducible refine wpl rfl (ldQ (ty := 69) rfl ?_); first | (with_reducible refine (Stp.ldo rfl agg69 rfl H (by assumption) (by assumption) ?_); simp only [pS]) | (with_reducible refine (Stp.ldc rfl agg69 rfl H mR cE ?_); simp only [pS])) | (with_reducible refine wpl rfl (ldQ (ty := 70) rfl ?_); first | (with_reducible refine (Stp.ldo rfl agg70 rfl H (by assumption) (by assumption) ?_); simp only [pS]) | (with_reducible refine (Stp.ldc rfl agg70 rfl H mR cE ?_); simp only [pS])) | (with_reducible refine wpl rfl (ldQ (ty := 78) rfl ?_); first | (with_reducible refine (Stp.ldor rfl agg78 size78 rfl H (by assumption) sZ (by assumption) ?_); simp only [pS]) | (with_reducible refine (Stp.ldr rfl agg78 size78 rfl H mR sZ ?_); simp only [pS]) | (with_reducible refine (Stp.ldl rfl agg78 size78 rfl H mR (by simp) ?_); simp only [pS]; simp only [List.drop_succ_cons, List.drop_zero, List.take_succ_cons, List.take_zero])) | (with_reducible refine wpl rfl (dQ 6 rfl ?_); with_reducible refine (Stp.alloc 6 rfl rfl zero78 H ?_); clear H; intro g6 w1 H; simp only [pS]; simp only [nC] at H) | (with_reducible refine wpl rfl (stQ (ty := 78) rfl ?_); first | (with_reducible refine (Stp.str rfl size78 rfl rfl (by first | rfl | (simp [Value.oneCell']; done) | assumption) H uP sZ sZ ?_); clear H; intro w1 H; simp only [pS]) | (with_reducible refine (Stp.stl rfl size78 rfl rfl rfl rfl H uP (by simp) ?_); clear H; intro w1 H; simp only [pS]; simp only [List.drop_succ_cons, List.drop_zero, List.take_succ_cons, List.take_zero, List.nil_append, List.cons_append, Nat.reduceAdd] at H)))
              go_ret
              exact ⟨_, rfl, by rw [HV.out]; rfl, H.below⟩
            · by_cases hi0 : i = 0
              · have HZ : Hid (decide ((0 : Int) < (i : Int)) = false) := Lib.hid (decide_eq_false (by omega))
                have HT2 : Hid (allN (vwOk ss) 0 (ss.take (i + 1)) = true) := Lib.hid (HGOOD.out (by unfold vwOk; rw [HE0.out, HHS.out, decide_eq_true hi0]; rfl))
                clear hi0 hprev
                go_wp2_with (first | (with_reducible refine wpl rfl (ldQ (ty := 69) rfl ?_); first | (with_reducible refine (Stp.ldo rfl agg69 rfl H (by assumption) (by assumption) ?_); simp only [pS]) | (with_reducible refine (Stp.ldc rfl agg69 rfl H mR cE ?_); simp only [pS])) | (with_reducible refine wpl rfl (ldQ (ty := 70) rfl ?_); first | (with_reducible refine (Stp.ldo rfl agg70 rfl H (by assumption) (by assumption) ?_); simp only [pS]) | (with_reducible refine (Stp.ldc rfl agg70 rfl H mR cE ?_); simp only [pS])) | (with_reducible refine wpl rfl (ldQ (ty := 78) rfl ?_); first | (with_reducible refine (Stp.ldor rfl agg78 size78 rfl H (by assumption) sZ (by assumption) ?_); simp only [pS]) | (with_reducible refine (Stp.ldr rfl agg78 size78 rfl H mR sZ ?_); simp only [pS]) | (with_reducible refine (Stp.ldl rfl agg78 size78 rfl H mR (by simp) ?_); simp only [pS]; simp only [List.drop_succ_cons, List.drop_zero, List.take_succ_cons, List.take_zero])) | (with_reducible refine wpl rfl (dQ 6 rfl ?_); with_reducible refine (Stp.alloc 6 rfl rfl zero78 H ?_); clear H; intro g6 w1 H; simp only [pS]; simp only [nC] at H) | (with_reducible refine wpl rfl (stQ (ty := 78) rfl ?_); first | (with_reducible refine (Stp.str rfl size78 rfl rfl (by first | rfl | (simp [Value.oneCell']; done) | assumption) H uP sZ sZ ?_); clear H; intro w1 H; simp only [pS]) | (with_reducible refine (Stp.stl rfl size78 rfl rfl rfl rfl H uP (by simp) ?_); clear H; intro w1 H; simp only [pS]; simp only [List.drop_succ_cons, List.drop_zero, List.take_succ_cons, List.take_zero, List.nil_append, List.cons_append, Nat.reduceAdd] at H)))
                refine rg_begin 30 rfl (S := fun W => St _ _ W (row 78 g6 #[.int .u16 (y.p.1 : Int), .int .u32 (y.p.2 : Int), .int .u64 (y.e.1.x.id : Int), .slice y.e.2.ma y.e.1.x.mem.length y.e.2.mc, .slice y.e.2.la y.e.1.x.lvs.length y.e.2.lc, .slice y.e.2.da y.e.1.x.ldr.length y.e.2.dc, .slice y.aa y.all.length y.ac, .slice y.ta y.told.length y.tc, .bool y.fol] :: [])) (by kernel_rfl) (H.drew.sub sU) ?_
                replace H := H.drew
                have HS := H
                refine rg_take (i := 0) rfl kR kR kR (Yld.o rfl) (H.sub sU) ?_; simp only [pS]
                first | (refine rg_take (i := 1) rfl kR kR kR (Yld.ldor rfl rfl agg41 size41 rfl (by assumption) sZ (by assumption)) (H.sub sU) ?_; simp only [pS]) | (refine rg_take (i := 1) rfl kR kR kR (Yld.ldr rfl rfl agg41 size41 rfl mR sZ) (H.sub sU) ?_; simp only [pS]) | (refine rg_take (i := 1) rfl kR kR kR (Yld.ldl rfl rfl agg41 size41 rfl mR (by simp)) (H.sub sU) ?_; simp only [pS]; simp only [List.drop_succ_cons, List.drop_zero, List.take_succ_cons, List.take_zero])
                refine rg_one (i := 2) (by kernel_rfl) rfl rfl (fun K hK => ?_)
                refine wp_callf rfl ent53 (vcheck_ok y.e.1.x _ _ _ _ _ _ HYW.out.sm HYW.out.wv.x _ (HYW.out.v.vw.grow H.below)) rfl (fun v w1 hr => ?_)
                obtain ⟨rfl, hb1⟩ := hr
                replace H := H.grow hb1
                clear hb1
                clear HS
                have HS := H
                refine hK.out _ _ (H.sub sU) ?_
                clear hK K
                simp only [pS]
                refine rg_take (i := 3) rfl kR kR kR (Yld.of (v := .bool false) rfl (fun W _ => by go_simp; first | done | exact HV0.out | (rw [HV0.out]) | (simpa using HV0.out) | (have hq := HV0.out; omega) | (have hq := HV0.out; simp at hq ⊢; omega))) (H.sub sU) ?_; simp only [pS, pE]
                refine rg_take (i := 4) rfl kR kR kR (Yld.move rfl rfl) (H.sub sU) ?_; simp only [pS, pE]
                refine rg_take (i := 5) rfl kR kR kR (Yld.o rfl) (H.sub sU) ?_; simp only [pS]
                first | (refine rg_take (i := 6) rfl kR kR kR (Yld.ldor rfl rfl agg41 size41 rfl (by assumption) sZ (by assumption)) (H.sub sU) ?_; simp only [pS]) | (refine rg_take (i := 6) rfl kR kR kR (Yld.ldr rfl rfl agg41 size41 rfl mR sZ) (H.sub sU) ?_; simp only [pS]) | (refine rg_take (i := 6) rfl kR kR kR (Yld.ldl rfl rfl agg41 size41 rfl mR (by simp)) (H.sub sU) ?_; simp only [pS]; simp only [List.drop_succ_cons, List.drop_zero, List.take_succ_cons, List.take_zero])
                refine rg_take (i := 7) rfl kR kR kR (Yld.o rfl) (H.sub sU) ?_; simp only [pS]
                first | (refine rg_take (i := 8) rfl kR kR kR (Yld.ldor rfl rfl agg27 size27 rfl (by assumption) sZ (by assumption)) (H.sub sU) ?_; simp only [pS]) | (refine rg_take (i := 8) rfl kR kR kR (Yld.ldr rfl rfl agg27 size27 rfl mR sZ) (H.sub sU) ?_; simp only [pS]) | (refine rg_take (i := 8) rfl kR kR kR (Yld.ldl rfl rfl agg27 size27 rfl mR (by simp)) (H.sub sU) ?_; simp only [pS]; simp only [List.drop_succ_cons, List.drop_zero, List.take_succ_cons, List.take_zero])
                refine rg_one (i := 9) (by kernel_rfl) rfl rfl (fun K hK => ?_)
                refine wp_callf rfl ent54 (vhas_is y.e.1.x _ _ _ _ _ _ y.p _ HHS.out _ (HYW.out.v.memS.grow H.below)) rfl (fun v w1 hr => ?_)
                obtain ⟨rfl, hb1⟩ := hr
                replace H := H.grow hb1
                clear hb1
                clear HS
                have HS := H
                refine hK.out _ _ (H.sub sU) ?_
                clear hK K
                simp only [pS]
                refine rg_take (i := 10) rfl kR kR kR (Yld.o rfl) (H.sub sU) ?_; simp only [pS]
                refine rg_take (i := 11) rfl kR kR kR (Yld.pick rfl rfl rfl) (H.sub sU) ?_; simp only [pS, pE]
                refine rg_take (i := 12) rfl kR kR kR (Yld.move rfl rfl) (H.sub sU) ?_; simp only [pS, pE]
                refine rg_take (i := 13) rfl kR kR kR (Yld.move rfl rfl) (H.sub sU) ?_; simp only [pS, pE]
                refine rg_take (i := 14) rfl kR kR kR (Yld.of (v := .bool false) rfl (fun W _ => by go_simp; first | done | exact HZ.out | (rw [HZ.out]) | (simpa using HZ.out) | (have hq := HZ.out; omega) | (have hq := HZ.out; simp at hq ⊢; omega))) (H.sub sU) ?_; simp only [pS, pE]
                refine rg_take (i := 15) rfl kR kR kR (Yld.move rfl rfl) (H.sub sU) ?_; simp only [pS, pE]
                refine rg_take (i := 16) rfl kR kR kR (Yld.skip rfl) (H.sub sU) ?_; simp only [pS]
                refine rg_take (i := 17) rfl kR kR kR (Yld.skip rfl) (H.sub sU) ?_; simp only [pS]
                refine rg_take (i := 18) rfl kR kR kR (Yld.skip rfl) (H.sub sU) ?_; simp only [pS]
                refine rg_take (i := 19) rfl kR kR kR (Yld.skip rfl) (H.sub sU) ?_; simp only [pS]
                refine rg_take (i := 20) rfl kR kR kR (Yld.skip rfl) (H.sub sU) ?_; simp only [pS]
                refine rg_take (i := 21) rfl kR kR kR (Yld.skip rfl) (H.sub sU) ?_; simp only [pS]
                refine rg_take (i := 22) rfl kR kR kR (Yld.skip rfl) (H.sub sU) ?_; simp only [pS]
                refine rg_take (i := 23) rfl kR kR kR (Yld.skip rfl) (H.sub sU) ?_; simp only [pS]
                refine rg_take (i := 24) rfl kR kR kR (Yld.skip rfl) (H.sub sU) ?_; simp only [pS]
                refine rg_take (i := 25) rfl kR kR kR (Yld.skip rfl) (H.sub sU) ?_; simp only [pS]
                refine rg_take (i := 26) rfl kR kR kR (Yld.skip rfl) (H.sub sU) ?_; simp only [pS]
                refine rg_take (i := 27) rfl kR kR kR (Yld.skip rfl) (H.sub sU) ?_; simp only [pS]
                refine rg_take (i := 28) rfl kR kR kR (Yld.pick rfl rfl rfl) (H.sub sU) ?_; simp only [pS, pE]
                refine rg_take (i := 29) rfl kR kR kR (Yld.pick rfl rfl rfl) (H.sub sU) ?_; simp only [pS, pE]
                refine rg_done (by kernel_rfl) ?_
                go_wp2_with (first | (with_reducible refine wpl rfl (ldQ (ty := 69) rfl ?_); first | (with_reducible refine (Stp.ldo rfl agg69 rfl H (by assumption) (by assumption) ?_); simp only [pS]) | (with_reducible refine (Stp.ldc rfl agg69 rfl H mR cE ?_); simp only [pS])) | (with_reducible refine wpl rfl (ldQ (ty := 70) rfl ?_); first | (with_reducible refine (Stp.ldo rfl agg70 rfl H (by assumption) (by assumption) ?_); simp only [pS]) | (with_reducible refine (Stp.ldc rfl agg70 rfl H mR cE ?_); simp only [pS])) | (with_reducible refine wpl rfl (ldQ (ty := 78) rfl ?_); first | (with_reducible refine (Stp.ldor rfl agg78 size78 rfl H (by assumption) sZ (by assumption) ?_); simp only [pS]) | (with_reducible refine (Stp.ldr rfl agg78 size78 rfl H mR sZ ?_); simp only [pS]) | (with_reducible refine (Stp.ldl rfl agg78 size78 rfl H mR (by simp) ?_); simp only [pS]; simp only [List.drop_succ_cons, List.drop_zero, List.take_succ_cons, List.take_zero])) | (with_reducible refine wpl rfl (dQ 6 rfl ?_); with_reducible refine (Stp.alloc 6 rfl rfl zero78 H ?_); clear H; intro g6 w1 H; simp only [pS]; simp only [nC] at H) | (with_reducible refine wpl rfl (stQ (ty := 78) rfl ?_); first | (with_reducible refine (Stp.str rfl size78 rfl rfl (by first | rfl | (simp [Value.oneCell']; done) | assumption) H uP sZ sZ ?_); clear H; intro w1 H; simp only [pS]) | (with_reducible refine (Stp.stl rfl size78 rfl rfl rfl rfl H uP (by simp) ?_); clear H; intro w1 H; simp only [pS]; simp only [List.drop_succ_cons, List.drop_zero, List.take_succ_cons, List.take_zero, List.nil_append, List.cons_append, Nat.reduceAdd] at H)))
                go_roundw
                case rel => exact ⟨i + 1, by omega, by go_num, HT2, H.sub sU⟩
                case measure => simp [intOf]; omega
              · obtain ⟨j, hj⟩ : ∃ j, i = j + 1 := ⟨i - 1, by omega⟩
                have HZ : Hid (decide ((0 : Int) < (i : Int)) = true) := Lib.hid (decide_eq_true (by omega))
                have HW : Hid (IntKind.i64.wrap ((i : Int) - 1) = (j : Int)) := Lib.hid (by rw [IntKind.wrap_i64]; omega)
                have hjm : (j : Int) < (m : Int) := by omega
                have hp := hprev j hj
                obtain ⟨pid, hpid⟩ : ∃ p, (ss.getD j sy0).e.1.x.id = p := ⟨_, rfl⟩
                have HPID := Lib.hid hpid
                rw [hpid] at hp
                obtain ⟨nx, hnx⟩ : ∃ x, (pid + 1) % 18446744073709551616 = x := ⟨_, rfl⟩
                have HW2 : Hid (IntKind.u64.wrap ((pid : Int) + 1) = (nx : Int)) := Lib.hid (by rw [IntKind.wrap_u64]; omega)
                have HVW : Hid (vwOk ss i y = decide (y.e.1.x.id = nx)) := Lib.hid (by
                  unfold vwOk
                  rw [HE0.out, HHS.out, decide_eq_false hi0, show i - 1 = j by omega, HPID.out, hnx]; rfl)
                clear hprev hpid hnx hi0 hj
                by_cases hid1 : y.e.1.x.id = nx
                · have HNE : Hid (((y.e.1.x.id : Int) != (nx : Int)) = false) := Lib.hid (by simp [hid1])
                  have HT2 : Hid (allN (vwOk ss) 0 (ss.take (i + 1)) = true) := Lib.hid (HGOOD.out (by rw [HVW.out]; exact decide_eq_true hid1))
                  clear hid1
                  go_wp2_with (first | (with_reducible refine wpl rfl (ldQ (ty := 69) rfl ?_); first | (with_reducible refine (Stp.ldo rfl agg69 rfl H (by assumption) (by assumption) ?_); simp only [pS]) | (with_reducible refine (Stp.ldc rfl agg69 rfl H mR cE ?_); simp only [pS])) | (with_reducible refine wpl rfl (ldQ (ty := 70) rfl ?_); first | (with_reducible refine (Stp.ldo rfl agg70 rfl H (by assumption) (by assumption) ?_); simp only [pS]) | (with_reducible refine (Stp.ldc rfl agg70 rfl H mR cE ?_); simp only [pS])) | (with_reducible refine wpl rfl (ldQ (ty := 78) rfl ?_); first | (with_reducible refine (Stp.ldor rfl agg78 size78 rfl H (by assumption) sZ (by assumption) ?_); simp only [pS]) | (with_reducible refine (Stp.ldr rfl agg78 size78 rfl H mR sZ ?_); simp only [pS]) | (with_reducible refine (Stp.ldl rfl agg78 size78 rfl H mR (by simp) ?_); simp only [pS]; simp only [List.drop_succ_cons, List.drop_zero, List.take_succ_cons, List.take_zero])) | (with_reducible refine wpl rfl (dQ 6 rfl ?_); with_reducible refine (Stp.alloc 6 rfl rfl zero78 H ?_); clear H; intro g6 w1 H; simp only [pS]; simp only [nC] at H) | (with_reducible refine wpl rfl (stQ (ty := 78) rfl ?_); first | (with_reducible refine (Stp.str rfl size78 rfl rfl (by first | rfl | (simp [Value.oneCell']; done) | assumption) H uP sZ sZ ?_); clear H; intro w1 H; simp only [pS]) | (with_reducible refine (Stp.stl rfl size78 rfl rfl rfl rfl H uP (by simp) ?_); clear H; intro w1 H; simp only [pS]; simp only [List.drop_succ_cons, List.drop_zero, List.take_succ_cons, List.take_zero, List.nil_append, List.cons_append, Nat.reduceAdd] at H)))
                  refine rg_begin 30 rfl (S := fun W => St _ _ W (row 78 g6 #[.int .u16 (y.p.1 : Int), .int .u32 (y.p.2 : Int), .int .u64 (y.e.1.x.id : Int), .slice y.e.2.ma y.e.1.x.mem.length y.e.2.mc, .slice y.e.2.la y.e.1.x.lvs.length y.e.2.lc, .slice y.e.2.da y.e.1.x.ldr.length y.e.2.dc, .slice y.aa y.all.length y.ac, .slice y.ta y.told.length y.tc, .bool y.fol] :: [])) (by kernel_rfl) (H.drew.sub sU) ?_
                  replace H := H.drew
                  have HS := H
                  refine rg_take (i := 0) rfl kR kR kR (Yld.o rfl) (H.sub sU) ?_; simp only [pS]
                  first | (refine rg_take (i := 1) rfl kR kR kR (Yld.ldor rfl rfl agg41 size41 rfl (by assumption) sZ (by assumption)) (H.sub sU) ?_; simp only [pS]) | (refine rg_take (i := 1) rfl kR kR kR (Yld.ldr rfl rfl agg41 size41 rfl mR sZ) (H.sub sU) ?_; simp only [pS]) | (refine rg_take (i := 1) rfl kR kR kR (Yld.ldl rfl rfl agg41 size41 rfl mR (by simp)) (H.sub sU) ?_; simp only [pS]; simp only [List.drop_succ_cons, List.drop_zero, List.take_succ_cons, List.take_zero])
                  refine rg_one (i := 2) (by kernel_rfl) rfl rfl (fun K hK => ?_)
                  refine wp_callf rfl ent53 (vcheck_ok y.e.1.x _ _ _ _ _ _ HYW.out.sm HYW.out.wv.x _ (HYW.out.v.vw.grow H.below)) rfl (fun v w1 hr => ?_)
                  obtain ⟨rfl, hb1⟩ := hr
                  replace H := H.grow hb1
                  clear hb1
                  clear HS
                  have HS := H
                  refine hK.out _ _ (H.sub sU) ?_
                  clear hK K
                  simp only [pS]
                  refine rg_take (i := 3) rfl kR kR kR (Yld.of (v := .bool false) rfl (fun W _ => by go_simp; first | done | exact HV0.out | (rw [HV0.out]) | (simpa using HV0.out) | (have hq := HV0.out; omega) | (have hq := HV0.out; simp at hq ⊢; omega))) (H.sub sU) ?_; simp only [pS, pE]
                  refine rg_take (i := 4) rfl kR kR kR (Yld.move rfl rfl) (H.sub sU) ?_; simp only [pS, pE]
                  refine rg_take (i := 5) rfl kR kR kR (Yld.o rfl) (H.sub sU) ?_; simp only [pS]
                  first | (refine rg_take (i := 6) rfl kR kR kR (Yld.ldor rfl rfl agg41 size41 rfl (by assumption) sZ (by assumption)) (H.sub sU) ?_; simp only [pS]) | (refine rg_take (i := 6) rfl kR kR kR (Yld.ldr rfl rfl agg41 size41 rfl mR sZ) (H.sub sU) ?_; simp only [pS]) | (refine rg_take (i := 6) rfl kR kR kR (Yld.ldl rfl rfl agg41 size41 rfl mR (by simp)) (H.sub sU) ?_; simp only [pS]; simp only [List.drop_succ_cons, List.drop_zero, List.take_succ_cons, List.take_zero])
                  refine rg_take (i := 7) rfl kR kR kR (Yld.o rfl) (H.sub sU) ?_; simp only [pS]
                  first | (refine rg_take (i := 8) rfl kR kR kR (Yld.ldor rfl rfl agg27 size27 rfl (by assumption) sZ (by assumption)) (H.sub sU) ?_; simp only [pS]) | (refine rg_take (i := 8) rfl kR kR kR (Yld.ldr rfl rfl agg27 size27 rfl mR sZ) (H.sub sU) ?_; simp only [pS]) | (refine rg_take (i := 8) rfl kR kR kR (Yld.ldl rfl rfl agg27 size27 rfl mR (by simp)) (H.sub sU) ?_; simp only [pS]; simp only [List.drop_succ_cons, List.drop_zero, List.take_succ_cons, List.take_zero])
                  refine rg_one (i := 9) (by kernel_rfl) rfl rfl (fun K hK => ?_)
                  refine wp_callf rfl ent54 (vhas_is y.e.1.x _ _ _ _ _ _ y.p _ HHS.out _ (HYW.out.v.memS.grow H.below)) rfl (fun v w1 hr => ?_)
                  obtain ⟨rfl, hb1⟩ := hr
                  replace H := H.grow hb1
                  clear hb1
                  clear HS
                  have HS := H
                  refine hK.out _ _ (H.sub sU) ?_
                  clear hK K
                  simp only [pS]
                  refine rg_take (i := 10) rfl kR kR kR (Yld.o rfl) (H.sub sU) ?_; simp only [pS]
                  refine rg_take (i := 11) rfl kR kR kR (Yld.pick rfl rfl rfl) (H.sub sU) ?_; simp only [pS, pE]
                  refine rg_take (i := 12) rfl kR kR kR (Yld.move rfl rfl) (H.sub sU) ?_; simp only [pS, pE]
                  refine rg_take (i := 13) rfl kR kR kR (Yld.move rfl rfl) (H.sub sU) ?_; simp only [pS, pE]
                  refine rg_take (i := 14) rfl kR kR kR (Yld.of (v := .bool true) rfl (fun W _ => by go_simp; first | done | exact HZ.out | (rw [HZ.out]) | (simpa using HZ.out) | (have hq := HZ.out; omega) | (have hq := HZ.out; simp at hq ⊢; omega))) (H.sub sU) ?_; simp only [pS, pE]
                  refine rg_take (i := 15) rfl kR kR kR (Yld.move rfl rfl) (H.sub sU) ?_; simp only [pS, pE]
                  refine rg_take (i := 16) rfl kR kR kR (Yld.o rfl) (H.sub sU) ?_; simp only [pS]
                  refine rg_take (i := 17) rfl kR kR kR (Yld.o rfl) (H.sub sU) ?_; simp only [pS]
                  first | (refine rg_take (i := 18) rfl kR kR kR (Yld.ldo rfl rfl agg37 rfl (by assumption) (by assumption)) (H.sub sU) ?_; simp only [pS]) | (refine rg_take (i := 18) rfl kR kR kR (Yld.ldc rfl rfl agg37 rfl mR cE) (H.sub sU) ?_; simp only [pS])
                  refine rg_take (i := 19) rfl kR kR kR (Yld.move rfl rfl) (H.sub sU) ?_; simp only [pS, pE]
                  refine rg_take (i := 20) rfl kR kR kR (Yld.move rfl rfl) (H.sub sU) ?_; simp only [pS, pE]
                  refine rg_take (i := 21) rfl kR kR kR (Yld.of (v := .int .i64 (j : Int)) rfl (fun W _ => by go_simp; first | done | exact HW.out | (rw [HW.out]))) (H.sub sU) ?_; simp only [pS, pE]
                  refine rg_take (i := 22) rfl kR kR kR (Yld.o rfl) (H.sub sU) ?_; simp only [pS]
                  refine rg_take (i := 23) rfl kR kR kR (Yld.o rfl) (H.sub sU) ?_; simp only [pS]
                  refine rg_take (i := 24) rfl kR kR kR (Yld.o rfl) (H.sub sU) ?_; simp only [pS]
                  first | (refine rg_take (i := 25) rfl kR kR kR (Yld.ldo rfl rfl agg37 rfl (by assumption) (by assumption)) (H.sub sU) ?_; simp only [pS]) | (refine rg_take (i := 25) rfl kR kR kR (Yld.ldc rfl rfl agg37 rfl mR cE) (H.sub sU) ?_; simp only [pS])
                  refine rg_take (i := 26) rfl kR kR kR (Yld.of (v := .int .u64 (nx : Int)) rfl (fun W _ => by go_simp; first | done | exact HW2.out | (rw [HW2.out]))) (H.sub sU) ?_; simp only [pS, pE]
                  refine rg_take (i := 27) rfl kR kR kR (Yld.of (v := .bool false) rfl (fun W _ => by go_simp; first | done | exact HNE.out | (rw [HNE.out]) | (simpa using HNE.out) | (have hq := HNE.out; omega) | (have hq := HNE.out; simp at hq ⊢; omega))) (H.sub sU) ?_; simp only [pS, pE]
                  refine rg_take (i := 28) rfl kR kR kR (Yld.pick rfl rfl rfl) (H.sub sU) ?_; simp only [pS, pE]
                  refine rg_take (i := 29) rfl kR kR kR (Yld.pick rfl rfl rfl) (H.sub sU) ?_; simp only [pS, pE]
                  refine rg_done (by kernel_rfl) ?_
                  go_wp2_with (first | (with_reducible refine wpl rfl (ldQ (ty := 69) rfl ?_); first | (with_reducible refine (Stp.ldo rfl agg69 rfl H (by assumption) (by assumption) ?_); simp only [pS]) | (with_reducible refine (Stp.ldc rfl agg69 rfl H mR cE ?_); simp only [pS])) | (with_reducible refine wpl rfl (ldQ (ty := 70) rfl ?_); first | (with_reducible refine (Stp.ldo rfl agg70 rfl H (by assumption) (by assumption) ?_); simp only [pS]) | (with_reducible refine (Stp.ldc rfl agg70 rfl H mR cE ?_); simp only [pS])) | (with_reducible refine wpl rfl (ldQ (ty := 78) rfl ?_); first | (with_reducible refine (Stp.ldor rfl agg78 size78 rfl H (by assumption) sZ (by assumption) ?_); simp only [pS]) | (with_reducible refine (Stp.ldr rfl agg78 size78 rfl H mR sZ ?_); simp only [pS]) | (with_reducible refine (Stp.ldl rfl agg78 size78 rfl H mR (by simp) ?_); simp only [pS]; simp only [List.drop_succ_cons, List.drop_zero, List.take_succ_cons, List.take_zero])) | (with_reducible refine wpl rfl (dQ 6 rfl ?_); with_reducible refine (Stp.alloc 6 rfl rfl zero78 H ?_); clear H; intro g6 w1 H; simp only [pS]; simp only [nC] at H) | (with_reducible refine wpl rfl (stQ (ty := 78) rfl ?_); first | (with_reducible refine (Stp.str rfl size78 rfl rfl (by first | rfl | (simp [Value.oneCell']; done) | assumption) H uP sZ sZ ?_); clear H; intro w1 H; simp only [pS]) | (with_reducible refine (Stp.stl rfl size78 rfl rfl rfl rfl H uP (by simp) ?_); clear H; intro w1 H; simp only [pS]; simp only [List.drop_succ_cons, List.drop_zero, List.take_succ_cons, List.take_zero, List.nil_append, List.cons_append, Nat.reduceAdd] at H)))
                  go_roundw
                  case rel => exact ⟨i + 1, by omega, by go_num, HT2, H.sub sU⟩
                  case measure => simp [intOf]; omega
                · have HNE : Hid (((y.e.1.x.id : Int) != (nx : Int)) = true) := Lib.hid (by simp; omega)
                  have HV : Hid (r = false) := Lib.hid (HBAD.out (by rw [HVW.out]; exact decide_eq_false hid1))
                  clear hid1
                  go_wp2_with (first | (with_reducible refine wpl rfl (ldQ (ty := 69) rfl ?_); first | (with_reducible refine (Stp.ldo rfl agg69 rfl H (by assumption) (by assumption) ?_); simp only [pS]) | (with_reducible refine (Stp.ldc rfl agg69 rfl H mR cE ?_); simp only [pS])) | (with_reducible refine wpl rfl (ldQ (ty := 70) rfl ?_); first | (with_reducible refine (Stp.ldo rfl agg70 rfl H (by assumption) (by assumption) ?_); simp only [pS]) | (with_reducible refine (Stp.ldc rfl agg70 rfl H mR cE ?_); simp only [pS])) | (with_reducible refine wpl rfl (ldQ (ty := 78) rfl ?_); first | (with_reducible refine (Stp.ldor rfl agg78 size78 rfl H (by assumption) sZ (by assumption) ?_); simp only [pS]) | (with_reducible refine (Stp.ldr rfl agg78 size78 rfl H mR sZ ?_); simp only [pS]) | (with_reducible refine (Stp.ldl rfl agg78 size78 rfl H mR (by simp) ?_); simp only [pS]; simp only [List.drop_succ_cons, List.drop_zero, List.take_succ_cons, List.take_zero])) | (with_reducible refine wpl rfl (dQ 6 rfl ?_); with_reducible refine (Stp.alloc 6 rfl rfl zero78 H ?_); clear H; intro g6 w1 H; simp only [pS]; simp only [nC] at H) | (with_reducible refine wpl rfl (stQ (ty := 78) rfl ?_); first | (with_reducible refine (Stp.str rfl size78 rfl rfl (by first | rfl | (simp [Value.oneCell']; done) | assumption) H uP sZ sZ ?_); clear H; intro w1 H; simp only [pS]) | (with_reducible refine (Stp.stl rfl size78 rfl rfl rfl rfl H uP (by simp) ?_); clear H; intro w1 H; simp only [pS]; simp only [List.drop_succ_cons, List.drop_zero, List.take_succ_cons, List.take_zero, List.nil_append, List.cons_append, Nat.reduceAdd] at H)))
                  refine rg_begin 30 rfl (S := fun W => St _ _ W (row 78 g6 #[.int .u16 (y.p.1 : Int), .int .u32 (y.p.2 : Int), .int .u64 (y.e.1.x.id : Int), .slice y.e.2.ma y.e.1.x.mem.length y.e.2.mc, .slice y.e.2.la y.e.1.x.lvs.length y.e.2.lc, .slice y.e.2.da y.e.1.x.ldr.length y.e.2.dc, .slice y.aa y.all.length y.ac, .slice y.ta y.told.length y.tc, .bool y.fol] :: [])) (by kernel_rfl) (H.drew.sub sU) ?_
                  replace H := H.drew
                  have HS := H
                  refine rg_take (i := 0) rfl kR kR kR (Yld.o rfl) (H.sub sU) ?_; simp only [pS]
                  first | (refine rg_take (i := 1) rfl kR kR kR (Yld.ldor rfl rfl agg41 size41 rfl (by assumption) sZ (by assumption)) (H.sub sU) ?_; simp only [pS]) | (refine rg_take (i := 1) rfl kR kR kR (Yld.ldr rfl rfl agg41 size41 rfl mR sZ) (H.sub sU) ?_; simp only [pS]) | (refine rg_take (i := 1) rfl kR kR kR (Yld.ldl rfl rfl agg41 size41 rfl mR (by simp)) (H.sub sU) ?_; simp only [pS]; simp only [List.drop_succ_cons, List.drop_zero, List.take_succ_cons, List.take_zero])
                  refine rg_one (i := 2) (by kernel_rfl) rfl rfl (fun K hK => ?_)
                  refine wp_callf rfl ent53 (vcheck_ok y.e.1.x _ _ _ _ _ _ HYW.out.sm HYW.out.wv.x _ (HYW.out.v.vw.grow H.below)) rfl (fun v w1 hr => ?_)
                  obtain ⟨rfl, hb1⟩ := hr
                  replace H := H.grow hb1
                  clear hb1
                  clear HS
                  have HS := H
                  refine hK.out _ _ (H.sub sU) ?_
                  clear hK K
                  simp only [pS]
                  refine rg_take (i := 3) rfl kR kR kR (Yld.of (v := .bool false) rfl (fun W _ => by go_simp; first | done | exact HV0.out | (rw [HV0.out]) | (simpa using HV0.out) | (have hq := HV0.out; omega) | (have hq := HV0.out; simp at hq ⊢; omega))) (H.sub sU) ?_; simp only [pS, pE]
                  refine rg_take (i := 4) rfl kR kR kR (Yld.move rfl rfl) (H.sub sU) ?_; simp only [pS, pE]
                  refine rg_take (i := 5) rfl kR kR kR (Yld.o rfl) (H.sub sU) ?_; simp only [pS]
                  first | (refine rg_take (i := 6) rfl kR kR kR (Yld.ldor rfl rfl agg41 size41 rfl (by assumption) sZ (by assumption)) (H.sub sU) ?_; simp only [pS]) | (refine rg_take (i := 6) rfl kR kR kR (Yld.ldr rfl rfl agg41 size41 rfl mR sZ) (H.sub sU) ?_; simp only [pS]) | (refine rg_take (i := 6) rfl kR kR kR (Yld.ldl rfl rfl agg41 size41 rfl mR (by simp)) (H.sub sU) ?_; simp only [pS]; simp only [List.drop_succ_cons, List.drop_zero, List.take_succ_cons, List.take_zero])
                  refine rg_take (i := 7) rfl kR kR kR (Yld.o rfl) (H.sub sU) ?_; simp only [pS]
                  first | (refine rg_take (i := 8) rfl kR kR kR (Yld.ldor rfl rfl agg27 size27 rfl (by assumption) sZ (by assumption)) (H.sub sU) ?_; simp only [pS]) | (refine rg_take (i := 8) rfl kR kR kR (Yld.ldr rfl rfl agg27 size27 rfl mR sZ) (H.sub sU) ?_; simp only [pS]) | (refine rg_take (i := 8) rfl kR kR kR (Yld.ldl rfl rfl agg27 size27 rfl mR (by simp)) (H.sub sU) ?_; simp only [pS]; simp only [List.drop_succ_cons, List.drop_zero, List.take_succ_cons, List.take_zero])
                  refine rg_one (i := 9) (by kernel_rfl) rfl rfl (fun K hK => ?_)
                  refine wp_callf rfl ent54 (vhas_is y.e.1.x _ _ _ _ _ _ y.p _ HHS.out _ (HYW.out.v.memS.grow H.below)) rfl (fun v w1 hr => ?_)
                  obtain ⟨rfl, hb1⟩ := hr
                  replace H := H.grow hb1
                  clear hb1
                  clear HS
                  have HS := H
                  refine hK.out _ _ (H.sub sU) ?_
                  clear hK K
                  simp only [pS]
                  refine rg_take (i := 10) rfl kR kR kR (Yld.o rfl) (H.sub sU) ?_; simp only [pS]
                  refine rg_take (i := 11) rfl kR kR kR (Yld.pick rfl rfl rfl) (H.sub sU) ?_; simp only [pS, pE]
                  refine rg_take (i := 12) rfl kR kR kR (Yld.move rfl rfl) (H.sub sU) ?_; simp only [pS, pE]
                  refine rg_take (i := 13) rfl kR kR kR (Yld.move rfl rfl) (H.sub sU) ?_; simp only [pS, pE]
                  refine rg_take (i := 14) rfl kR kR kR (Yld.of (v := .bool true) rfl (fun W _ => by go_simp; first | done | exact HZ.out | (rw [HZ.out]) | (simpa using HZ.out) | (have hq := HZ.out; omega) | (have hq := HZ.out; simp at hq ⊢; omega))) (H.sub sU) ?_; simp only [pS, pE]
                  refine rg_take (i := 15) rfl kR kR kR (Yld.move rfl rfl) (H.sub sU) ?_; simp only [pS, pE]
                  refine rg_take (i := 16) rfl kR kR kR (Yld.o rfl) (H.sub sU) ?_; simp only [pS]
                  refine rg_take (i := 17) rfl kR kR kR (Yld.o rfl) (H.sub sU) ?_; simp only [pS]
                  first | (refine rg_take (i := 18) rfl kR kR kR (Yld.ldo rfl rfl agg37 rfl (by assumption) (by assumption)) (H.sub sU) ?_; simp only [pS]) | (refine rg_take (i := 18) rfl kR kR kR (Yld.ldc rfl rfl agg37 rfl mR cE) (H.sub sU) ?_; simp only [pS])
                  refine rg_take (i := 19) rfl kR kR kR (Yld.move rfl rfl) (H.sub sU) ?_; simp only [pS, pE]
                  refine rg_take (i := 20) rfl kR kR kR (Yld.move rfl rfl) (H.sub sU) ?_; simp only [pS, pE]
                  refine rg_take (i := 21) rfl kR kR kR (Yld.of (v := .int .i64 (j : Int)) rfl (fun W _ => by go_simp; first | done | exact HW.out | (rw [HW.out]))) (H.sub sU) ?_; simp only [pS, pE]
                  refine rg_take (i := 22) rfl kR kR kR (Yld.o rfl) (H.sub sU) ?_; simp only [pS]
                  refine rg_take (i := 23) rfl kR kR kR (Yld.o rfl) (H.sub sU) ?_; simp only [pS]
                  refine rg_take (i := 24) rfl kR kR kR (Yld.o rfl) (H.sub sU) ?_; simp only [pS]
                  first | (refine rg_take (i := 25) rfl kR kR kR (Yld.ldo rfl rfl agg37 rfl (by assumption) (by assumption)) (H.sub sU) ?_; simp only [pS]) | (refine rg_take (i := 25) rfl kR kR kR (Yld.ldc rfl rfl agg37 rfl mR cE) (H.sub sU) ?_; simp only [pS])
                  refine rg_take (i := 26) rfl kR kR kR (Yld.of (v := .int .u64 (nx : Int)) rfl (fun W _ => by go_simp; first | done | exact HW2.out | (rw [HW2.out]))) (H.sub sU) ?_; simp only [pS, pE]
                  refine rg_take (i := 27) rfl kR kR kR (Yld.of (v := .bool true) rfl (fun W _ => by go_simp; first | done | exact HNE.out | (rw [HNE.out]) | (simpa using HNE.out) | (have hq := HNE.out; omega) | (have hq := HNE.out; simp at hq ⊢; omega))) (H.sub sU) ?_; simp only [pS, pE]
                  refine rg_take (i := 28) rfl kR kR kR (Yld.pick rfl rfl rfl) (H.sub sU) ?_; simp only [pS, pE]
                  refine rg_take (i := 29) rfl kR kR kR (Yld.pick rfl rfl rfl) (H.sub sU) ?_; simp only [pS, pE]
                  refine rg_done (by kernel_rfl) ?_
                  go_wp2_with (first | (with_reducible refine wpl rfl (ldQ (ty := 69) rfl ?_); first | (with_reducible refine (Stp.ldo rfl agg69 rfl H (by assumption) (by assumption) ?_); simp only [pS]) | (with_reducible refine (Stp.ldc rfl agg69 rfl H mR cE ?_); simp only [pS])) | (with_reducible refine wpl rfl (ldQ (ty := 70) rfl ?_); first | (with_reducible refine (Stp.ldo rfl agg70 rfl H (by assumption) (by assumption) ?_); simp only [pS]) | (with_reducible refine (Stp.ldc rfl agg70 rfl H mR cE ?_); simp only [pS])) | (with_reducible refine wpl rfl (ldQ (ty := 78) rfl ?_); first | (with_reducible refine (Stp.ldor rfl agg78 size78 rfl H (by assumption) sZ (by assumption) ?_); simp only [pS]) | (with_reducible refine (Stp.ldr rfl agg78 size78 rfl H mR sZ ?_); simp only [pS]) | (with_reducible refine (Stp.ldl rfl agg78 size78 rfl H mR (by simp) ?_); simp only [pS]; simp only [List.drop_succ_cons, List.drop_zero, List.take_succ_cons, List.take_zero])) | (with_reducible refine wpl rfl (dQ 6 rfl ?_); with_reducible refine (Stp.alloc 6 rfl rfl zero78 H ?_); clear H; intro g6 w1 H; simp only [pS]; simp only [nC] at H) | (with_reducible refine wpl rfl (stQ (ty := 78) rfl ?_); first | (with_reducible refine (Stp.str rfl size78 rfl rfl (by first | rfl | (simp [Value.oneCell']; done) | assumption) H uP sZ sZ ?_); clear H; intro w1 H; simp only [pS]) | (with_reducible refine (Stp.stl rfl size78 rfl rfl rfl rfl H uP (by simp) ?_); clear H; intro w1 H; simp only [pS]; simp only [List.drop_succ_cons, List.drop_zero, List.take_succ_cons, List.take_zero, List.nil_append, List.cons_append, Nat.reduceAdd] at H)))
                  go_ret
                  exact ⟨_, rfl, by rw [HV.out]; rfl, H.below⟩
          · have HV0 : Hid ((vErr y.e.1.x != 0) = true) := Lib.hid (by simp [he0])
            have HV : Hid (r = false) := Lib.hid (HBAD.out (by unfold vwOk; rw [decide_eq_false he0]; rfl))
            clear he0
            go_wp2_with (first | (with_reducible refine wpl rfl (ldQ (ty := 69) rfl ?_); first | (with_reducible refine (Stp.ldo rfl agg69 rfl H (by assumption) (by assumption) ?_); simp only [pS]) | (with_reducible refine (Stp.ldc rfl agg69 rfl H mR cE ?_); simp only [pS])) | (with_reducible refine wpl rfl (ldQ (ty := 70) rfl ?_); first | (with_reducible refine (Stp.ldo rfl agg70 rfl H (by assumption) (by assumption) ?_); simp only [pS]) | (with_reducible refine (Stp.ldc rfl agg70 rfl H mR cE ?_); simp only [pS])) | (with_reducible refine wpl rfl (ldQ (ty := 78) rfl ?_); first | (with_reducible refine (Stp.ldor rfl agg78 size78 rfl H (by assumption) sZ (by assumption) ?_); simp only [pS]) | (with_reducible refine (Stp.ldr rfl agg78 size78 rfl H mR sZ ?_); simp only [pS]) | (with_reducible refine (Stp.ldl rfl agg78 size78 rfl H mR (by simp) ?_); simp only [pS]; simp only [List.drop_succ_cons, List.drop_zero, List.take_succ_cons, List.take_zero])) | (with_reducible refine wpl rfl (dQ 6 rfl ?_); with_reducible refine (Stp.alloc 6 rfl rfl zero78 H ?_); clear H; intro g6 w1 H; simp only [pS]; simp only [nC] at H) | (with_reducible refine wpl rfl (stQ (ty := 78) rfl ?_); first | (with_reducible refine (Stp.str rfl size78 rfl rfl (by first | rfl | (simp [Value.oneCell']; done) | assumption) H uP sZ sZ ?_); clear H; intro w1 H; simp only [pS]) | (with_reducible refine (Stp.stl rfl size78 rfl rfl rfl rfl H uP (by simp) ?_); clear H; intro w1 H; simp only [pS]; simp only [List.drop_succ_cons, List.drop_zero, List.take_succ_cons, List.take_zero, List.nil_append, List.cons_append, Nat.reduceAdd] at H)))
            refine rg_begin 30 rfl (S := fun W => St _ _ W (row 78 g6 #[.int .u16 (y.p.1 : Int), .int .u32 (y.p.2 : Int), .int .u64 (y.e.1.x.id : Int), .slice y.e.2.ma y.e.1.x.mem.length y.e.2.mc, .slice y.e.2.la y.e.1.x.lvs.length y.e.2.lc, .slice y.e.2.da y.e.1.x.ldr.length y.e.2.dc, .slice y.aa y.all.length y.ac, .slice y.ta y.told.length y.tc, .bool y.fol] :: [])) (by kernel_rfl) (H.drew.sub sU) ?_
            replace H := H.drew
            have HS := H
            refine rg_take (i := 0) rfl kR kR kR (Yld.o rfl) (H.sub sU) ?_; simp only [pS]
            first | (refine rg_take (i := 1) rfl kR kR kR (Yld.ldor rfl rfl agg41 size41 rfl (by assumption) sZ (by assumption)) (H.sub sU) ?_; simp only [pS]) | (refine rg_take (i := 1) rfl kR kR kR (Yld.ldr rfl rfl agg41 size41 rfl mR sZ) (H.sub sU) ?_; simp only [pS]) | (refine rg_take (i := 1) rfl kR kR kR (Yld.ldl rfl rfl agg41 size41 rfl mR (by simp)) (H.sub sU) ?_; simp only [pS]; simp only [List.drop_succ_cons, List.drop_zero, List.take_succ_cons, List.take_zero])
            refine rg_one (i := 2) (by kernel_rfl) rfl rfl (fun K hK => ?_)
            refine wp_callf rfl ent53 (vcheck_ok y.e.1.x _ _ _ _ _ _ HYW.out.sm HYW.out.wv.x _ (HYW.out.v.vw.grow H.below)) rfl (fun v w1 hr => ?_)
            obtain ⟨rfl, hb1⟩ := hr
            replace H := H.grow hb1
            clear hb1
            clear HS
            have HS := H
            refine hK.out _ _ (H.sub sU) ?_
            clear hK K
            simp only [pS]
            refine rg_take (i := 3) rfl kR kR kR (Yld.of (v := .bool true) rfl (fun W _ => by go_simp; first | done | exact HV0.out | (rw [HV0.out]) | (simpa using HV0.out) | (have hq := HV0.out; omega) | (have hq := HV0.out; simp at hq ⊢; omega))) (H.sub sU) ?_; simp only [pS, pE]
            refine rg_take (i := 4) rfl kR kR kR (Yld.move rfl rfl) (H.sub sU) ?_; simp only [pS, pE]
            refine rg_take (i := 5) rfl kR kR kR (Yld.skip rfl) (H.sub sU) ?_; simp only [pS]
            refine rg_take (i := 6) rfl kR kR kR (Yld.skip rfl) (H.sub sU) ?_; simp only [pS]
            refine rg_take (i := 7) rfl kR kR kR (Yld.skip rfl) (H.sub sU) ?_; simp only [pS]
            refine rg_take (i := 8) rfl kR kR kR (Yld.skip rfl) (H.sub sU) ?_; simp only [pS]
            refine rg_take (i := 9) rfl kR kR kR (Yld.skip rfl) (H.sub sU) ?_; simp only [pS]
            refine rg_take (i := 10) rfl kR kR kR (Yld.skip rfl) (H.sub sU) ?_; simp only [pS]
            refine rg_take (i := 11) rfl kR kR kR (Yld.pick rfl rfl rfl) (H.sub sU) ?_; simp only [pS, pE]
            refine rg_take (i := 12) rfl kR kR kR (Yld.move rfl rfl) (H.sub sU) ?_; simp only [pS, pE]
            refine rg_take (i := 13) rfl kR kR kR (Yld.skip rfl) (H.sub sU) ?_; simp only [pS]
            refine rg_take (i := 14) rfl kR kR kR (Yld.skip rfl) (H.sub sU) ?_; simp only [pS]
            refine rg_take (i := 15) rfl kR kR kR (Yld.skip rfl) (H.sub sU) ?_; simp only [pS]
            refine rg_take (i := 16) rfl kR kR kR (Yld.skip rfl) (H.sub sU) ?_; simp only [pS]
            refine rg_take (i := 17) rfl kR kR kR (Yld.skip rfl) (H.sub sU) ?_; simp only [pS]
            refine rg_take (i := 18) rfl kR kR kR (Yld.skip rfl) (H.sub sU) ?_; simp only [pS]
            refine rg_take (i := 19) rfl kR kR kR (Yld.skip rfl) (H.sub sU) ?_; simp only [pS]
            refine rg_take (i := 20) rfl kR kR kR (Yld.skip rfl) (H.sub sU) ?_; simp only [pS]
            refine rg_take (i := 21) rfl kR kR kR (Yld.skip rfl) (H.sub sU) ?_; simp only [pS]
            refine rg_take (i := 22) rfl kR kR kR (Yld.skip rfl) (H.sub sU) ?_; simp only [pS]
            refine rg_take (i := 23) rfl kR kR kR (Yld.skip rfl) (H.sub sU) ?_; simp only [pS]
            refine rg_take (i := 24) rfl kR kR kR (Yld.skip rfl) (H.sub sU) ?_; simp only [pS]
            refine rg_take (i := 25) rfl kR kR kR (Yld.skip rfl) (H.sub sU) ?_; simp only [pS]
            refine rg_take (i := 26) rfl kR kR kR (Yld.skip rfl) (H.sub sU) ?_; simp only [pS]
            refine rg_take (i := 27) rfl kR kR kR (Yld.skip rfl) (H.sub sU) ?_; simp only [pS]
            refine rg_take (i := 28) rfl kR kR kR (Yld.skip rfl) (H.sub sU) ?_; simp only [pS]
            refine rg_take (i := 29) rfl kR kR kR (Yld.pick rfl rfl rfl) (H.sub sU) ?_; simp only [pS, pE]
            refine rg_done (by kernel_rfl) ?_
            go_wp2_with (first | (with_reducible refine wpl rfl (ldQ (ty := 69) rfl ?_); first | (with_reducible refine (Stp.ldo rfl agg69 rfl H (by assumption) (by assumption) ?_); simp only [pS]) | (with_reducible refine (Stp.ldc rfl agg69 rfl H mR cE ?_); simp only [pS])) | (with_reducible refine wpl rfl (ldQ (ty := 70) rfl ?_); first | (with_reducible refine (Stp.ldo rfl agg70 rfl H (by assumption) (by assumption) ?_); simp only [pS]) | (with_reducible refine (Stp.ldc rfl agg70 rfl H mR cE ?_); simp only [pS])) | (with_reducible refine wpl rfl (ldQ (ty := 78) rfl ?_); first | (with_reducible refine (Stp.ldor rfl agg78 size78 rfl H (by assumption) sZ (by assumption) ?_); simp only [pS]) | (with_reducible refine (Stp.ldr rfl agg78 size78 rfl H mR sZ ?_); simp only [pS]) | (with_reducible refine (Stp.ldl rfl agg78 size78 rfl H mR (by simp) ?_); simp only [pS]; simp only [List.drop_succ_cons, List.drop_zero, List.take_succ_cons, List.take_zero])) | (with_reducible refine wpl rfl (dQ 6 rfl ?_); with_reducible refine (Stp.alloc 6 rfl rfl zero78 H ?_); clear H; intro g6 w1 H; simp only [pS]; simp only [nC] at H) | (with_reducible refine wpl rfl (stQ (ty := 78) rfl ?_); first | (with_reducible refine (Stp.str rfl size78 rfl rfl (by first | rfl | (simp [Value.oneCell']; done) | assumption) H uP sZ sZ ?_); clear H; intro w1 H; simp only [pS]) | (with_reducible refine (Stp.stl rfl size78 rfl rfl rfl rfl H uP (by simp) ?_); clear H; intro w1 H; simp only [pS]; simp only [List.drop_succ_cons, List.drop_zero, List.take_succ_cons, List.take_zero, List.nil_append, List.cons_append, Nat.reduceAdd] at H)))
            go_ret
            exact ⟨_, rfl, by rw [HV.out]; rfl, H.below⟩
        · obtain rfl : i = m := by omega
          have HV : Hid ((D.bys.take (q + 1)).all (fun b => allN (vwOk b.ss) 0 b.ss) = true) := Lib.hid (by
            have := HT1.out
            rw [List.take_of_length_le (by rw [HM.out]; omega)] at this
            rw [HTk.out, List.all_append, HT.out]
            simp only [List.all_cons, List.all_nil, Bool.and_true, Bool.true_and]; exact this)
          go_wp2_with (first | (with_reducible refine wpl rfl (ldQ (ty := 69) rfl ?_); first | (with_reducible refine (Stp.ldo rfl agg69 rfl H (by assumption) (by assumption) ?_); simp only [pS]) | (with_reducible refine (Stp.ldc rfl agg69 rfl H mR cE ?_); simp only [pS])) | (with_reducible refine wpl rfl (ldQ (ty := 70) rfl ?_); first | (with_reducible refine (Stp.ldo rfl agg70 rfl H (by assumption) (by assumption) ?_); simp only [pS]) | (with_reducible refine (Stp.ldc rfl agg70 rfl H mR cE ?_); simp only [pS])) | (with_reducible refine wpl rfl (ldQ (ty := 78) rfl ?_); first | (with_reducible refine (Stp.ldor rfl agg78 size78 rfl H (by assumption) sZ (by assumption) ?_); simp only [pS]) | (with_reducible refine (Stp.ldr rfl agg78 size78 rfl H mR sZ ?_); simp only [pS]) | (with_reducible refine (Stp.ldl rfl agg78 size78 rfl H mR (by simp) ?_); simp only [pS]; simp only [List.drop_succ_cons, List.drop_zero, List.take_succ_cons, List.take_zero])) | (with_reducible refine wpl rfl (dQ 6 rfl ?_); with_reducible refine (Stp.alloc 6 rfl rfl zero78 H ?_); clear H; intro g6 w1 H; simp only [pS]; simp only [nC] at H) | (with_reducible refine wpl rfl (stQ (ty := 78) rfl ?_); first | (with_reducible refine (Stp.str rfl size78 rfl rfl (by first | rfl | (simp [Value.oneCell']; done) | assumption) H uP sZ sZ ?_); clear H; intro w1 H; simp only [pS]) | (with_reducible refine (Stp.stl rfl size78 rfl rfl rfl rfl H uP (by simp) ?_); clear H; intro w1 H; simp only [pS]; simp only [List.drop_succ_cons, List.drop_zero, List.take_succ_cons, List.take_zero, List.nil_append, List.cons_append, Nat.reduceAdd] at H)))
          go_roundw
          case rel => exact ⟨q + 1, by omega, by go_num, HV, H.sub sU⟩
          case measure => simp [intOf]; omega
    · obtain rfl : q = n := by omega
      have HV : Hid (r = true) := Lib.hid (by
        rw [← HR.out]; unfold viewsD
        have := HT.out
        rw [List.take_of_length_le (by rw [HN.out]; omega)] at this
        exact this)
      go_wp2_with (first | (with_reducible refine wpl rfl (ldQ (ty := 69) rfl ?_); first | (with_reducible refine (Stp.ldo rfl agg69 rfl H (by assumption) (by assumption) ?_); simp only [pS]) | (with_reducible refine (Stp.ldc rfl agg69 rfl H mR cE ?_); simp only [pS])) | (with_reducible refine wpl rfl (ldQ (ty := 70) rfl ?_); first | (with_reducible refine (Stp.ldo rfl agg70 rfl H (by assumption) (by assumption) ?_); simp only [pS]) | (with_reducible refine (Stp.ldc rfl agg70 rfl H mR cE ?_); simp only [pS])) | (with_reducible refine wpl rfl (ldQ (ty := 78) rfl ?_); first | (with_reducible refine (Stp.ldor rfl agg78 size78 rfl H (by assumption) sZ (by assumption) ?_); simp only [pS]) | (with_reducible refine (Stp.ldr rfl agg78 size78 rfl H mR sZ ?_); simp only [pS]) | (with_reducible refine (Stp.ldl rfl agg78 size78 rfl H mR (by simp) ?_); simp only [pS]; simp only [List.drop_succ_cons, List.drop_zero, List.take_succ_cons, List.take_zero])) | (with_reducible refine wpl rfl (dQ 6 rfl ?_); with_reducible refine (Stp.alloc 6 rfl rfl zero78 H ?_); clear H; intro g6 w1 H; simp only [pS]; simp only [nC] at H) | (with_reducible refine wpl rfl (stQ (ty := 78) rfl ?_); first | (with_reducible refine (Stp.str rfl size78 rfl rfl (by first | rfl | (simp [Value.oneCell']; done) | assumption) H uP sZ sZ ?_); clear H; intro w1 H; simp only [pS]) | (with_reducible refine (Stp.stl rfl size78 rfl rfl rfl rfl H uP (by simp) ?_); clear H; intro w1 H; simp only [pS]; simp only [List.drop_succ_cons, List.drop_zero, List.take_succ_cons, List.take_zero, List.nil_append, List.cons_append, Nat.reduceAdd] at H)))
      go_ret
      exact ⟨_, rfl, by rw [HV.out]; rfl, H.below⟩
end Go.Proofs.Ytbepaafgcbgmfaa
