/- Contracts of maps.Equal over two maps of the same pairs, and of layer 19's Same over two states that are the same; no condition. -/
import Derived.Test.YtjghcmejmdllbaaSta5
import Derived.Test.YtjghcmejmdllbaaRng
import Derived.Test.YtjghcmejmdllbaaVw8
namespace Go.Proofs.Ytjghcmejmdllbaa
open Go.ChangeShapes Go.WideShapes Go.ChangeAt Go.RowKit Go.Maps
set_option linter.unusedVariables false
set_option linter.unusedSimpArgs false
set_option linter.unusedSectionVars false
set_option maxRecDepth 100000
set_option maxHeartbeats 4000000
theorem mequal_ok (b1 b2 : Nat) (M : List (Pr × Nat)) (w : World) (hM1 : MapAt Try.prog 36 ekP evL b1 M w) (hM2 : MapAt Try.prog 36 ekP evL b2 M w) :
    Calls Try.prog 68 #[.map (some b1), .map (some b2)] w (Ret fun v w' => v = .bool true ∧ Below w.heap.size w w') := by
  have H := St.init w
  have hnd := hM1.nodup ekP_inj
  obtain ⟨es, clock, hb1, hst, hes, hkeys⟩ := id hM1
  have hb1lt : b1 < w.heap.size := (Array.getElem?_eq_some_iff.1 hb1).1
  have HES := Lib.hid hes
  have HKS := Lib.hid hkeys
  have HND := Lib.hid hnd
  clear hes hkeys hnd
  go_enter Try.func68, Try.ntmps68
  go_wp2_with (first | (with_reducible refine wpl rfl (Stp.lenmapF (k := 36) (e := 22) (ek := ekP) (ev := evL) (M := M) rfl Try.underlying114 rfl (hM1.grow H.below) ?_); simp only [pS]) | (with_reducible refine wpl rfl (Stp.lenmapF (k := 36) (e := 22) (ek := ekP) (ev := evL) (M := M) rfl Try.underlying114 rfl (hM2.grow H.below) ?_); simp only [pS]) | (with_reducible refine wpl rfl (Stp.range (es := es) (clock := clock) 15 rfl rfl Try.underlying114 rfl ((H.below.block b1 hb1lt).trans hb1) H ?_); clear H; intro r15 w1 H; simp only [pS]) | (with_reducible refine wpl rfl (Stp.alloc 5 rfl rfl zero36 H ?_); clear H; intro g5 w1 H; simp only [pS]; simp only [nC] at H) | (with_reducible refine wpl rfl (Stp.str rfl size36 rfl rfl (by first | rfl | (simp [Value.oneCell']; done) | assumption) H uP sZ sZ ?_); clear H; intro w1 H; simp only [pS]) | (with_reducible refine wpl rfl (Stp.stl rfl size36 rfl rfl rfl rfl H uP (by simp) ?_); clear H; intro w1 H; simp only [pS]; simp only [List.drop_succ_cons, List.drop_zero, List.take_succ_cons, List.take_zero, List.nil_append, List.cons_append, Nat.reduceAdd] at H) | (with_reducible refine wpl rfl (Stp.ldr rfl agg36 size36 rfl H mR sZ ?_); simp only [pS]) | (with_reducible refine wpl rfl (Stp.ldl rfl agg36 size36 rfl H mR (by simp) ?_); simp only [pS]; simp only [List.drop_succ_cons, List.drop_zero, List.take_succ_cons, List.take_zero]) | (with_reducible refine wpl rfl (Stp.ldor rfl agg36 size36 rfl H (by assumption) sZ (by assumption) ?_); simp only [pS]))
  go_loopw [6] (fun _ wr => ∃ (seen : Array Nat) (c0 : Nat), clock ≤ c0 ∧ St w.heap.size w wr [itr r15 b1 clock seen c0]) (fun _ wr => leftIn es r15 wr)
  case atStart => exact ⟨#[], clock, Nat.le_refl _, H⟩
  case round =>
    clear H
    obtain ⟨seen, c0, hsc, H⟩ := hrel
    have HOLD := Lib.hid (leftIn_eq (es := es) (H.get mE))
    go_wp2_with (first | (with_reducible refine wpl rfl (Stp.next (es := es) (clock := clock) (b := b1) (c0 := c0) (seen := seen) 16 rfl rfl rfl ((H.below.block b1 hb1lt).trans hb1) hst hsc H (fun _ => uP) ?_ ?_)) | (with_reducible refine wpl rfl (Stp.alloc 5 rfl rfl zero36 H ?_); clear H; intro g5 w1 H; simp only [pS]; simp only [nC] at H) | (with_reducible refine wpl rfl (Stp.str rfl size36 rfl rfl (by first | rfl | (simp [Value.oneCell']; done) | assumption) H uP sZ sZ ?_); clear H; intro w1 H; simp only [pS]) | (with_reducible refine wpl rfl (Stp.stl rfl size36 rfl rfl rfl rfl H uP (by simp) ?_); clear H; intro w1 H; simp only [pS]; simp only [List.drop_succ_cons, List.drop_zero, List.take_succ_cons, List.take_zero, List.nil_append, List.cons_append, Nat.reduceAdd] at H) | (with_reducible refine wpl rfl (Stp.ldr rfl agg36 size36 rfl H mR sZ ?_); simp only [pS]) | (with_reducible refine wpl rfl (Stp.ldl rfl agg36 size36 rfl H mR (by simp) ?_); simp only [pS]; simp only [List.drop_succ_cons, List.drop_zero, List.take_succ_cons, List.take_zero]) | (with_reducible refine wpl rfl (Stp.ldor rfl agg36 size36 rfl H (by assumption) sZ (by assumption) ?_); simp only [pS]))
    · intro _
      simp only [pS]
      go_wp2_with (first | (with_reducible refine wpl rfl (Stp.alloc 5 rfl rfl zero36 H ?_); clear H; intro g5 w1 H; simp only [pS]; simp only [nC] at H) | (with_reducible refine wpl rfl (Stp.str rfl size36 rfl rfl (by first | rfl | (simp [Value.oneCell']; done) | assumption) H uP sZ sZ ?_); clear H; intro w1 H; simp only [pS]) | (with_reducible refine wpl rfl (Stp.stl rfl size36 rfl rfl rfl rfl H uP (by simp) ?_); clear H; intro w1 H; simp only [pS]; simp only [List.drop_succ_cons, List.drop_zero, List.take_succ_cons, List.take_zero, List.nil_append, List.cons_append, Nat.reduceAdd] at H) | (with_reducible refine wpl rfl (Stp.ldr rfl agg36 size36 rfl H mR sZ ?_); simp only [pS]) | (with_reducible refine wpl rfl (Stp.ldl rfl agg36 size36 rfl H mR (by simp) ?_); simp only [pS]; simp only [List.drop_succ_cons, List.drop_zero, List.take_succ_cons, List.take_zero]) | (with_reducible refine wpl rfl (Stp.ldor rfl agg36 size36 rfl H (by assumption) sZ (by assumption) ?_); simp only [pS]))
      go_ret
      exact ⟨_, rfl, rfl, H.below⟩
    · intro e he w1 H2
      clear H
      have H := H2
      clear H2
      have HL := Lib.hid (left_shrinks es seen e he)
      have HMEM := Lib.hid (mem_left he).1
      obtain ⟨p, hp, hkey, hval⟩ := entry_pair HES.out (mem_left he).1
      obtain ⟨kl, hkl⟩ := HKS.out p hp
      have HK := Lib.hid hkl
      have HG : Hid (mget M p.1 = some p.2) := Lib.hid (mget_of_mem HND.out hp)
      obtain ⟨p, u⟩ := p
      have HKEY := Lib.hid hkey
      have HVAL := Lib.hid hval
      clear he hp hkl hkey hval
      simp only [pS]
      go_wp2_with (first | (with_reducible refine wpl rfl (Stp.entry (es := es) (clock := clock) (b := b1) (e := e) (seen := seen) rfl rfl ((H.below.block b1 hb1lt).trans hb1) hst HMEM.out H mE ?_); simp only [HKEY.out, HVAL.out]; simp only [pS]) | (with_reducible refine wpl rfl (Stp.lookokF (k := 36) (e := 22) (ek := ekP) (ev := evL) (M := M) (q := p) rfl keyedP ekP_inj Try.underlying114 mz22 rfl rfl HK.out (hM2.grow H.below) ?_); simp only [HG.out, Option.map_some, Option.getD_some, Option.isSome_some]; simp only [pS]) | (with_reducible refine wpl rfl (Stp.alloc 5 rfl rfl zero36 H ?_); clear H; intro g5 w1 H; simp only [pS]; simp only [nC] at H) | (with_reducible refine wpl rfl (Stp.str rfl size36 rfl rfl (by first | rfl | (simp [Value.oneCell']; done) | assumption) H uP sZ sZ ?_); clear H; intro w1 H; simp only [pS]) | (with_reducible refine wpl rfl (Stp.stl rfl size36 rfl rfl rfl rfl H uP (by simp) ?_); clear H; intro w1 H; simp only [pS]; simp only [List.drop_succ_cons, List.drop_zero, List.take_succ_cons, List.take_zero, List.nil_append, List.cons_append, Nat.reduceAdd] at H) | (with_reducible refine wpl rfl (Stp.ldr rfl agg36 size36 rfl H mR sZ ?_); simp only [pS]) | (with_reducible refine wpl rfl (Stp.ldl rfl agg36 size36 rfl H mR (by simp) ?_); simp only [pS]; simp only [List.drop_succ_cons, List.drop_zero, List.take_succ_cons, List.take_zero]) | (with_reducible refine wpl rfl (Stp.ldor rfl agg36 size36 rfl H (by assumption) sZ (by assumption) ?_); simp only [pS]))
      have HNEW := Lib.hid (leftIn_eq (es := es) (r := r15) (H.get (r := itr r15 b1 clock (seen.push e.born) clock) mE))
      go_roundw
      case rel => exact ⟨seen.push e.born, clock, Nat.le_refl _, H.sub sU⟩
      case measure => rw [HNEW.out, HOLD.out]; exact HL.out
section
variable {ops : Array Oper} {a : Act} {o : Oper} {S : World → Prop} {x y : Operand} {s0 s1 s2 s3 s4 s5 s6 s7 : ByteArray}
theorem Yld.eqB (hw : Region.wanted o (yielded ops a.tmps) = true) (ho : o.op = .binOp .eql 46 x y 46) (hx : a.eval x = .agg #[.string s0, .string s1, .string s2, .string s3, .string s4, .string s5, .string s6, .string s7]) (hy : a.eval y = .agg #[.string s0, .string s1, .string s2, .string s3, .string s4, .string s5, .string s6, .string s7]) : YieldsIf Try.prog ops S o (.bool true) a :=
  .inl ⟨hw, fun W _ => by
    unfold execOp; simp only [ho, hx, hy]
    simp [eqlBD, eqGuard, eqg_BD]⟩
end
/-- Two states that are the same. -/
theorem ssame_ok (ga gb : Nat) (x : Vw) (M : List (Pr × Nat)) (b : Nat → ByteArray) (w : World) (h1 : StAt w ga x M b) (h2 : StAt w gb x M b) :
    Calls Try.prog 25 #[.pointer (some ⟨ga, 0, none⟩), .pointer (some ⟨gb, 0, none⟩)] w (Ret fun v w' => v = .bool true ∧ Below w.heap.size w w') := by
  have H := St.init w
  obtain ⟨ma, la, da, mc, lc, dc, gm1, G1, hr1, hv1, hM1⟩ := h1
  obtain ⟨mb, lb, db, md, ld, dd2, gm2, G2, hr2, hv2, hM2⟩ := h2
  have hcv1 := stC_view hr1
  have hc41 := stC_map hr1
  have hcb1 := stC_board hr1
  have hlt1 : ga < w.heap.size := rowAt_lt (rowAt_of hr1)
  have hcv2 := stC_view hr2
  have hc42 := stC_map hr2
  have hcb2 := stC_board hr2
  have hlt2 : gb < w.heap.size := rowAt_lt (rowAt_of hr2)
  clear hr1 hr2
  go_enter Try.func25, Try.ntmps25
  go_wp2_with fail
  refine rg_begin 32 rfl (S := fun W => St _ _ W ([] : List Res)) (by kernel_rfl) (H.drew.sub sU) ?_
  replace H := H.drew
  have HS := H
  refine rg_take (i := 0) rfl kR kR kR (Yld.move rfl rfl) (H.sub sU) ?_; simp only [pS, pE]
  refine rg_take (i := 1) rfl kR kR kR (Yld.o rfl) (H.sub sU) ?_; simp only [pS]
  refine rg_take (i := 2) rfl kR kR kR (Yld.o rfl) (H.sub sU) ?_; simp only [pS]
  first | (refine rg_take (i := 3) rfl kR kR kR (Yld.ldr rfl rfl agg26 size26 rfl mR sZ) (H.sub sU) ?_; simp only [pS]) | (refine rg_take (i := 3) rfl kR kR kR (Yld.ldl rfl rfl agg26 size26 rfl mR (by simp)) (H.sub sU) ?_; simp only [pS]; simp only [List.drop_succ_cons, List.drop_zero, List.take_succ_cons, List.take_zero]) | (refine rg_take (i := 3) rfl kR kR kR (Yld.ldor rfl rfl agg26 size26 rfl (by assumption) sZ (by assumption)) (H.sub sU) ?_; simp only [pS])
  refine rg_take (i := 4) rfl kR kR kR (Yld.move rfl rfl) (H.sub sU) ?_; simp only [pS, pE]
  refine rg_take (i := 5) rfl kR kR kR (Yld.o rfl) (H.sub sU) ?_; simp only [pS]
  refine rg_take (i := 6) rfl kR kR kR (Yld.o rfl) (H.sub sU) ?_; simp only [pS]
  first | (refine rg_take (i := 7) rfl kR kR kR (Yld.ldr rfl rfl agg26 size26 rfl mR sZ) (H.sub sU) ?_; simp only [pS]) | (refine rg_take (i := 7) rfl kR kR kR (Yld.ldl rfl rfl agg26 size26 rfl mR (by simp)) (H.sub sU) ?_; simp only [pS]; simp only [List.drop_succ_cons, List.drop_zero, List.take_succ_cons, List.take_zero]) | (refine rg_take (i := 7) rfl kR kR kR (Yld.ldor rfl rfl agg26 size26 rfl (by assumption) sZ (by assumption)) (H.sub sU) ?_; simp only [pS])
  refine rg_one (i := 8) (by kernel_rfl) rfl rfl (fun K hK => ?_)
  refine wp_callf rfl ent67 (vsame_is x x _ _ _ _ _ _ _ _ _ _ _ _ _ true (hv1.grow H.below) (hv2.grow H.below) (vSame_iff.2 rfl)) rfl (fun v w1 hr => ?_)
  obtain ⟨rfl, hb1⟩ := hr
  replace H := H.grow hb1
  clear hb1
  clear HS
  have HS := H
  refine hK.out _ _ (H.sub sU) ?_
  clear hK K
  simp only [pS]
  refine rg_take (i := 9) rfl kR kR kR (Yld.move rfl rfl) (H.sub sU) ?_; simp only [pS, pE]
  refine rg_take (i := 10) rfl kR kR kR (Yld.move rfl rfl) (H.sub sU) ?_; simp only [pS, pE]
  refine rg_take (i := 11) rfl kR kR kR (Yld.o rfl) (H.sub sU) ?_; simp only [pS]
  refine rg_take (i := 12) rfl kR kR kR (Yld.o rfl) (H.sub sU) ?_; simp only [pS]
  first | (refine rg_take (i := 13) rfl kR kR kR (Yld.ldc rfl rfl agg114 rfl mR cE) (H.sub sU) ?_; simp only [pS]) | (refine rg_take (i := 13) rfl kR kR kR (Yld.ldo rfl rfl agg114 rfl (by assumption) (by assumption)) (H.sub sU) ?_; simp only [pS])
  refine rg_take (i := 14) rfl kR kR kR (Yld.move rfl rfl) (H.sub sU) ?_; simp only [pS, pE]
  refine rg_take (i := 15) rfl kR kR kR (Yld.o rfl) (H.sub sU) ?_; simp only [pS]
  refine rg_take (i := 16) rfl kR kR kR (Yld.o rfl) (H.sub sU) ?_; simp only [pS]
  first | (refine rg_take (i := 17) rfl kR kR kR (Yld.ldc rfl rfl agg114 rfl mR cE) (H.sub sU) ?_; simp only [pS]) | (refine rg_take (i := 17) rfl kR kR kR (Yld.ldo rfl rfl agg114 rfl (by assumption) (by assumption)) (H.sub sU) ?_; simp only [pS])
  refine rg_one (i := 18) (by kernel_rfl) rfl rfl (fun K hK => ?_)
  refine wp_callf rfl ent68 (mequal_ok gm1 gm2 M _ (hM1.grow H.below) (hM2.grow H.below)) rfl (fun v w1 hr => ?_)
  obtain ⟨rfl, hb1⟩ := hr
  replace H := H.grow hb1
  clear hb1
  clear HS
  have HS := H
  refine hK.out _ _ (H.sub sU) ?_
  clear hK K
  simp only [pS]
  refine rg_take (i := 19) rfl kR kR kR (Yld.pick rfl rfl rfl) (H.sub sU) ?_; simp only [pS, pE]
  refine rg_take (i := 20) rfl kR kR kR (Yld.move rfl rfl) (H.sub sU) ?_; simp only [pS, pE]
  refine rg_take (i := 21) rfl kR kR kR (Yld.move rfl rfl) (H.sub sU) ?_; simp only [pS, pE]
  refine rg_take (i := 22) rfl kR kR kR (Yld.o rfl) (H.sub sU) ?_; simp only [pS]
  refine rg_take (i := 23) rfl kR kR kR (Yld.o rfl) (H.sub sU) ?_; simp only [pS]
  first | (refine rg_take (i := 24) rfl kR kR kR (Yld.ldr rfl rfl agg46 size46 rfl mR sZ) (H.sub sU) ?_; simp only [pS]) | (refine rg_take (i := 24) rfl kR kR kR (Yld.ldl rfl rfl agg46 size46 rfl mR (by simp)) (H.sub sU) ?_; simp only [pS]; simp only [List.drop_succ_cons, List.drop_zero, List.take_succ_cons, List.take_zero]) | (refine rg_take (i := 24) rfl kR kR kR (Yld.ldor rfl rfl agg46 size46 rfl (by assumption) sZ (by assumption)) (H.sub sU) ?_; simp only [pS])
  refine rg_take (i := 25) rfl kR kR kR (Yld.move rfl rfl) (H.sub sU) ?_; simp only [pS, pE]
  refine rg_take (i := 26) rfl kR kR kR (Yld.o rfl) (H.sub sU) ?_; simp only [pS]
  refine rg_take (i := 27) rfl kR kR kR (Yld.o rfl) (H.sub sU) ?_; simp only [pS]
  first | (refine rg_take (i := 28) rfl kR kR kR (Yld.ldr rfl rfl agg46 size46 rfl mR sZ) (H.sub sU) ?_; simp only [pS]) | (refine rg_take (i := 28) rfl kR kR kR (Yld.ldl rfl rfl agg46 size46 rfl mR (by simp)) (H.sub sU) ?_; simp only [pS]; simp only [List.drop_succ_cons, List.drop_zero, List.take_succ_cons, List.take_zero]) | (refine rg_take (i := 28) rfl kR kR kR (Yld.ldor rfl rfl agg46 size46 rfl (by assumption) sZ (by assumption)) (H.sub sU) ?_; simp only [pS])
  refine rg_take (i := 29) rfl kR kR kR (Yld.eqB rfl rfl rfl rfl) (H.sub sU) ?_; simp only [pS, pE]
  refine rg_take (i := 30) rfl kR kR kR (Yld.pick rfl rfl rfl) (H.sub sU) ?_; simp only [pS, pE]
  refine rg_take (i := 31) rfl kR kR kR (Yld.assign rfl rfl) (H.sub sU) ?_; simp only [pS, pE]
  refine rg_done (by kernel_rfl) ?_
  go_wp2_with fail
  go_ret
  exact ⟨_, rfl, rfl, H.below⟩
end Go.Proofs.Ytjghcmejmdllbaa
