/- The statement FlatSums of layer 29 (flat): the law's walk; the bounds stand in it. -/
import Derived.Test.YtbepaafgcbgmfaaFz30
import Derived.Test.YtbepaafgcbgmfaaFzFl30
namespace Go.Proofs.Ytbepaafgcbgmfaa
open Go.ChangeShapes Go.WideShapes Go.ChangeAt Go.RowKit Go.Maps Go.Deep
set_option linter.unusedVariables false
set_option linter.unusedSimpArgs false
set_option linter.unusedSectionVars false
set_option maxRecDepth 100000
set_option maxHeartbeats 4000000
theorem eqg_SS : Try.prog.eqGuardType Try.prog.depth 52 = false := by kernel_rfl
theorem eqSS (a b c d e f : Int) (w : World) : (binOp .eql 52 (.agg #[.int .i64 a, .int .i64 b, .int .i64 c, .int .i64 d, .int .i64 e, .int .i64 f]) (.agg #[.int .i64 a, .int .i64 b, .int .i64 c, .int .i64 d, .int .i64 e, .int .i64 f])).run Try.prog w = .ok (.bool true) w := by
  have h2 : (Op.equal 52 (.agg #[.int .i64 a, .int .i64 b, .int .i64 c, .int .i64 d, .int .i64 e, .int .i64 f]) (.agg #[.int .i64 a, .int .i64 b, .int .i64 c, .int .i64 d, .int .i64 e, .int .i64 f])).run Try.prog w = .ok true w := by
    show (Op.equalIn 10000 52 _ _).run Try.prog w = _
    have hS : Try.prog.underlying 52 = some (.struct (Try.prog.fieldsOf 52)) := by kernel_rfl
    rw [show (10000 : Nat) = 9999 + 1 from rfl, run_equalIn_struct w 9999 52 _ _ hS (by kernel_rfl)]
    have u1 := Try.underlying3
    simp only [Program.fieldsOf, Try.underlying52]
    go_simp
  simp only [binOp]
  simp [h2, eqg_SS]
theorem Stp.eqlS {a : Act} {w : World} {o : Oper} {N : Act → World → Prop} {x y : Operand} {ls : List Lv} {m : Nat} (ho : o.op = .binOp .eql 52 x y 52) (hx : a.eval x = sumV ls m) (hy : a.eval y = sumV ls m) (h : N (a.put o.dst (.bool true)) w) : Stp Try.prog o a w N := by
  refine ⟨w, .inl ⟨_, ?_, h⟩⟩
  unfold execOp; simp only [ho, hx, hy]
  unfold sumV
  simp [eqSS, eqGuard, eqg_SS]
attribute [local irreducible] gF sumV ordH tellL staysH checkP
theorem law_fsums (ls : List Lv) (la : Option Addr) (lc : Nat) (sn : List Sn) (sa : Option Addr) (sc : Nat) (id : Nat) (w : World) (hlc : ls.length ≤ lc) (hsc : sn.length ≤ sc) (hl : Sl w 3 ls.length (.slice la ls.length lc) (elL ls)) (hlw : ∀ x ∈ ls, LvO w x) (hs : Sl w 6 sn.length (.slice sa sn.length sc) (elN sn)) (hsw : ∀ x ∈ sn, SnW w x) :
    Calls Try.prog 7 #[.slice la ls.length lc, .slice sa sn.length sc, .int .u64 (id : Int)] w (Ret fun v w' => v = .bool true ∧ Below w.heap.size w w') := by
  have H := St.init w
  have HLW := Lib.hid hlw
  have HSW := Lib.hid hsw
  obtain ⟨n, hn⟩ : ∃ n, ls.length = n := ⟨_, rfl⟩
  obtain ⟨m, hm⟩ : ∃ m, sn.length = m := ⟨_, rfl⟩
  have HN := Lib.hid hn
  have HM := Lib.hid hm
  obtain ⟨e, he⟩ : ∃ e, gF ls m = e := ⟨_, rfl⟩
  have HG := Lib.hid he
  rw [hn] at hl hlc ⊢
  rw [hm] at hs hsc ⊢
  obtain ⟨_, _, _, hmm, _⟩ := (show ∃ a c, _ from hs)
  unfold maxLen at hmm
  clear hlw hsw
  cases e
  case true =>
    clear he hn hm
    go_enter Try.func7, Try.ntmps7
    go_wp2_with (first | (go_at_call 9; (with_reducible refine (great29_is ls la lc n HN.out sa sc m hmm _ HG.out _ (hl.grow H.below) (fun x hx => (HLW.out x hx).grow H.below)).mono ?_); rintro e w1 ⟨v, rfl, hr⟩; obtain ⟨rfl, hb1⟩ := hr; replace H := H.grow hb1; clear hb1) | (go_at_call 10; (with_reducible refine (aw29_ok _).mono ?_); rintro e w1 ⟨v, rfl, hr⟩; obtain ⟨rfl, hb1⟩ := hr; replace H := H.grow hb1; clear hb1))
    go_ret
    exact ⟨_, rfl, rfl, H.below⟩
  have hgo := gF_out he
  rw [hn] at hgo
  obtain ⟨hn12, hm60, hgx⟩ := hgo
  have hnb : n ≤ 1000 := by omega
  have hnB : n ≤ 1000000 := by omega
  have hmB : m ≤ 1000000 := by omega
  have HLE : Hid (∀ x ∈ ls, x.l.length ≤ 1000) := Lib.hid (fun x hx => by have := (hgx x hx).1; omega)
  have HLV : Hid (∀ x ∈ ls, LvW w x) := Lib.hid (fun x hx => (HLW.out x hx).w (hgx x hx).1 (hgx x hx).2)
  have HEV : Hid (∀ e ∈ ordH id (tellL ls), EvG w e) := Lib.hid (ord_ev (fun x hx => (HLW.out x hx).ev))
  have HWF : Hid (∀ e ∈ ordH id (tellL ls), wfE e) := Lib.hid (ord_wf (fun x hx => (HLW.out x hx).wf))
  clear he hn hm hgx
  go_enter Try.func7, Try.ntmps7
  go_wp2_with (first | (go_at_call 9; (with_reducible refine (great29_is ls la lc n HN.out sa sc m hmm _ HG.out _ (hl.grow H.below) (fun x hx => (HLW.out x hx).grow H.below)).mono ?_); rintro e w1 ⟨v, rfl, hr⟩; obtain ⟨rfl, hb1⟩ := hr; replace H := H.grow hb1; clear hb1) | (go_at_call 19; (with_reducible refine (sum_ok ls la lc n sa sc m HN.out hnb hmm _ (hl.grow H.below) (fun x hx => (HLW.out x hx).grow H.below) HLE.out).mono ?_); rintro e w1 ⟨v, rfl, hr⟩; obtain ⟨rfl, hb1⟩ := hr; replace H := H.grow hb1; clear hb1) | (go_at_call 20; (with_reducible refine (rsum_ok ls la lc n sa sc m HN.out hnb hmm _ (hl.grow H.below) (fun x hx => (HLW.out x hx).grow H.below) HLE.out).mono ?_); rintro e w1 ⟨v, rfl, hr⟩; obtain ⟨rfl, hb1⟩ := hr; replace H := H.grow hb1; clear hb1) | (with_reducible refine wpl rfl (dQ 17 rfl ?_); with_reducible refine (Stp.eqlS rfl rfl rfl ?_); simp only [pS]) | (go_at_call 18; (with_reducible refine (order_ok29 ls la lc n id HN.out hnb _ (hl.grow H.below) (fun x hx => (HLW.out x hx).grow H.below) HLE.out).mono ?_); rintro e w1 ⟨v, rfl, hr⟩; obtain ⟨⟨oa, oc, A, rfl, hA, hin⟩, hb1⟩ := hr; replace H := H.grow hb1; have HA := Lib.hid hA; have HIN := Lib.hid hin; clear hb1 hA hin) | (go_at_call 21; (with_reducible refine (rorder_ok ls la lc n id HN.out hnb _ (hl.grow H.below) (fun x hx => (HLW.out x hx).grow H.below) HLE.out).mono ?_); rintro e w1 ⟨v, rfl, hr⟩; obtain ⟨⟨ra, rc, A2, rfl, hA2, hin⟩, hb1⟩ := hr; replace H := H.grow hb1; replace HIN := Lib.hid (HIN.out.grow hb1); have HIN2 := Lib.hid hin; obtain rfl : A = A2 := HA.out.symm.trans hA2; clear hb1 hA2 hin) | (go_at_call 13; (with_reducible refine (rsevs_is oa ra oc rc (ordH id (tellL ls)) (ordH id (tellL ls)) HA.out HA.out true (decide_eq_true rfl) _ (HIN.out.slE HA.out) (HIN2.out.slE HA.out) (fun e he => (HEV.out e he).grow H.below) (fun e he => (HEV.out e he).grow H.below) HWF.out HWF.out).mono ?_); rintro e w1 ⟨v, rfl, hr⟩; obtain ⟨rfl, hb1⟩ := hr; replace H := H.grow hb1; clear hb1) | (go_at_call 10; (with_reducible refine (aw29_ok _).mono ?_); rintro e w1 ⟨v, rfl, hr⟩; obtain ⟨rfl, hb1⟩ := hr; replace H := H.grow hb1; clear hb1))
  go_ret
  exact ⟨_, rfl, rfl, H.below⟩
set_option maxRecDepth 100000 in
theorem flatSums_lifted (os : Os) (started : os.Started) (H : Type) (enc : TypeId × Value → H) :
    ReturnsInHanded {} Try.checked os 7 .any (Rows.flatSumsSpec.pre6 enc Try.prog Try.f7 Rows.flatSumsRow.domain false) (Rows.flatSumsSpec.post enc Try.prog Try.f7 false true false false) := by
  refine law_lifted (C := Try.checked) own started (by kernel_rfl) Try.func7 laidOut rfl Try.underlying4 rfl (by kernel_rfl) (fun ds hd => ?_)
    (ChangeSpec.witness6 (enc := enc) (C := Try.checked) false ⟨#[], #[.slice none 0 0, .slice none 0 0, .int .u64 0], []⟩ 8 (by kernel_rfl) (by kernel_rfl) (by kernel_rfl) (by kernel_rfl)) ?_
  · match ds, hd with
    | [d0, d1, d2], _ => exact ⟨rfl, rfl, rfl⟩
  intro W base args ds p hval hA
  rw [Try.params7] at hA hval
  obtain ⟨v0, vs0, d0, ds0, p0, q0, hargs, rfl, rfl, h0, r0⟩ := trodAll_cons hA
  obtain ⟨v1, vs1, d1, ds1, p1, q1, rfl, rfl, rfl, h1, r1⟩ := trodAll_cons r0
  obtain ⟨v2, vs2, d2, ds2, p2, q2, rfl, rfl, rfl, h2, r2⟩ := trodAll_cons r1
  obtain ⟨rfl, rfl, rfl⟩ := trodAll_nil r2
  obtain rfl : args = #[v0, v1, v2] := by cases args; simp_all
  obtain ⟨l0, a0, c0, rfl, hc0, hs0, hw0⟩ := open_ls (hval 0 30 v0 rfl rfl) h0
  obtain ⟨l1, a1, c1, rfl, hc1, hs1, hw1⟩ := open_sns (hval 1 44 v1 rfl rfl) h1
  obtain ⟨n2, rfl, hn2⟩ := open_u64 (hval 2 37 v2 rfl rfl) h2
  exact law_fsums l0 a0 c0 l1 a1 c1 n2 W hc0 hc1 hs0 hw0 hs1 hw1
theorem flatSums_over : Rows.flatSumsRow.holds Try.pinned (OpenSpec.ofChange Rows.flatSumsSpec) :=
  OpenClaim.holds_of_wide 7 Try.f7 rfl rfl rfl rfl rfl rfl rfl ⟨rfl, rfl, rfl, rfl, rfl⟩ rfl rfl rfl rfl rfl (by kernel_rfl) Try.func7 (by kernel_rfl)
    (of_decide_eq_true (by kernel_rfl)) (by unfold Func.isWrapper; first | (rw [if_pos (by decide +kernel)]; kernel_rfl) | (rw [if_neg (by decide +kernel)]; exact ⟨rfl, rfl⟩))
    (fun os started H enc _ => flatSums_lifted os started H enc)
theorem flatSums_holds : Rows.FlatSumsSaid := flatSums_over
#print axioms flatSums_holds
end Go.Proofs.Ytbepaafgcbgmfaa
