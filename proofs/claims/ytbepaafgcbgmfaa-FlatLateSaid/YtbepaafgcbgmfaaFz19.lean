/- Layer 29 (flat): where the first event stands at which somebody is excluded; the rule of order (order); no condition. Layer 29 (flat): the rule of order (order); no condition. -/
import Derived.Test.YtbepaafgcbgmfaaFz17
namespace Go.Proofs.Ytbepaafgcbgmfaa
open Go.ChangeShapes Go.WideShapes Go.ChangeAt Go.RowKit Go.Maps Go.Deep
set_option linter.unusedVariables false
set_option linter.unusedSimpArgs false
set_option linter.unusedSectionVars false
set_option maxRecDepth 100000
set_option maxHeartbeats 8000000
theorem order1_ok (V : Ev) (h : Hd) (r : Bool) (hr : decide (V.kd = 4) = r) (w : World) :
    Calls Try.prog 52 #[.agg #[.int .i64 V.kd, .int .u64 (V.x.id : Int), .slice h.ma V.x.mem.length h.mc, .slice h.la V.x.lvs.length h.lc, .slice h.da V.x.ldr.length h.dc, .int .u16 (V.p.1 : Int), .int .u32 (V.p.2 : Int), .int .u64 (V.n : Int), .slice h.ba V.data.length h.bc]] w (Ret fun v w' => v = .bool r ∧ Below w.heap.size w w') := by
  have H := St.init w
  by_cases hk : V.kd = 4
  · have hki : (V.kd == 4) = true := by simpa using hk
    rw [decide_eq_true hk] at hr
    subst hr
    clear hk
    go_enter Try.func52, Try.ntmps52
    go_wp2_with (first | (with_reducible refine wpl rfl (dQ 1 rfl ?_); with_reducible refine (Stp.box 1 rfl rfl rfl H ?_); clear H; intro g1 w1 H; simp only [pS]; simp only [pE, nC, pS] at H) | (with_reducible refine wpl rfl (ldQ (ty := 3) rfl ?_); first | (with_reducible refine (Stp.ldo rfl agg3 rfl H (by assumption) (by assumption) ?_); simp only [pS]) | (with_reducible refine (Stp.ldc rfl agg3 rfl H mR cE ?_); simp only [pS])))
    go_ret
    exact ⟨_, rfl, rfl, H.below⟩
  · have hki : (V.kd == 4) = false := by simpa using hk
    rw [decide_eq_false hk] at hr
    subst hr
    clear hk
    go_enter Try.func52, Try.ntmps52
    go_wp2_with (first | (with_reducible refine wpl rfl (dQ 1 rfl ?_); with_reducible refine (Stp.box 1 rfl rfl rfl H ?_); clear H; intro g1 w1 H; simp only [pS]; simp only [pE, nC, pS] at H) | (with_reducible refine wpl rfl (ldQ (ty := 3) rfl ?_); first | (with_reducible refine (Stp.ldo rfl agg3 rfl H (by assumption) (by assumption) ?_); simp only [pS]) | (with_reducible refine (Stp.ldc rfl agg3 rfl H mR cE ?_); simp only [pS])))
    go_ret
    exact ⟨_, rfl, rfl, H.below⟩
/-- Where the first exclusion stands. -/
def exAt (l : List Eh) : Int := fidx (fun e => decide (e.1.kd = 4)) l
theorem exat_ok (va : Option Addr) (n vc : Nat) (l : List Eh) (hn : l.length = n) (z : Int) (hz : exAt l = z) (w : World) (hs : Sl w 9 n (.slice va n vc) (elE l)) :
    Calls Try.prog 51 #[.slice va n vc, .func (.func 52) #[] #[]] w (Ret fun v w' => v = .int .i64 z ∧ Below w.heap.size w w') := by
  have H := St.init w
  have HN := Lib.hid hn
  have HZ := Lib.hid hz
  have hmx : n ≤ 9223372036854775807 := by obtain ⟨_, _, _, h, _⟩ := hs; exact h
  clear hn hz
  go_enter Try.func51, Try.ntmps51
  go_wp2_with (first | (with_reducible refine wpl rfl (ldQ (ty := 62) rfl ?_); first | (with_reducible refine (Stp.ldor rfl agg62 size62 rfl H (by assumption) sZ (by assumption) ?_); simp only [pS]) | (with_reducible refine (Stp.ldr rfl agg62 size62 rfl H mR sZ ?_); simp only [pS]) | (with_reducible refine (Stp.ldl rfl agg62 size62 rfl H mR (by simp) ?_); simp only [pS]; simp only [List.drop_succ_cons, List.drop_zero, List.take_succ_cons, List.take_zero])))
  go_loopw [8] (fun i wr => ∃ q : Nat, q ≤ n ∧ i = .int .i64 q ∧ Hid ((l.take q).any (fun e => decide (e.1.kd = 4)) = false) ∧ St w.heap.size w wr []) (fun i _ => n - (intOf i).toNat)
  case atStart => exact ⟨0, Nat.zero_le _, rfl, Lib.hid (by simp), H⟩
  case round =>
    clear H
    obtain ⟨q, hq, rfl, HT, H⟩ := hrel
    by_cases hlt2 : q < n
    · have hl1 : q < l.length := by rw [HN.out]; exact hlt2
      obtain ⟨b1, o1, rfl, hb1⟩ := hs.addr (by omega)
      have hc1 := hs.cell hlt2
      rw [elE_at hl1] at hc1
      have HTk := Lib.hid (List.take_succ_eq_append_getElem hl1)
      have HAT := Lib.hid (fun h => fidx_at (p := fun (e : Eh) => decide (e.1.kd = 4)) hl1 HT.out h)
      obtain ⟨x, hx⟩ : ∃ x, l[q] = x := ⟨_, rfl⟩
      rw [hx] at hc1 HTk HAT
      have qli : (q : Int) < (n : Int) := by omega
      obtain ⟨ee, hee⟩ : ∃ ee, decide (x.1.kd = 4) = ee := ⟨_, rfl⟩
      have HE := Lib.hid hee
      clear hee hx hl1
      cases ee
      · have HV : Hid ((l.take (q + 1)).any (fun e => decide (e.1.kd = 4)) = false) := Lib.hid (by rw [HTk.out, List.any_append, HT.out]; simp only [List.any_cons, List.any_nil, Bool.or_false, Bool.false_or]; exact HE.out)
        go_wp2_with (first | (go_at_call 52; (with_reducible refine (order1_ok x.1 x.2 _ HE.out _).mono ?_); rintro e w1 ⟨v, rfl, hr⟩; obtain ⟨rfl, hb1⟩ := hr; replace H := H.grow hb1; clear hb1) | (with_reducible refine wpl rfl (ldQ (ty := 62) rfl ?_); first | (with_reducible refine (Stp.ldor rfl agg62 size62 rfl H (by assumption) sZ (by assumption) ?_); simp only [pS]) | (with_reducible refine (Stp.ldr rfl agg62 size62 rfl H mR sZ ?_); simp only [pS]) | (with_reducible refine (Stp.ldl rfl agg62 size62 rfl H mR (by simp) ?_); simp only [pS]; simp only [List.drop_succ_cons, List.drop_zero, List.take_succ_cons, List.take_zero])))
        go_roundw
        case rel => exact ⟨q + 1, by omega, by go_num, HV, H.sub sU⟩
        case measure => simp [intOf]; omega
      · have HV : Hid (z = (q : Int)) := Lib.hid (by rw [← HZ.out]; exact HAT.out HE.out)
        go_wp2_with (first | (go_at_call 52; (with_reducible refine (order1_ok x.1 x.2 _ HE.out _).mono ?_); rintro e w1 ⟨v, rfl, hr⟩; obtain ⟨rfl, hb1⟩ := hr; replace H := H.grow hb1; clear hb1) | (with_reducible refine wpl rfl (ldQ (ty := 62) rfl ?_); first | (with_reducible refine (Stp.ldor rfl agg62 size62 rfl H (by assumption) sZ (by assumption) ?_); simp only [pS]) | (with_reducible refine (Stp.ldr rfl agg62 size62 rfl H mR sZ ?_); simp only [pS]) | (with_reducible refine (Stp.ldl rfl agg62 size62 rfl H mR (by simp) ?_); simp only [pS]; simp only [List.drop_succ_cons, List.drop_zero, List.take_succ_cons, List.take_zero])))
        go_ret
        exact ⟨_, rfl, by rw [HV.out]; rfl, H.below⟩
    · obtain rfl : q = n := by omega
      have HV : Hid (z = -1) := Lib.hid (by
        have := HT.out
        rw [List.take_of_length_le (by rw [HN.out]; omega)] at this
        rw [← HZ.out]; exact fidx_no this)
      go_wp2_with (first | (with_reducible refine wpl rfl (ldQ (ty := 62) rfl ?_); first | (with_reducible refine (Stp.ldor rfl agg62 size62 rfl H (by assumption) sZ (by assumption) ?_); simp only [pS]) | (with_reducible refine (Stp.ldr rfl agg62 size62 rfl H mR sZ ?_); simp only [pS]) | (with_reducible refine (Stp.ldl rfl agg62 size62 rfl H mR (by simp) ?_); simp only [pS]; simp only [List.drop_succ_cons, List.drop_zero, List.take_succ_cons, List.take_zero])))
      go_ret
      exact ⟨_, rfl, by rw [HV.out]; rfl, H.below⟩
end Go.Proofs.Ytbepaafgcbgmfaa

namespace Go.Proofs.Ytbepaafgcbgmfaa
open Go.ChangeShapes Go.WideShapes Go.ChangeAt Go.RowKit Go.Maps Go.Deep
set_option linter.unusedVariables false
set_option linter.unusedSimpArgs false
set_option linter.unusedSectionVars false
set_option maxRecDepth 100000
set_option maxHeartbeats 8000000
abbrev evB (b : Bool) : Value := .bool b
theorem mzB : ∀ W : World, (zeroValue 4).run Try.prog W = .ok (.bool false) W := fun _ => by kernel_rfl
/-- What is asked of one life. -/
def ordX (l : List Eh) : Bool := (decide (l.length = 0) || decide ((l.headD eh0).1.kd = 1)) && !(decide (0 ≤ exAt l) && decide (exAt l < (l.length : Int) - 1))
def ordD (ls : List Lv) : Bool := allN (fun i (x : Lv) => !(decide (x.p ∈ (ls.take i).map (·.p))) && ordX x.l) 0 ls
attribute [local irreducible] exAt
theorem order_ok (gc : Nat) (D : Ck) (r : Bool) (hr : ordD D.ls = r) (w : World) (hD : CkW w gc D) :
    Calls Try.prog 36 #[.pointer (some ⟨gc, 0, none⟩)] w (Ret fun v w' => v = .bool r ∧ Below w.heap.size w w') := by
  have H := St.init w
  have hc0 : w.cell? ⟨gc, 0, none⟩ = some (.slice D.la D.ls.length D.lc) := hD.c 0 (by omega)
  have hlt := hD.lt
  have hb := hD.l
  have HLW := Lib.hid hD.lw
  obtain ⟨ls, hls⟩ : ∃ l, D.ls = l := ⟨_, rfl⟩
  rw [hls] at hb hc0 HLW hr
  obtain ⟨n, hn⟩ : ∃ n, ls.length = n := ⟨_, rfl⟩
  obtain ⟨ba, hba⟩ : ∃ a, D.la = a := ⟨_, rfl⟩
  have HN := Lib.hid hn
  have HR := Lib.hid hr
  have hmx : n ≤ 9223372036854775807 := by obtain ⟨_, _, _, h, _⟩ := hb; rw [hn] at h; exact h
  rw [hn, hba] at hb hc0
  clear hn hba hr hD hls
  go_enter Try.func36, Try.ntmps36
  go_wp2_with (first | (with_reducible refine wpl rfl (Stp.mkmap 27 ekP evB 7 rfl rfl H ?_); clear H; intro g7 w1 H; simp only [pS]) | (with_reducible refine wpl rfl (ldQ (ty := 30) rfl ?_); first | (with_reducible refine (Stp.ldo rfl agg30 rfl H (by assumption) (by assumption) ?_); simp only [pS]) | (with_reducible refine (Stp.ldc rfl agg30 rfl H mR cE ?_); simp only [pS])) | (with_reducible refine wpl rfl (ldQ (ty := 29) rfl ?_); first | (with_reducible refine (Stp.ldor rfl agg29 size29 rfl H (by assumption) sZ (by assumption) ?_); simp only [pS]) | (with_reducible refine (Stp.ldr rfl agg29 size29 rfl H mR sZ ?_); simp only [pS]) | (with_reducible refine (Stp.ldl rfl agg29 size29 rfl H mR (by simp) ?_); simp only [pS]; simp only [List.drop_succ_cons, List.drop_zero, List.take_succ_cons, List.take_zero])) | (with_reducible refine wpl rfl (dQ 5 rfl ?_); with_reducible refine (Stp.alloc 5 rfl rfl zero29 H ?_); clear H; intro g5 w1 H; simp only [pS]; simp only [nC] at H) | (with_reducible refine wpl rfl (stQ (ty := 29) rfl ?_); first | (with_reducible refine (Stp.str rfl size29 rfl rfl (by first | rfl | (simp [Value.oneCell']; done) | assumption) H uP sZ sZ ?_); clear H; intro w1 H; simp only [pS]) | (with_reducible refine (Stp.stl rfl size29 rfl rfl rfl rfl H uP (by simp) ?_); clear H; intro w1 H; simp only [pS]; simp only [List.drop_succ_cons, List.drop_zero, List.take_succ_cons, List.take_zero, List.nil_append, List.cons_append, Nat.reduceAdd] at H)) | (with_reducible refine wpl rfl (ldQ (ty := 27) rfl ?_); first | (with_reducible refine (Stp.ldor rfl agg27 size27 rfl H (by assumption) sZ (by assumption) ?_); simp only [pS]) | (with_reducible refine (Stp.ldr rfl agg27 size27 rfl H mR sZ ?_); simp only [pS]) | (with_reducible refine (Stp.ldl rfl agg27 size27 rfl H mR (by simp) ?_); simp only [pS]; simp only [List.drop_succ_cons, List.drop_zero, List.take_succ_cons, List.take_zero])) | (with_reducible refine wpl rfl (ldQ (ty := 22) rfl ?_); first | (with_reducible refine (Stp.ldo rfl agg22 rfl H (by assumption) (by assumption) ?_); simp only [pS]) | (with_reducible refine (Stp.ldc rfl agg22 rfl H mR cE ?_); simp only [pS])) | (with_reducible refine wpl rfl (ldQ (ty := 3) rfl ?_); first | (with_reducible refine (Stp.ldo rfl agg3 rfl H (by assumption) (by assumption) ?_); simp only [pS]) | (with_reducible refine (Stp.ldc rfl agg3 rfl H mR cE ?_); simp only [pS])))
  go_loopw [13] (fun i wr => ∃ (q : Nat) (M : List (Pr × Bool)), q ≤ n ∧ i = .int .i64 q ∧ Hid (∀ p, (mget M p).getD false = decide (p ∈ (ls.take q).map (·.p))) ∧ Hid (allN (fun i (x : Lv) => !(decide (x.p ∈ (ls.take i).map (·.p))) && ordX x.l) 0 (ls.take q) = true) ∧ St w.heap.size w wr [mapr Try.prog 27 ekP evB g7 M]) (fun i _ => n - (intOf i).toNat)
  case atStart => exact ⟨0, [], Nat.zero_le _, rfl, Lib.hid (fun p => by rw [List.take_zero]; rfl), Lib.hid (by rw [List.take_zero]; rfl), H⟩
  case round =>
    clear H
    obtain ⟨q, M, hq, rfl, HM, HT, H⟩ := hrel
    by_cases hlt2 : q < n
    · have hl1 : q < ls.length := by rw [HN.out]; exact hlt2
      obtain ⟨bL, oL, rfl, hbL⟩ := hb.addr (by omega)
      have hc1 := hb.cell hlt2
      rw [elL_at hl1] at hc1
      have hme := List.getElem_mem hl1
      have HTk := Lib.hid (List.take_succ_eq_append_getElem hl1)
      obtain ⟨⟨p, el, xa, xc⟩, hx⟩ : ∃ x, ls[q] = x := ⟨_, rfl⟩
      rw [hx] at hc1 hme HTk
      obtain ⟨hw1, hw2, hw3, hw4, hw5, _, _, _⟩ := HLW.out _ hme
      simp only at hc1 hw1 hw3 hw4 hw5
      obtain ⟨ln, hln⟩ : ∃ n, el.length = n := ⟨_, rfl⟩
      have HXN := Lib.hid hln
      rw [hln] at hc1 hw1 hw3
      have HXL := Lib.hid hw1
      obtain ⟨kl, hkl⟩ := keyP p hw4 hw5
      have HKY := Lib.hid hkl
      obtain ⟨z, hz⟩ : ∃ z, exAt el = z := ⟨_, rfl⟩
      have HZX := Lib.hid hz
      obtain ⟨b0, hb0⟩ : ∃ b, decide (p ∈ (ls.take q).map (·.p)) = b := ⟨_, rfl⟩
      have HZ : Hid (((mget M p).map evB).getD (.bool false) = .bool b0) := Lib.hid (by
        have := HM.out p
        rw [hb0] at this
        cases hm : mget M p with
        | none => rw [hm] at this; subst this; rfl
        | some u => rw [hm] at this; subst this; rfl)
      have HM2 : Hid (∀ p', (mget (mput M p true) p').getD false = decide (p' ∈ (ls.take (q + 1)).map (·.p))) := Lib.hid (fun p' => by
        rw [HTk.out, mget_put, List.map_append]
        by_cases hp : p' = p
        · subst hp; rw [if_pos rfl]; simp
        · rw [if_neg hp, HM.out p']
          rw [decide_eq_decide]; simp [hp])
      have HQ : Hid (allN (fun i (x : Lv) => !(decide (x.p ∈ (ls.take i).map (·.p))) && ordX x.l) 0 (ls.take (q + 1)) = (!b0 && ordX el)) := Lib.hid (by
        rw [HTk.out, allN_snoc, HT.out, List.length_take, HN.out, Nat.min_eq_left (by omega), Nat.zero_add, Bool.true_and]
        simp only [hb0])
      have HBAD : Hid ((!b0 && ordX el) = false → r = false) := Lib.hid (fun h => by
        rw [← HR.out]; exact allN_take _ _ _ (q + 1) (by rw [HQ.out]; exact h))
      have qli : (q : Int) < (n : Int) := by omega
      clear hx hme hl1 hkl hb0
      cases b0
      case true =>
        have HV : Hid (r = false) := Lib.hid (HBAD.out rfl)
        clear hln hz
        go_wp2_with (first | (with_reducible refine wpl rfl (Stp.look (k := 27) (e := 4) (ek := ekP) (ev := evB) (M := M) (q := p) rfl keyedP ekP_inj Try.underlying91 mzB rfl rfl HKY.out H mE ?_); rw [HZ.out]; simp only [pS]) | (with_reducible refine wpl rfl (Stp.mapup (k := 27) (e := 4) (ek := ekP) (ev := evB) (M := M) (q := p) (v := true) rfl keyedP ekP_inj Try.underlying91 rfl rfl rfl HKY.out H uP ?_); clear H; intro w1 H; simp only [pS]) | (go_at_call 51; (with_reducible refine (exat_ok _ _ _ el HXN.out z HZX.out _ (HXL.out.grow H.below)).mono ?_); rintro e w1 ⟨v, rfl, hr⟩; obtain ⟨rfl, hb1⟩ := hr; replace H := H.grow hb1; clear hb1) | (with_reducible refine wpl rfl (ldQ (ty := 30) rfl ?_); first | (with_reducible refine (Stp.ldo rfl agg30 rfl H (by assumption) (by assumption) ?_); simp only [pS]) | (with_reducible refine (Stp.ldc rfl agg30 rfl H mR cE ?_); simp only [pS])) | (with_reducible refine wpl rfl (ldQ (ty := 29) rfl ?_); first | (with_reducible refine (Stp.ldor rfl agg29 size29 rfl H (by assumption) sZ (by assumption) ?_); simp only [pS]) | (with_reducible refine (Stp.ldr rfl agg29 size29 rfl H mR sZ ?_); simp only [pS]) | (with_reducible refine (Stp.ldl rfl agg29 size29 rfl H mR (by simp) ?_); simp only [pS]; simp only [List.drop_succ_cons, List.drop_zero, List.take_succ_cons, List.take_zero])) | (with_reducible refine wpl rfl (dQ 5 rfl ?_); with_reducible refine (Stp.alloc 5 rfl rfl zero29 H ?_); clear H; intro g5 w1 H; simp only [pS]; simp only [nC] at H) | (with_reducible refine wpl rfl (stQ (ty := 29) rfl ?_); first | (with_reducible refine (Stp.str rfl size29 rfl rfl (by first | rfl | (simp [Value.oneCell']; done) | assumption) H uP sZ sZ ?_); clear H; intro w1 H; simp only [pS]) | (with_reducible refine (Stp.stl rfl size29 rfl rfl rfl rfl H uP (by simp) ?_); clear H; intro w1 H; simp only [pS]; simp only [List.drop_succ_cons, List.drop_zero, List.take_succ_cons, List.take_zero, List.nil_append, List.cons_append, Nat.reduceAdd] at H)) | (with_reducible refine wpl rfl (ldQ (ty := 27) rfl ?_); first | (with_reducible refine (Stp.ldor rfl agg27 size27 rfl H (by assumption) sZ (by assumption) ?_); simp only [pS]) | (with_reducible refine (Stp.ldr rfl agg27 size27 rfl H mR sZ ?_); simp only [pS]) | (with_reducible refine (Stp.ldl rfl agg27 size27 rfl H mR (by simp) ?_); simp only [pS]; simp only [List.drop_succ_cons, List.drop_zero, List.take_succ_cons, List.take_zero])) | (with_reducible refine wpl rfl (ldQ (ty := 22) rfl ?_); first | (with_reducible refine (Stp.ldo rfl agg22 rfl H (by assumption) (by assumption) ?_); simp only [pS]) | (with_reducible refine (Stp.ldc rfl agg22 rfl H mR cE ?_); simp only [pS])) | (with_reducible refine wpl rfl (ldQ (ty := 3) rfl ?_); first | (with_reducible refine (Stp.ldo rfl agg3 rfl H (by assumption) (by assumption) ?_); simp only [pS]) | (with_reducible refine (Stp.ldc rfl agg3 rfl H mR cE ?_); simp only [pS])))
        go_ret
        exact ⟨_, rfl, by rw [HV.out]; rfl, H.below⟩
      by_cases hl0 : 0 < ln
      · have hl0i : (0 : Int) < (ln : Int) := by omega
        obtain ⟨bx, ox, rfl, hbx⟩ := hw1.addr hl0
        have hk0 : w.cell? ⟨bx, ox, none⟩ = some (.int .i64 (el.headD eh0).1.kd) := by
          have := hw1.cell hl0 0 (by omega)
          simp only [Nat.zero_mul, Nat.add_zero] at this
          rw [this]
          cases el with
          | nil => simp at hln; omega
          | cons e r => rfl
        have hne : el.length ≠ 0 := by omega
        obtain ⟨kd, hkd⟩ : ∃ d, (el.headD eh0).1.kd = d := ⟨_, rfl⟩
        rw [hkd] at hk0
        by_cases hk1 : kd = 1
        · have hki : (kd != 1) = false := by simp [hk1]
          have HO : Hid (ordX el = !(decide (0 ≤ z) && decide (z < (ln : Int) - 1))) := Lib.hid (by
            unfold ordX
            rw [hkd, hz, hln, decide_eq_true hk1]; simp)
          clear hkd hne hln hz hk1
          by_cases hz0 : 0 ≤ z
          · by_cases hz1 : z < (ln : Int) - 1
            · have HV : Hid (r = false) := Lib.hid (HBAD.out (by rw [HO.out, decide_eq_true hz0, decide_eq_true hz1]; rfl))
              go_wp2_with (first | (with_reducible refine wpl rfl (Stp.look (k := 27) (e := 4) (ek := ekP) (ev := evB) (M := M) (q := p) rfl keyedP ekP_inj Try.underlying91 mzB rfl rfl HKY.out H mE ?_); rw [HZ.out]; simp only [pS]) | (with_reducible refine wpl rfl (Stp.mapup (k := 27) (e := 4) (ek := ekP) (ev := evB) (M := M) (q := p) (v := true) rfl keyedP ekP_inj Try.underlying91 rfl rfl rfl HKY.out H uP ?_); clear H; intro w1 H; simp only [pS]) | (go_at_call 51; (with_reducible refine (exat_ok _ _ _ el HXN.out z HZX.out _ (HXL.out.grow H.below)).mono ?_); rintro e w1 ⟨v, rfl, hr⟩; obtain ⟨rfl, hb1⟩ := hr; replace H := H.grow hb1; clear hb1) | (with_reducible refine wpl rfl (ldQ (ty := 30) rfl ?_); first | (with_reducible refine (Stp.ldo rfl agg30 rfl H (by assumption) (by assumption) ?_); simp only [pS]) | (with_reducible refine (Stp.ldc rfl agg30 rfl H mR cE ?_); simp only [pS])) | (with_reducible refine wpl rfl (ldQ (ty := 29) rfl ?_); first | (with_reducible refine (Stp.ldor rfl agg29 size29 rfl H (by assumption) sZ (by assumption) ?_); simp only [pS]) | (with_reducible refine (Stp.ldr rfl agg29 size29 rfl H mR sZ ?_); simp only [pS]) | (with_reducible refine (Stp.ldl rfl agg29 size29 rfl H mR (by simp) ?_); simp only [pS]; simp only [List.drop_succ_cons, List.drop_zero, List.take_succ_cons, List.take_zero])) | (with_reducible refine wpl rfl (dQ 5 rfl ?_); with_reducible refine (Stp.alloc 5 rfl rfl zero29 H ?_); clear H; intro g5 w1 H; simp only [pS]; simp only [nC] at H) | (with_reducible refine wpl rfl (stQ (ty := 29) rfl ?_); first | (with_reducible refine (Stp.str rfl size29 rfl rfl (by first | rfl | (simp [Value.oneCell']; done) | assumption) H uP sZ sZ ?_); clear H; intro w1 H; simp only [pS]) | (with_reducible refine (Stp.stl rfl size29 rfl rfl rfl rfl H uP (by simp) ?_); clear H; intro w1 H; simp only [pS]; simp only [List.drop_succ_cons, List.drop_zero, List.take_succ_cons, List.take_zero, List.nil_append, List.cons_append, Nat.reduceAdd] at H)) | (with_reducible refine wpl rfl (ldQ (ty := 27) rfl ?_); first | (with_reducible refine (Stp.ldor rfl agg27 size27 rfl H (by assumption) sZ (by assumption) ?_); simp only [pS]) | (with_reducible refine (Stp.ldr rfl agg27 size27 rfl H mR sZ ?_); simp only [pS]) | (with_reducible refine (Stp.ldl rfl agg27 size27 rfl H mR (by simp) ?_); simp only [pS]; simp only [List.drop_succ_cons, List.drop_zero, List.take_succ_cons, List.take_zero])) | (with_reducible refine wpl rfl (ldQ (ty := 22) rfl ?_); first | (with_reducible refine (Stp.ldo rfl agg22 rfl H (by assumption) (by assumption) ?_); simp only [pS]) | (with_reducible refine (Stp.ldc rfl agg22 rfl H mR cE ?_); simp only [pS])) | (with_reducible refine wpl rfl (ldQ (ty := 3) rfl ?_); first | (with_reducible refine (Stp.ldo rfl agg3 rfl H (by assumption) (by assumption) ?_); simp only [pS]) | (with_reducible refine (Stp.ldc rfl agg3 rfl H mR cE ?_); simp only [pS])))
              go_ret
              exact ⟨_, rfl, by rw [HV.out]; rfl, H.below⟩
            · have HT2 : Hid (allN (fun i (x : Lv) => !(decide (x.p ∈ (ls.take i).map (·.p))) && ordX x.l) 0 (ls.take (q + 1)) = true) := Lib.hid (by rw [HQ.out, HO.out, decide_eq_false hz1]; simp)
              go_wp2_with (first | (with_reducible refine wpl rfl (Stp.look (k := 27) (e := 4) (ek := ekP) (ev := evB) (M := M) (q := p) rfl keyedP ekP_inj Try.underlying91 mzB rfl rfl HKY.out H mE ?_); rw [HZ.out]; simp only [pS]) | (with_reducible refine wpl rfl (Stp.mapup (k := 27) (e := 4) (ek := ekP) (ev := evB) (M := M) (q := p) (v := true) rfl keyedP ekP_inj Try.underlying91 rfl rfl rfl HKY.out H uP ?_); clear H; intro w1 H; simp only [pS]) | (go_at_call 51; (with_reducible refine (exat_ok _ _ _ el HXN.out z HZX.out _ (HXL.out.grow H.below)).mono ?_); rintro e w1 ⟨v, rfl, hr⟩; obtain ⟨rfl, hb1⟩ := hr; replace H := H.grow hb1; clear hb1) | (with_reducible refine wpl rfl (ldQ (ty := 30) rfl ?_); first | (with_reducible refine (Stp.ldo rfl agg30 rfl H (by assumption) (by assumption) ?_); simp only [pS]) | (with_reducible refine (Stp.ldc rfl agg30 rfl H mR cE ?_); simp only [pS])) | (with_reducible refine wpl rfl (ldQ (ty := 29) rfl ?_); first | (with_reducible refine (Stp.ldor rfl agg29 size29 rfl H (by assumption) sZ (by assumption) ?_); simp only [pS]) | (with_reducible refine (Stp.ldr rfl agg29 size29 rfl H mR sZ ?_); simp only [pS]) | (with_reducible refine (Stp.ldl rfl agg29 size29 rfl H mR (by simp) ?_); simp only [pS]; simp only [List.drop_succ_cons, List.drop_zero, List.take_succ_cons, List.take_zero])) | (with_reducible refine wpl rfl (dQ 5 rfl ?_); with_reducible refine (Stp.alloc 5 rfl rfl zero29 H ?_); clear H; intro g5 w1 H; simp only [pS]; simp only [nC] at H) | (with_reducible refine wpl rfl (stQ (ty := 29) rfl ?_); first | (with_reducible refine (Stp.str rfl size29 rfl rfl (by first | rfl | (simp [Value.oneCell']; done) | assumption) H uP sZ sZ ?_); clear H; intro w1 H; simp only [pS]) | (with_reducible refine (Stp.stl rfl size29 rfl rfl rfl rfl H uP (by simp) ?_); clear H; intro w1 H; simp only [pS]; simp only [List.drop_succ_cons, List.drop_zero, List.take_succ_cons, List.take_zero, List.nil_append, List.cons_append, Nat.reduceAdd] at H)) | (with_reducible refine wpl rfl (ldQ (ty := 27) rfl ?_); first | (with_reducible refine (Stp.ldor rfl agg27 size27 rfl H (by assumption) sZ (by assumption) ?_); simp only [pS]) | (with_reducible refine (Stp.ldr rfl agg27 size27 rfl H mR sZ ?_); simp only [pS]) | (with_reducible refine (Stp.ldl rfl agg27 size27 rfl H mR (by simp) ?_); simp only [pS]; simp only [List.drop_succ_cons, List.drop_zero, List.take_succ_cons, List.take_zero])) | (with_reducible refine wpl rfl (ldQ (ty := 22) rfl ?_); first | (with_reducible refine (Stp.ldo rfl agg22 rfl H (by assumption) (by assumption) ?_); simp only [pS]) | (with_reducible refine (Stp.ldc rfl agg22 rfl H mR cE ?_); simp only [pS])) | (with_reducible refine wpl rfl (ldQ (ty := 3) rfl ?_); first | (with_reducible refine (Stp.ldo rfl agg3 rfl H (by assumption) (by assumption) ?_); simp only [pS]) | (with_reducible refine (Stp.ldc rfl agg3 rfl H mR cE ?_); simp only [pS])))
              go_roundw
              case rel => exact ⟨q + 1, _, by omega, by go_num, HM2, HT2, H.sub sU⟩
              case measure => simp [intOf]; omega
          · have HT2 : Hid (allN (fun i (x : Lv) => !(decide (x.p ∈ (ls.take i).map (·.p))) && ordX x.l) 0 (ls.take (q + 1)) = true) := Lib.hid (by rw [HQ.out, HO.out, decide_eq_false hz0]; simp)
            go_wp2_with (first | (with_reducible refine wpl rfl (Stp.look (k := 27) (e := 4) (ek := ekP) (ev := evB) (M := M) (q := p) rfl keyedP ekP_inj Try.underlying91 mzB rfl rfl HKY.out H mE ?_); rw [HZ.out]; simp only [pS]) | (with_reducible refine wpl rfl (Stp.mapup (k := 27) (e := 4) (ek := ekP) (ev := evB) (M := M) (q := p) (v := true) rfl keyedP ekP_inj Try.underlying91 rfl rfl rfl HKY.out H uP ?_); clear H; intro w1 H; simp only [pS]) | (go_at_call 51; (with_reducible refine (exat_ok _ _ _ el HXN.out z HZX.out _ (HXL.out.grow H.below)).mono ?_); rintro e w1 ⟨v, rfl, hr⟩; obtain ⟨rfl, hb1⟩ := hr; replace H := H.grow hb1; clear hb1) | (with_reducible refine wpl rfl (ldQ (ty := 30) rfl ?_); first | (with_reducible refine (Stp.ldo rfl agg30 rfl H (by assumption) (by assumption) ?_); simp only [pS]) | (with_reducible refine (Stp.ldc rfl agg30 rfl H mR cE ?_); simp only [pS])) | (with_reducible refine wpl rfl (ldQ (ty := 29) rfl ?_); first | (with_reducible refine (Stp.ldor rfl agg29 size29 rfl H (by assumption) sZ (by assumption) ?_); simp only [pS]) | (with_reducible refine (Stp.ldr rfl agg29 size29 rfl H mR sZ ?_); simp only [pS]) | (with_reducible refine (Stp.ldl rfl agg29 size29 rfl H mR (by simp) ?_); simp only [pS]; simp only [List.drop_succ_cons, List.drop_zero, List.take_succ_cons, List.take_zero])) | (with_reducible refine wpl rfl (dQ 5 rfl ?_); with_reducible refine (Stp.alloc 5 rfl rfl zero29 H ?_); clear H; intro g5 w1 H; simp only [pS]; simp only [nC] at H) | (with_reducible refine wpl rfl (stQ (ty := 29) rfl ?_); first | (with_reducible refine (Stp.str rfl size29 rfl rfl (by first | rfl | (simp [Value.oneCell']; done) | assumption) H uP sZ sZ ?_); clear H; intro w1 H; simp only [pS]) | (with_reducible refine (Stp.stl rfl size29 rfl rfl rfl rfl H uP (by simp) ?_); clear H; intro w1 H; simp only [pS]; simp only [List.drop_succ_cons, List.drop_zero, List.take_succ_cons, List.take_zero, List.nil_append, List.cons_append, Nat.reduceAdd] at H)) | (with_reducible refine wpl rfl (ldQ (ty := 27) rfl ?_); first | (with_reducible refine (Stp.ldor rfl agg27 size27 rfl H (by assumption) sZ (by assumption) ?_); simp only [pS]) | (with_reducible refine (Stp.ldr rfl agg27 size27 rfl H mR sZ ?_); simp only [pS]) | (with_reducible refine (Stp.ldl rfl agg27 size27 rfl H mR (by simp) ?_); simp only [pS]; simp only [List.drop_succ_cons, List.drop_zero, List.take_succ_cons, List.take_zero])) | (with_reducible refine wpl rfl (ldQ (ty := 22) rfl ?_); first | (with_reducible refine (Stp.ldo rfl agg22 rfl H (by assumption) (by assumption) ?_); simp only [pS]) | (with_reducible refine (Stp.ldc rfl agg22 rfl H mR cE ?_); simp only [pS])) | (with_reducible refine wpl rfl (ldQ (ty := 3) rfl ?_); first | (with_reducible refine (Stp.ldo rfl agg3 rfl H (by assumption) (by assumption) ?_); simp only [pS]) | (with_reducible refine (Stp.ldc rfl agg3 rfl H mR cE ?_); simp only [pS])))
            go_roundw
            case rel => exact ⟨q + 1, _, by omega, by go_num, HM2, HT2, H.sub sU⟩
            case measure => simp [intOf]; omega
        · have hki : (kd != 1) = true := by simp [hk1]
          have HV : Hid (r = false) := Lib.hid (HBAD.out (by
            unfold ordX
            rw [hkd, decide_eq_false hk1, decide_eq_false hne]; rfl))
          clear hkd hne hln hz hk1
          go_wp2_with (first | (with_reducible refine wpl rfl (Stp.look (k := 27) (e := 4) (ek := ekP) (ev := evB) (M := M) (q := p) rfl keyedP ekP_inj Try.underlying91 mzB rfl rfl HKY.out H mE ?_); rw [HZ.out]; simp only [pS]) | (with_reducible refine wpl rfl (Stp.mapup (k := 27) (e := 4) (ek := ekP) (ev := evB) (M := M) (q := p) (v := true) rfl keyedP ekP_inj Try.underlying91 rfl rfl rfl HKY.out H uP ?_); clear H; intro w1 H; simp only [pS]) | (go_at_call 51; (with_reducible refine (exat_ok _ _ _ el HXN.out z HZX.out _ (HXL.out.grow H.below)).mono ?_); rintro e w1 ⟨v, rfl, hr⟩; obtain ⟨rfl, hb1⟩ := hr; replace H := H.grow hb1; clear hb1) | (with_reducible refine wpl rfl (ldQ (ty := 30) rfl ?_); first | (with_reducible refine (Stp.ldo rfl agg30 rfl H (by assumption) (by assumption) ?_); simp only [pS]) | (with_reducible refine (Stp.ldc rfl agg30 rfl H mR cE ?_); simp only [pS])) | (with_reducible refine wpl rfl (ldQ (ty := 29) rfl ?_); first | (with_reducible refine (Stp.ldor rfl agg29 size29 rfl H (by assumption) sZ (by assumption) ?_); simp only [pS]) | (with_reducible refine (Stp.ldr rfl agg29 size29 rfl H mR sZ ?_); simp only [pS]) | (with_reducible refine (Stp.ldl rfl agg29 size29 rfl H mR (by simp) ?_); simp only [pS]; simp only [List.drop_succ_cons, List.drop_zero, List.take_succ_cons, List.take_zero])) | (with_reducible refine wpl rfl (dQ 5 rfl ?_); with_reducible refine (Stp.alloc 5 rfl rfl zero29 H ?_); clear H; intro g5 w1 H; simp only [pS]; simp only [nC] at H) | (with_reducible refine wpl rfl (stQ (ty := 29) rfl ?_); first | (with_reducible refine (Stp.str rfl size29 rfl rfl (by first | rfl | (simp [Value.oneCell']; done) | assumption) H uP sZ sZ ?_); clear H; intro w1 H; simp only [pS]) | (with_reducible refine (Stp.stl rfl size29 rfl rfl rfl rfl H uP (by simp) ?_); clear H; intro w1 H; simp only [pS]; simp only [List.drop_succ_cons, List.drop_zero, List.take_succ_cons, List.take_zero, List.nil_append, List.cons_append, Nat.reduceAdd] at H)) | (with_reducible refine wpl rfl (ldQ (ty := 27) rfl ?_); first | (with_reducible refine (Stp.ldor rfl agg27 size27 rfl H (by assumption) sZ (by assumption) ?_); simp only [pS]) | (with_reducible refine (Stp.ldr rfl agg27 size27 rfl H mR sZ ?_); simp only [pS]) | (with_reducible refine (Stp.ldl rfl agg27 size27 rfl H mR (by simp) ?_); simp only [pS]; simp only [List.drop_succ_cons, List.drop_zero, List.take_succ_cons, List.take_zero])) | (with_reducible refine wpl rfl (ldQ (ty := 22) rfl ?_); first | (with_reducible refine (Stp.ldo rfl agg22 rfl H (by assumption) (by assumption) ?_); simp only [pS]) | (with_reducible refine (Stp.ldc rfl agg22 rfl H mR cE ?_); simp only [pS])) | (with_reducible refine wpl rfl (ldQ (ty := 3) rfl ?_); first | (with_reducible refine (Stp.ldo rfl agg3 rfl H (by assumption) (by assumption) ?_); simp only [pS]) | (with_reducible refine (Stp.ldc rfl agg3 rfl H mR cE ?_); simp only [pS])))
          go_ret
          exact ⟨_, rfl, by rw [HV.out]; rfl, H.below⟩
      · have hl0i : ¬ (0 : Int) < (ln : Int) := by omega
        have he0 : el = [] := List.eq_nil_of_length_eq_zero (by omega)
        have hzm : z = -1 := by rw [← hz, he0]; unfold exAt; rfl
        have hz0 : ¬ 0 ≤ z := by omega
        have HT2 : Hid (allN (fun i (x : Lv) => !(decide (x.p ∈ (ls.take i).map (·.p))) && ordX x.l) 0 (ls.take (q + 1)) = true) := Lib.hid (by
          rw [HQ.out]; unfold ordX; rw [hz, decide_eq_false hz0, he0]; rfl)
        clear he0 hzm hln hz
        go_wp2_with (first | (with_reducible refine wpl rfl (Stp.look (k := 27) (e := 4) (ek := ekP) (ev := evB) (M := M) (q := p) rfl keyedP ekP_inj Try.underlying91 mzB rfl rfl HKY.out H mE ?_); rw [HZ.out]; simp only [pS]) | (with_reducible refine wpl rfl (Stp.mapup (k := 27) (e := 4) (ek := ekP) (ev := evB) (M := M) (q := p) (v := true) rfl keyedP ekP_inj Try.underlying91 rfl rfl rfl HKY.out H uP ?_); clear H; intro w1 H; simp only [pS]) | (go_at_call 51; (with_reducible refine (exat_ok _ _ _ el HXN.out z HZX.out _ (HXL.out.grow H.below)).mono ?_); rintro e w1 ⟨v, rfl, hr⟩; obtain ⟨rfl, hb1⟩ := hr; replace H := H.grow hb1; clear hb1) | (with_reducible refine wpl rfl (ldQ (ty := 30) rfl ?_); first | (with_reducible refine (Stp.ldo rfl agg30 rfl H (by assumption) (by assumption) ?_); simp only [pS]) | (with_reducible refine (Stp.ldc rfl agg30 rfl H mR cE ?_); simp only [pS])) | (with_reducible refine wpl rfl (ldQ (ty := 29) rfl ?_); first | (with_reducible refine (Stp.ldor rfl agg29 size29 rfl H (by assumption) sZ (by assumption) ?_); simp only [pS]) | (with_reducible refine (Stp.ldr rfl agg29 size29 rfl H mR sZ ?_); simp only [pS]) | (with_reducible refine (Stp.ldl rfl agg29 size29 rfl H mR (by simp) ?_); simp only [pS]; simp only [List.drop_succ_cons, List.drop_zero, List.take_succ_cons, List.take_zero])) | (with_reducible refine wpl rfl (dQ 5 rfl ?_); with_reducible refine (Stp.alloc 5 rfl rfl zero29 H ?_); clear H; intro g5 w1 H; simp only [pS]; simp only [nC] at H) | (with_reducible refine wpl rfl (stQ (ty := 29) rfl ?_); first | (with_reducible refine (Stp.str rfl size29 rfl rfl (by first | rfl | (simp [Value.oneCell']; done) | assumption) H uP sZ sZ ?_); clear H; intro w1 H; simp only [pS]) | (with_reducible refine (Stp.stl rfl size29 rfl rfl rfl rfl H uP (by simp) ?_); clear H; intro w1 H; simp only [pS]; simp only [List.drop_succ_cons, List.drop_zero, List.take_succ_cons, List.take_zero, List.nil_append, List.cons_append, Nat.reduceAdd] at H)) | (with_reducible refine wpl rfl (ldQ (ty := 27) rfl ?_); first | (with_reducible refine (Stp.ldor rfl agg27 size27 rfl H (by assumption) sZ (by assumption) ?_); simp only [pS]) | (with_reducible refine (Stp.ldr rfl agg27 size27 rfl H mR sZ ?_); simp only [pS]) | (with_reducible refine (Stp.ldl rfl agg27 size27 rfl H mR (by simp) ?_); simp only [pS]; simp only [List.drop_succ_cons, List.drop_zero, List.take_succ_cons, List.take_zero])) | (with_reducible refine wpl rfl (ldQ (ty := 22) rfl ?_); first | (with_reducible refine (Stp.ldo rfl agg22 rfl H (by assumption) (by assumption) ?_); simp only [pS]) | (with_reducible refine (Stp.ldc rfl agg22 rfl H mR cE ?_); simp only [pS])) | (with_reducible refine wpl rfl (ldQ (ty := 3) rfl ?_); first | (with_reducible refine (Stp.ldo rfl agg3 rfl H (by assumption) (by assumption) ?_); simp only [pS]) | (with_reducible refine (Stp.ldc rfl agg3 rfl H mR cE ?_); simp only [pS])))
        go_roundw
        case rel => exact ⟨q + 1, _, by omega, by go_num, HM2, HT2, H.sub sU⟩
        case measure => simp [intOf]; omega
    · obtain rfl : q = n := by omega
      have HV : Hid (r = true) := Lib.hid (by
        rw [← HR.out]; unfold ordD
        have := HT.out
        rw [List.take_of_length_le (by rw [HN.out]; omega)] at this
        exact this)
      go_wp2_with (first | (with_reducible refine wpl rfl (ldQ (ty := 30) rfl ?_); first | (with_reducible refine (Stp.ldo rfl agg30 rfl H (by assumption) (by assumption) ?_); simp only [pS]) | (with_reducible refine (Stp.ldc rfl agg30 rfl H mR cE ?_); simp only [pS])) | (with_reducible refine wpl rfl (ldQ (ty := 29) rfl ?_); first | (with_reducible refine (Stp.ldor rfl agg29 size29 rfl H (by assumption) sZ (by assumption) ?_); simp only [pS]) | (with_reducible refine (Stp.ldr rfl agg29 size29 rfl H mR sZ ?_); simp only [pS]) | (with_reducible refine (Stp.ldl rfl agg29 size29 rfl H mR (by simp) ?_); simp only [pS]; simp only [List.drop_succ_cons, List.drop_zero, List.take_succ_cons, List.take_zero])) | (with_reducible refine wpl rfl (dQ 5 rfl ?_); with_reducible refine (Stp.alloc 5 rfl rfl zero29 H ?_); clear H; intro g5 w1 H; simp only [pS]; simp only [nC] at H) | (with_reducible refine wpl rfl (stQ (ty := 29) rfl ?_); first | (with_reducible refine (Stp.str rfl size29 rfl rfl (by first | rfl | (simp [Value.oneCell']; done) | assumption) H uP sZ sZ ?_); clear H; intro w1 H; simp only [pS]) | (with_reducible refine (Stp.stl rfl size29 rfl rfl rfl rfl H uP (by simp) ?_); clear H; intro w1 H; simp only [pS]; simp only [List.drop_succ_cons, List.drop_zero, List.take_succ_cons, List.take_zero, List.nil_append, List.cons_append, Nat.reduceAdd] at H)) | (with_reducible refine wpl rfl (ldQ (ty := 27) rfl ?_); first | (with_reducible refine (Stp.ldor rfl agg27 size27 rfl H (by assumption) sZ (by assumption) ?_); simp only [pS]) | (with_reducible refine (Stp.ldr rfl agg27 size27 rfl H mR sZ ?_); simp only [pS]) | (with_reducible refine (Stp.ldl rfl agg27 size27 rfl H mR (by simp) ?_); simp only [pS]; simp only [List.drop_succ_cons, List.drop_zero, List.take_succ_cons, List.take_zero])) | (with_reducible refine wpl rfl (ldQ (ty := 22) rfl ?_); first | (with_reducible refine (Stp.ldo rfl agg22 rfl H (by assumption) (by assumption) ?_); simp only [pS]) | (with_reducible refine (Stp.ldc rfl agg22 rfl H mR cE ?_); simp only [pS])) | (with_reducible refine wpl rfl (ldQ (ty := 3) rfl ?_); first | (with_reducible refine (Stp.ldo rfl agg3 rfl H (by assumption) (by assumption) ?_); simp only [pS]) | (with_reducible refine (Stp.ldc rfl agg3 rfl H mR cE ?_); simp only [pS])))
      go_ret
      exact ⟨_, rfl, by rw [HV.out]; rfl, H.below⟩
end Go.Proofs.Ytbepaafgcbgmfaa
