/- Layer 29 (flat): where two lists of events are apart (Apart), and the reference's; no condition. -/
import Derived.Test.YtbepaafgcbgmfaaFz23
namespace Go.Proofs.Ytbepaafgcbgmfaa
open Go.ChangeShapes Go.WideShapes Go.ChangeAt Go.RowKit Go.Maps Go.Deep
set_option linter.unusedVariables false
set_option linter.unusedSimpArgs false
set_option linter.unusedSectionVars false
set_option maxRecDepth 100000
set_option maxHeartbeats 4000000
/-- How long the beginning is that two lists have in common. -/
def cpl : List Ev → List Ev → Nat
  | x :: a, y :: b => if x = y then cpl a b + 1 else 0
  | _, _ => 0
def apD (a b : List Ev) : Int := if a = b then -1 else (cpl a b : Int)
theorem cpl_is : ∀ (k : Nat) (a b : List Ev), a.take k = b.take k → k ≤ a.length → k ≤ b.length → (k = a.length ∨ k = b.length ∨ a[k]? ≠ b[k]?) → cpl a b = k
  | 0, a, b, _, _, _, hd => by
    cases a with
    | nil => cases b <;> rfl
    | cons x a =>
      cases b with
      | nil => rfl
      | cons y b =>
        rcases hd with h | h | h
        · simp at h
        · simp at h
        · simp only [List.getElem?_cons_zero, ne_eq, Option.some.injEq] at h
          show (if x = y then cpl a b + 1 else 0) = 0
          rw [if_neg h]
  | k + 1, a, b, h, ha, hb, hd => by
    cases a with
    | nil => simp at ha
    | cons x a =>
      cases b with
      | nil => simp at hb
      | cons y b =>
        simp only [List.take_succ_cons, List.cons.injEq] at h
        show (if x = y then cpl a b + 1 else 0) = k + 1
        rw [if_pos h.1, cpl_is k a b h.2 (by simpa using ha) (by simpa using hb) (by simpa using hd)]
theorem apD_at {a b : List Ev} {k : Nat} (h : a.take k = b.take k) (ha : k ≤ a.length) (hb : k ≤ b.length) (hne : a ≠ b) (hd : k = a.length ∨ k = b.length ∨ a[k]? ≠ b[k]?) : apD a b = (k : Int) := by
  unfold apD; rw [if_neg hne, cpl_is k a b h ha hb hd]
theorem apD_eq {a b : List Ev} (h : a = b) : apD a b = -1 := if_pos h
attribute [local irreducible] apD
theorem apart_is (aa ab : Option Addr) (ca cb : Nat) (a b : List Eh) {n m : Nat} (hna : a.length = n) (hnb : b.length = m) (r : Int) (hr : apD (evD a) (evD b) = r) (w : World) (ha : Sl w 9 n (.slice aa n ca) (elE a)) (hb : Sl w 9 m (.slice ab m cb) (elE b)) (hea : ∀ e ∈ a, EvG w e) (heb : ∀ e ∈ b, EvG w e) (hwa : ∀ e ∈ a, wfE e) (hwb : ∀ e ∈ b, wfE e) :
    Calls Try.prog 24 #[.slice aa n ca, .slice ab m cb] w (Ret fun v w' => v = .int .i64 r ∧ Below w.heap.size w w') := by
  have H := St.init w
  obtain ⟨_, _, _, hma, _⟩ := id ha
  obtain ⟨_, _, _, hmb, _⟩ := id hb
  unfold maxLen at hma hmb
  have HEA := Lib.hid hea
  have HEB := Lib.hid heb
  have HWA := Lib.hid hwa
  have HWB := Lib.hid hwb
  have HR := Lib.hid hr
  have HL := Lib.hid hna
  have HM := Lib.hid hnb
  clear hea heb hwa hwb hr hna hnb
  rcases Nat.lt_trichotomy n m with hnm | hnm | hnm
  · have i1 : (n : Int) < (m : Int) := by omega
    have i2 : ¬ (m : Int) < (n : Int) := by omega
    have i3 : (n : Int) ≤ (m : Int) := by omega
    have i4 : ((n : Int) == (m : Int)) = false := by simp; omega
    go_enter Try.func24, Try.ntmps24
    go_wp2_with fail
    go_loopw [13] (fun i wr => ∃ k : Nat, k ≤ n ∧ i = .int .i64 k ∧ Hid ((evD a).take k = (evD b).take k) ∧ St w.heap.size w wr []) (fun i _ => n - (intOf i).toNat)
    case atStart => exact ⟨0, Nat.zero_le _, rfl, Lib.hid (by simp), H⟩
    case round =>
      clear H
      obtain ⟨k, hk, rfl, HT, H⟩ := hrel
      by_cases hlt : k < n
      · have kli : (k : Int) < (n : Int) := by omega
        have kln : (k : Int) < (n : Int) := by omega
        have klm : (k : Int) < (m : Int) := by omega
        have hl1 : k < a.length := by rw [HL.out]; omega
        have hm1 : k < b.length := by rw [HM.out]; omega
        obtain ⟨b1, o1, rfl, hb1⟩ := ha.addr (by omega)
        obtain ⟨b2, o2, rfl, hb2⟩ := hb.addr (by omega)
        have hc1 := ha.cell (i := k) (by omega)
        have hc2 := hb.cell (i := k) (by omega)
        rw [elE_at hl1] at hc1
        rw [elE_at hm1] at hc2
        have HE1 := Lib.hid (HEA.out _ (List.getElem_mem hl1))
        have HE2 := Lib.hid (HEB.out _ (List.getElem_mem hm1))
        have HW1 := Lib.hid (HWA.out _ (List.getElem_mem hl1)).data
        have HW2 := Lib.hid (HWB.out _ (List.getElem_mem hm1)).data
        have HT1 := Lib.hid (evD_snoc (List.take_succ_eq_append_getElem hl1))
        have HT2 := Lib.hid (evD_snoc (List.take_succ_eq_append_getElem hm1))
        have HG1 : Hid ((evD a)[k]? = some a[k].1) := Lib.hid (by unfold evD; rw [List.getElem?_map, List.getElem?_eq_getElem hl1]; rfl)
        have HG2 : Hid ((evD b)[k]? = some b[k].1) := Lib.hid (by unfold evD; rw [List.getElem?_map, List.getElem?_eq_getElem hm1]; rfl)
        obtain ⟨⟨x, hx⟩, hxe⟩ : ∃ x, a[k] = x := ⟨_, rfl⟩
        obtain ⟨⟨z, hz⟩, hze⟩ : ∃ z, b[k] = z := ⟨_, rfl⟩
        rw [hxe] at hc1 HE1 HW1 HT1 HG1
        rw [hze] at hc2 HE2 HW2 HT2 HG2
        simp only at hc1 hc2 HW1 HW2 HT1 HT2 HG1 HG2
        obtain ⟨ee, hee⟩ : ∃ ee, eSame x z = ee := ⟨_, rfl⟩
        have HE := Lib.hid hee
        clear hee hl1 hm1 hxe hze
        cases ee
        · have HV : Hid (r = (k : Int)) := Lib.hid (by
            rw [← HR.out]
            refine apD_at HT.out (by rw [evD_len, HL.out]; omega) (by rw [evD_len, HM.out]; omega) ?_ (.inr (.inr ?_))
            · intro e
              rw [e, HG2.out] at HG1
              have := Option.some.inj HG1.out
              have h2 := HE.out
              rw [eSame_iff.2 this.symm] at h2; cases h2
            · intro e
              rw [HG1.out, HG2.out] at e
              have h2 := HE.out
              rw [eSame_iff.2 (Option.some.inj e)] at h2; cases h2)
          go_wp2_with fail
          refine rg_begin 10 rfl (S := fun W => St _ _ W ([] : List Res)) (by kernel_rfl) (H.drew.sub sU) ?_
          replace H := H.drew
          have HS := H
          refine rg_take (i := 0) rfl kR kR kR (Yld.move rfl rfl) (H.sub sU) ?_; simp only [pS, pE]
          refine rg_take (i := 1) rfl kR kR kR (Yld.move rfl rfl) (H.sub sU) ?_; simp only [pS, pE]
          refine rg_take (i := 2) rfl kR kR kR (Yld.o rfl) (H.sub sU) ?_; simp only [pS]
          first | (refine rg_take (i := 3) rfl kR kR kR (Yld.ldor rfl rfl agg62 size62 rfl (by assumption) sZ (by assumption)) (H.sub sU) ?_; simp only [pS]) | (refine rg_take (i := 3) rfl kR kR kR (Yld.ldr rfl rfl agg62 size62 rfl mR sZ) (H.sub sU) ?_; simp only [pS]) | (refine rg_take (i := 3) rfl kR kR kR (Yld.ldl rfl rfl agg62 size62 rfl mR (by simp)) (H.sub sU) ?_; simp only [pS]; simp only [List.drop_succ_cons, List.drop_zero, List.take_succ_cons, List.take_zero])
          refine rg_take (i := 4) rfl kR kR kR (Yld.move rfl rfl) (H.sub sU) ?_; simp only [pS, pE]
          refine rg_take (i := 5) rfl kR kR kR (Yld.move rfl rfl) (H.sub sU) ?_; simp only [pS, pE]
          refine rg_take (i := 6) rfl kR kR kR (Yld.o rfl) (H.sub sU) ?_; simp only [pS]
          first | (refine rg_take (i := 7) rfl kR kR kR (Yld.ldor rfl rfl agg62 size62 rfl (by assumption) sZ (by assumption)) (H.sub sU) ?_; simp only [pS]) | (refine rg_take (i := 7) rfl kR kR kR (Yld.ldr rfl rfl agg62 size62 rfl mR sZ) (H.sub sU) ?_; simp only [pS]) | (refine rg_take (i := 7) rfl kR kR kR (Yld.ldl rfl rfl agg62 size62 rfl mR (by simp)) (H.sub sU) ?_; simp only [pS]; simp only [List.drop_succ_cons, List.drop_zero, List.take_succ_cons, List.take_zero])
          refine rg_one (i := 8) (by kernel_rfl) rfl rfl (fun K hK => ?_)
          refine wp_callf rfl ent29 (esame_is x z hx hz _ HE.out _ (HE1.out.grow H.below) (HE2.out.grow H.below) HW1.out HW2.out) rfl (fun v w1 hr => ?_)
          obtain ⟨rfl, hb1⟩ := hr
          replace H := H.grow hb1
          clear hb1
          clear HS
          have HS := H
          refine hK.out _ _ (H.sub sU) ?_
          clear hK K
          simp only [pS]
          refine rg_take (i := 9) rfl kR kR kR (Yld.o rfl) (H.sub sU) ?_; simp only [pS]
          refine rg_done (by kernel_rfl) ?_
          go_wp2_with fail
          go_ret
          exact ⟨_, rfl, by rw [HV.out]; rfl, H.below⟩
        · have HV : Hid ((evD a).take (k + 1) = (evD b).take (k + 1)) := Lib.hid (by rw [HT1.out, HT2.out, HT.out, eSame_iff.1 HE.out])
          go_wp2_with fail
          refine rg_begin 10 rfl (S := fun W => St _ _ W ([] : List Res)) (by kernel_rfl) (H.drew.sub sU) ?_
          replace H := H.drew
          have HS := H
          refine rg_take (i := 0) rfl kR kR kR (Yld.move rfl rfl) (H.sub sU) ?_; simp only [pS, pE]
          refine rg_take (i := 1) rfl kR kR kR (Yld.move rfl rfl) (H.sub sU) ?_; simp only [pS, pE]
          refine rg_take (i := 2) rfl kR kR kR (Yld.o rfl) (H.sub sU) ?_; simp only [pS]
          first | (refine rg_take (i := 3) rfl kR kR kR (Yld.ldor rfl rfl agg62 size62 rfl (by assumption) sZ (by assumption)) (H.sub sU) ?_; simp only [pS]) | (refine rg_take (i := 3) rfl kR kR kR (Yld.ldr rfl rfl agg62 size62 rfl mR sZ) (H.sub sU) ?_; simp only [pS]) | (refine rg_take (i := 3) rfl kR kR kR (Yld.ldl rfl rfl agg62 size62 rfl mR (by simp)) (H.sub sU) ?_; simp only [pS]; simp only [List.drop_succ_cons, List.drop_zero, List.take_succ_cons, List.take_zero])
          refine rg_take (i := 4) rfl kR kR kR (Yld.move rfl rfl) (H.sub sU) ?_; simp only [pS, pE]
          refine rg_take (i := 5) rfl kR kR kR (Yld.move rfl rfl) (H.sub sU) ?_; simp only [pS, pE]
          refine rg_take (i := 6) rfl kR kR kR (Yld.o rfl) (H.sub sU) ?_; simp only [pS]
          first | (refine rg_take (i := 7) rfl kR kR kR (Yld.ldor rfl rfl agg62 size62 rfl (by assumption) sZ (by assumption)) (H.sub sU) ?_; simp only [pS]) | (refine rg_take (i := 7) rfl kR kR kR (Yld.ldr rfl rfl agg62 size62 rfl mR sZ) (H.sub sU) ?_; simp only [pS]) | (refine rg_take (i := 7) rfl kR kR kR (Yld.ldl rfl rfl agg62 size62 rfl mR (by simp)) (H.sub sU) ?_; simp only [pS]; simp only [List.drop_succ_cons, List.drop_zero, List.take_succ_cons, List.take_zero])
          refine rg_one (i := 8) (by kernel_rfl) rfl rfl (fun K hK => ?_)
          refine wp_callf rfl ent29 (esame_is x z hx hz _ HE.out _ (HE1.out.grow H.below) (HE2.out.grow H.below) HW1.out HW2.out) rfl (fun v w1 hr => ?_)
          obtain ⟨rfl, hb1⟩ := hr
          replace H := H.grow hb1
          clear hb1
          clear HS
          have HS := H
          refine hK.out _ _ (H.sub sU) ?_
          clear hK K
          simp only [pS]
          refine rg_take (i := 9) rfl kR kR kR (Yld.o rfl) (H.sub sU) ?_; simp only [pS]
          refine rg_done (by kernel_rfl) ?_
          go_wp2_with fail
          go_roundw
          case rel => exact ⟨k + 1, by omega, by go_num, HV, H.sub sU⟩
          case measure => simp [intOf]; omega
      · obtain rfl : k = n := by omega
        have HV : Hid (r = (k : Int)) := Lib.hid (by
          rw [← HR.out]
          refine apD_at HT.out (by rw [evD_len, HL.out]; omega) (by rw [evD_len, HM.out]; omega) (fun e => ?_) (.inl (by rw [evD_len, HL.out]))
          have := congrArg List.length e
          rw [evD_len, evD_len, HL.out, HM.out] at this; omega)
        go_wp2_with fail
        go_ret
        exact ⟨_, rfl, by rw [HV.out]; rfl, H.below⟩
  · subst hnm
    have i4 : ((n : Int) == (n : Int)) = true := by simp
    go_enter Try.func24, Try.ntmps24
    go_wp2_with fail
    go_loopw [13] (fun i wr => ∃ k : Nat, k ≤ n ∧ i = .int .i64 k ∧ Hid ((evD a).take k = (evD b).take k) ∧ St w.heap.size w wr []) (fun i _ => n - (intOf i).toNat)
    case atStart => exact ⟨0, Nat.zero_le _, rfl, Lib.hid (by simp), H⟩
    case round =>
      clear H
      obtain ⟨k, hk, rfl, HT, H⟩ := hrel
      by_cases hlt : k < n
      · have kli : (k : Int) < (n : Int) := by omega
        have kln : (k : Int) < (n : Int) := by omega
        have klm : (k : Int) < (n : Int) := by omega
        have hl1 : k < a.length := by rw [HL.out]; omega
        have hm1 : k < b.length := by rw [HM.out]; omega
        obtain ⟨b1, o1, rfl, hb1⟩ := ha.addr (by omega)
        obtain ⟨b2, o2, rfl, hb2⟩ := hb.addr (by omega)
        have hc1 := ha.cell (i := k) (by omega)
        have hc2 := hb.cell (i := k) (by omega)
        rw [elE_at hl1] at hc1
        rw [elE_at hm1] at hc2
        have HE1 := Lib.hid (HEA.out _ (List.getElem_mem hl1))
        have HE2 := Lib.hid (HEB.out _ (List.getElem_mem hm1))
        have HW1 := Lib.hid (HWA.out _ (List.getElem_mem hl1)).data
        have HW2 := Lib.hid (HWB.out _ (List.getElem_mem hm1)).data
        have HT1 := Lib.hid (evD_snoc (List.take_succ_eq_append_getElem hl1))
        have HT2 := Lib.hid (evD_snoc (List.take_succ_eq_append_getElem hm1))
        have HG1 : Hid ((evD a)[k]? = some a[k].1) := Lib.hid (by unfold evD; rw [List.getElem?_map, List.getElem?_eq_getElem hl1]; rfl)
        have HG2 : Hid ((evD b)[k]? = some b[k].1) := Lib.hid (by unfold evD; rw [List.getElem?_map, List.getElem?_eq_getElem hm1]; rfl)
        obtain ⟨⟨x, hx⟩, hxe⟩ : ∃ x, a[k] = x := ⟨_, rfl⟩
        obtain ⟨⟨z, hz⟩, hze⟩ : ∃ z, b[k] = z := ⟨_, rfl⟩
        rw [hxe] at hc1 HE1 HW1 HT1 HG1
        rw [hze] at hc2 HE2 HW2 HT2 HG2
        simp only at hc1 hc2 HW1 HW2 HT1 HT2 HG1 HG2
        obtain ⟨ee, hee⟩ : ∃ ee, eSame x z = ee := ⟨_, rfl⟩
        have HE := Lib.hid hee
        clear hee hl1 hm1 hxe hze
        cases ee
        · have HV : Hid (r = (k : Int)) := Lib.hid (by
            rw [← HR.out]
            refine apD_at HT.out (by rw [evD_len, HL.out]; omega) (by rw [evD_len, HM.out]; omega) ?_ (.inr (.inr ?_))
            · intro e
              rw [e, HG2.out] at HG1
              have := Option.some.inj HG1.out
              have h2 := HE.out
              rw [eSame_iff.2 this.symm] at h2; cases h2
            · intro e
              rw [HG1.out, HG2.out] at e
              have h2 := HE.out
              rw [eSame_iff.2 (Option.some.inj e)] at h2; cases h2)
          go_wp2_with fail
          refine rg_begin 10 rfl (S := fun W => St _ _ W ([] : List Res)) (by kernel_rfl) (H.drew.sub sU) ?_
          replace H := H.drew
          have HS := H
          refine rg_take (i := 0) rfl kR kR kR (Yld.move rfl rfl) (H.sub sU) ?_; simp only [pS, pE]
          refine rg_take (i := 1) rfl kR kR kR (Yld.move rfl rfl) (H.sub sU) ?_; simp only [pS, pE]
          refine rg_take (i := 2) rfl kR kR kR (Yld.o rfl) (H.sub sU) ?_; simp only [pS]
          first | (refine rg_take (i := 3) rfl kR kR kR (Yld.ldor rfl rfl agg62 size62 rfl (by assumption) sZ (by assumption)) (H.sub sU) ?_; simp only [pS]) | (refine rg_take (i := 3) rfl kR kR kR (Yld.ldr rfl rfl agg62 size62 rfl mR sZ) (H.sub sU) ?_; simp only [pS]) | (refine rg_take (i := 3) rfl kR kR kR (Yld.ldl rfl rfl agg62 size62 rfl mR (by simp)) (H.sub sU) ?_; simp only [pS]; simp only [List.drop_succ_cons, List.drop_zero, List.take_succ_cons, List.take_zero])
          refine rg_take (i := 4) rfl kR kR kR (Yld.move rfl rfl) (H.sub sU) ?_; simp only [pS, pE]
          refine rg_take (i := 5) rfl kR kR kR (Yld.move rfl rfl) (H.sub sU) ?_; simp only [pS, pE]
          refine rg_take (i := 6) rfl kR kR kR (Yld.o rfl) (H.sub sU) ?_; simp only [pS]
          first | (refine rg_take (i := 7) rfl kR kR kR (Yld.ldor rfl rfl agg62 size62 rfl (by assumption) sZ (by assumption)) (H.sub sU) ?_; simp only [pS]) | (refine rg_take (i := 7) rfl kR kR kR (Yld.ldr rfl rfl agg62 size62 rfl mR sZ) (H.sub sU) ?_; simp only [pS]) | (refine rg_take (i := 7) rfl kR kR kR (Yld.ldl rfl rfl agg62 size62 rfl mR (by simp)) (H.sub sU) ?_; simp only [pS]; simp only [List.drop_succ_cons, List.drop_zero, List.take_succ_cons, List.take_zero])
          refine rg_one (i := 8) (by kernel_rfl) rfl rfl (fun K hK => ?_)
          refine wp_callf rfl ent29 (esame_is x z hx hz _ HE.out _ (HE1.out.grow H.below) (HE2.out.grow H.below) HW1.out HW2.out) rfl (fun v w1 hr => ?_)
          obtain ⟨rfl, hb1⟩ := hr
          replace H := H.grow hb1
          clear hb1
          clear HS
          have HS := H
          refine hK.out _ _ (H.sub sU) ?_
          clear hK K
          simp only [pS]
          refine rg_take (i := 9) rfl kR kR kR (Yld.o rfl) (H.sub sU) ?_; simp only [pS]
          refine rg_done (by kernel_rfl) ?_
          go_wp2_with fail
          go_ret
          exact ⟨_, rfl, by rw [HV.out]; rfl, H.below⟩
        · have HV : Hid ((evD a).take (k + 1) = (evD b).take (k + 1)) := Lib.hid (by rw [HT1.out, HT2.out, HT.out, eSame_iff.1 HE.out])
          go_wp2_with fail
          refine rg_begin 10 rfl (S := fun W => St _ _ W ([] : List Res)) (by kernel_rfl) (H.drew.sub sU) ?_
          replace H := H.drew
          have HS := H
          refine rg_take (i := 0) rfl kR kR kR (Yld.move rfl rfl) (H.sub sU) ?_; simp only [pS, pE]
          refine rg_take (i := 1) rfl kR kR kR (Yld.move rfl rfl) (H.sub sU) ?_; simp only [pS, pE]
          refine rg_take (i := 2) rfl kR kR kR (Yld.o rfl) (H.sub sU) ?_; simp only [pS]
          first | (refine rg_take (i := 3) rfl kR kR kR (Yld.ldor rfl rfl agg62 size62 rfl (by assumption) sZ (by assumption)) (H.sub sU) ?_; simp only [pS]) | (refine rg_take (i := 3) rfl kR kR kR (Yld.ldr rfl rfl agg62 size62 rfl mR sZ) (H.sub sU) ?_; simp only [pS]) | (refine rg_take (i := 3) rfl kR kR kR (Yld.ldl rfl rfl agg62 size62 rfl mR (by simp)) (H.sub sU) ?_; simp only [pS]; simp only [List.drop_succ_cons, List.drop_zero, List.take_succ_cons, List.take_zero])
          refine rg_take (i := 4) rfl kR kR kR (Yld.move rfl rfl) (H.sub sU) ?_; simp only [pS, pE]
          refine rg_take (i := 5) rfl kR kR kR (Yld.move rfl rfl) (H.sub sU) ?_; simp only [pS, pE]
          refine rg_take (i := 6) rfl kR kR kR (Yld.o rfl) (H.sub sU) ?_; simp only [pS]
          first | (refine rg_take (i := 7) rfl kR kR kR (Yld.ldor rfl rfl agg62 size62 rfl (by assumption) sZ (by assumption)) (H.sub sU) ?_; simp only [pS]) | (refine rg_take (i := 7) rfl kR kR kR (Yld.ldr rfl rfl agg62 size62 rfl mR sZ) (H.sub sU) ?_; simp only [pS]) | (refine rg_take (i := 7) rfl kR kR kR (Yld.ldl rfl rfl agg62 size62 rfl mR (by simp)) (H.sub sU) ?_; simp only [pS]; simp only [List.drop_succ_cons, List.drop_zero, List.take_succ_cons, List.take_zero])
          refine rg_one (i := 8) (by kernel_rfl) rfl rfl (fun K hK => ?_)
          refine wp_callf rfl ent29 (esame_is x z hx hz _ HE.out _ (HE1.out.grow H.below) (HE2.out.grow H.below) HW1.out HW2.out) rfl (fun v w1 hr => ?_)
          obtain ⟨rfl, hb1⟩ := hr
          replace H := H.grow hb1
          clear hb1
          clear HS
          have HS := H
          refine hK.out _ _ (H.sub sU) ?_
          clear hK K
          simp only [pS]
          refine rg_take (i := 9) rfl kR kR kR (Yld.o rfl) (H.sub sU) ?_; simp only [pS]
          refine rg_done (by kernel_rfl) ?_
          go_wp2_with fail
          go_roundw
          case rel => exact ⟨k + 1, by omega, by go_num, HV, H.sub sU⟩
          case measure => simp [intOf]; omega
      · obtain rfl : k = n := by omega
        have HV : Hid (r = -1) := Lib.hid (by
          rw [← HR.out]
          refine apD_eq ?_
          have := HT.out
          rw [List.take_of_length_le (by rw [evD_len, HL.out]; omega), List.take_of_length_le (by rw [evD_len, HM.out]; omega)] at this
          exact this)
        go_wp2_with fail
        go_ret
        exact ⟨_, rfl, by rw [HV.out]; rfl, H.below⟩
  · have i1 : (m : Int) < (n : Int) := by omega
    have i2 : ¬ (n : Int) < (m : Int) := by omega
    have i3 : ¬ (n : Int) ≤ (m : Int) := by omega
    have i4 : ((n : Int) == (m : Int)) = false := by simp; omega
    go_enter Try.func24, Try.ntmps24
    go_wp2_with fail
    go_loopw [13] (fun i wr => ∃ k : Nat, k ≤ m ∧ i = .int .i64 k ∧ Hid ((evD a).take k = (evD b).take k) ∧ St w.heap.size w wr []) (fun i _ => m - (intOf i).toNat)
    case atStart => exact ⟨0, Nat.zero_le _, rfl, Lib.hid (by simp), H⟩
    case round =>
      clear H
      obtain ⟨k, hk, rfl, HT, H⟩ := hrel
      by_cases hlt : k < m
      · have kli : (k : Int) < (m : Int) := by omega
        have kln : (k : Int) < (n : Int) := by omega
        have klm : (k : Int) < (m : Int) := by omega
        have hl1 : k < a.length := by rw [HL.out]; omega
        have hm1 : k < b.length := by rw [HM.out]; omega
        obtain ⟨b1, o1, rfl, hb1⟩ := ha.addr (by omega)
        obtain ⟨b2, o2, rfl, hb2⟩ := hb.addr (by omega)
        have hc1 := ha.cell (i := k) (by omega)
        have hc2 := hb.cell (i := k) (by omega)
        rw [elE_at hl1] at hc1
        rw [elE_at hm1] at hc2
        have HE1 := Lib.hid (HEA.out _ (List.getElem_mem hl1))
        have HE2 := Lib.hid (HEB.out _ (List.getElem_mem hm1))
        have HW1 := Lib.hid (HWA.out _ (List.getElem_mem hl1)).data
        have HW2 := Lib.hid (HWB.out _ (List.getElem_mem hm1)).data
        have HT1 := Lib.hid (evD_snoc (List.take_succ_eq_append_getElem hl1))
        have HT2 := Lib.hid (evD_snoc (List.take_succ_eq_append_getElem hm1))
        have HG1 : Hid ((evD a)[k]? = some a[k].1) := Lib.hid (by unfold evD; rw [List.getElem?_map, List.getElem?_eq_getElem hl1]; rfl)
        have HG2 : Hid ((evD b)[k]? = some b[k].1) := Lib.hid (by unfold evD; rw [List.getElem?_map, List.getElem?_eq_getElem hm1]; rfl)
        obtain ⟨⟨x, hx⟩, hxe⟩ : ∃ x, a[k] = x := ⟨_, rfl⟩
        obtain ⟨⟨z, hz⟩, hze⟩ : ∃ z, b[k] = z := ⟨_, rfl⟩
        rw [hxe] at hc1 HE1 HW1 HT1 HG1
        rw [hze] at hc2 HE2 HW2 HT2 HG2
        simp only at hc1 hc2 HW1 HW2 HT1 HT2 HG1 HG2
        obtain ⟨ee, hee⟩ : ∃ ee, eSame x z = ee := ⟨_, rfl⟩
        have HE := Lib.hid hee
        clear hee hl1 hm1 hxe hze
        cases ee
        · have HV : Hid (r = (k : Int)) := Lib.hid (by
            rw [← HR.out]
            refine apD_at HT.out (by rw [evD_len, HL.out]; omega) (by rw [evD_len, HM.out]; omega) ?_ (.inr (.inr ?_))
            · intro e
              rw [e, HG2.out] at HG1
              have := Option.some.inj HG1.out
              have h2 := HE.out
              rw [eSame_iff.2 this.symm] at h2; cases h2
            · intro e
              rw [HG1.out, HG2.out] at e
              have h2 := HE.out
              rw [eSame_iff.2 (Option.some.inj e)] at h2; cases h2)
          go_wp2_with fail
          refine rg_begin 10 rfl (S := fun W => St _ _ W ([] : List Res)) (by kernel_rfl) (H.drew.sub sU) ?_
          replace H := H.drew
          have HS := H
          refine rg_take (i := 0) rfl kR kR kR (Yld.move rfl rfl) (H.sub sU) ?_; simp only [pS, pE]
          refine rg_take (i := 1) rfl kR kR kR (Yld.move rfl rfl) (H.sub sU) ?_; simp only [pS, pE]
          refine rg_take (i := 2) rfl kR kR kR (Yld.o rfl) (H.sub sU) ?_; simp only [pS]
          first | (refine rg_take (i := 3) rfl kR kR kR (Yld.ldor rfl rfl agg62 size62 rfl (by assumption) sZ (by assumption)) (H.sub sU) ?_; simp only [pS]) | (refine rg_take (i := 3) rfl kR kR kR (Yld.ldr rfl rfl agg62 size62 rfl mR sZ) (H.sub sU) ?_; simp only [pS]) | (refine rg_take (i := 3) rfl kR kR kR (Yld.ldl rfl rfl agg62 size62 rfl mR (by simp)) (H.sub sU) ?_; simp only [pS]; simp only [List.drop_succ_cons, List.drop_zero, List.take_succ_cons, List.take_zero])
          refine rg_take (i := 4) rfl kR kR kR (Yld.move rfl rfl) (H.sub sU) ?_; simp only [pS, pE]
          refine rg_take (i := 5) rfl kR kR kR (Yld.move rfl rfl) (H.sub sU) ?_; simp only [pS, pE]
          refine rg_take (i := 6) rfl kR kR kR (Yld.o rfl) (H.sub sU) ?_; simp only [pS]
          first | (refine rg_take (i := 7) rfl kR kR kR (Yld.ldor rfl rfl agg62 size62 rfl (by assumption) sZ (by assumption)) (H.sub sU) ?_; simp only [pS]) | (refine rg_take (i := 7) rfl kR kR kR (Yld.ldr rfl rfl agg62 size62 rfl mR sZ) (H.sub sU) ?_; simp only [pS]) | (refine rg_take (i := 7) rfl kR kR kR (Yld.ldl rfl rfl agg62 size62 rfl mR (by simp)) (H.sub sU) ?_; simp only [pS]; simp only [List.drop_succ_cons, List.drop_zero, List.take_succ_cons, List.take_zero])
          refine rg_one (i := 8) (by kernel_rfl) rfl rfl (fun K hK => ?_)
          refine wp_callf rfl ent29 (esame_is x z hx hz _ HE.out _ (HE1.out.grow H.below) (HE2.out.grow H.below) HW1.out HW2.out) rfl (fun v w1 hr => ?_)
          obtain ⟨rfl, hb1⟩ := hr
          replace H := H.grow hb1
          clear hb1
          clear HS
          have HS := H
          refine hK.out _ _ (H.sub sU) ?_
          clear hK K
          simp only [pS]
          refine rg_take (i := 9) rfl kR kR kR (Yld.o rfl) (H.sub sU) ?_; simp only [pS]
          refine rg_done (by kernel_rfl) ?_
          go_wp2_with fail
          go_ret
          exact ⟨_, rfl, by rw [HV.out]; rfl, H.below⟩
        · have HV : Hid ((evD a).take (k + 1) = (evD b).take (k + 1)) := Lib.hid (by rw [HT1.out, HT2.out, HT.out, eSame_iff.1 HE.out])
          go_wp2_with fail
          refine rg_begin 10 rfl (S := fun W => St _ _ W ([] : List Res)) (by kernel_rfl) (H.drew.sub sU) ?_
          replace H := H.drew
          have HS := H
          refine rg_take (i := 0) rfl kR kR kR (Yld.move rfl rfl) (H.sub sU) ?_; simp only [pS, pE]
          refine rg_take (i := 1) rfl kR kR kR (Yld.move rfl rfl) (H.sub sU) ?_; simp only [pS, pE]
          refine rg_take (i := 2) rfl kR kR kR (Yld.o rfl) (H.sub sU) ?_; simp only [pS]
          first | (refine rg_take (i := 3) rfl kR kR kR (Yld.ldor rfl rfl agg62 size62 rfl (by assumption) sZ (by assumption)) (H.sub sU) ?_; simp only [pS]) | (refine rg_take (i := 3) rfl kR kR kR (Yld.ldr rfl rfl agg62 size62 rfl mR sZ) (H.sub sU) ?_; simp only [pS]) | (refine rg_take (i := 3) rfl kR kR kR (Yld.ldl rfl rfl agg62 size62 rfl mR (by simp)) (H.sub sU) ?_; simp only [pS]; simp only [List.drop_succ_cons, List.drop_zero, List.take_succ_cons, List.take_zero])
          refine rg_take (i := 4) rfl kR kR kR (Yld.move rfl rfl) (H.sub sU) ?_; simp only [pS, pE]
          refine rg_take (i := 5) rfl kR kR kR (Yld.move rfl rfl) (H.sub sU) ?_; simp only [pS, pE]
          refine rg_take (i := 6) rfl kR kR kR (Yld.o rfl) (H.sub sU) ?_; simp only [pS]
          first | (refine rg_take (i := 7) rfl kR kR kR (Yld.ldor rfl rfl agg62 size62 rfl (by assumption) sZ (by assumption)) (H.sub sU) ?_; simp only [pS]) | (refine rg_take (i := 7) rfl kR kR kR (Yld.ldr rfl rfl agg62 size62 rfl mR sZ) (H.sub sU) ?_; simp only [pS]) | (refine rg_take (i := 7) rfl kR kR kR (Yld.ldl rfl rfl agg62 size62 rfl mR (by simp)) (H.sub sU) ?_; simp only [pS]; simp only [List.drop_succ_cons, List.drop_zero, List.take_succ_cons, List.take_zero])
          refine rg_one (i := 8) (by kernel_rfl) rfl rfl (fun K hK => ?_)
          refine wp_callf rfl ent29 (esame_is x z hx hz _ HE.out _ (HE1.out.grow H.below) (HE2.out.grow H.below) HW1.out HW2.out) rfl (fun v w1 hr => ?_)
          obtain ⟨rfl, hb1⟩ := hr
          replace H := H.grow hb1
          clear hb1
          clear HS
          have HS := H
          refine hK.out _ _ (H.sub sU) ?_
          clear hK K
          simp only [pS]
          refine rg_take (i := 9) rfl kR kR kR (Yld.o rfl) (H.sub sU) ?_; simp only [pS]
          refine rg_done (by kernel_rfl) ?_
          go_wp2_with fail
          go_roundw
          case rel => exact ⟨k + 1, by omega, by go_num, HV, H.sub sU⟩
          case measure => simp [intOf]; omega
      · obtain rfl : k = m := by omega
        have HV : Hid (r = (k : Int)) := Lib.hid (by
          rw [← HR.out]
          refine apD_at HT.out (by rw [evD_len, HL.out]; omega) (by rw [evD_len, HM.out]; omega) (fun e => ?_) (.inr (.inl (by rw [evD_len, HM.out])))
          have := congrArg List.length e
          rw [evD_len, evD_len, HL.out, HM.out] at this; omega)
        go_wp2_with fail
        go_ret
        exact ⟨_, rfl, by rw [HV.out]; rfl, H.below⟩
theorem rapart_is (aa ab : Option Addr) (ca cb : Nat) (a b : List Eh) {n m : Nat} (hna : a.length = n) (hnb : b.length = m) (r : Int) (hr : apD (evD a) (evD b) = r) (w : World) (ha : Sl w 9 n (.slice aa n ca) (elE a)) (hb : Sl w 9 m (.slice ab m cb) (elE b)) (hea : ∀ e ∈ a, EvG w e) (heb : ∀ e ∈ b, EvG w e) (hwa : ∀ e ∈ a, wfE e) (hwb : ∀ e ∈ b, wfE e) :
    Calls Try.prog 25 #[.slice aa n ca, .slice ab m cb] w (Ret fun v w' => v = .int .i64 r ∧ Below w.heap.size w w') := by
  have H := St.init w
  obtain ⟨_, _, _, hma, _⟩ := id ha
  obtain ⟨_, _, _, hmb, _⟩ := id hb
  unfold maxLen at hma hmb
  have HEA := Lib.hid hea
  have HEB := Lib.hid heb
  have HWA := Lib.hid hwa
  have HWB := Lib.hid hwb
  have HR := Lib.hid hr
  have HL := Lib.hid hna
  have HM := Lib.hid hnb
  clear hea heb hwa hwb hr hna hnb
  go_enter Try.func25, Try.ntmps25
  go_wp2_with fail
  go_loopw [5] (fun i wr => ∃ k : Nat, k ≤ n ∧ k ≤ m ∧ i = .int .i64 k ∧ Hid ((evD a).take k = (evD b).take k) ∧ St w.heap.size w wr []) (fun i _ => n - (intOf i).toNat)
  case atStart => exact ⟨0, Nat.zero_le _, Nat.zero_le _, rfl, Lib.hid (by simp), H⟩
  case round =>
    clear H
    obtain ⟨k, hk, hk2, rfl, HT, H⟩ := hrel
    by_cases hlt : k < n
    · have kln : (k : Int) < (n : Int) := by omega
      have HA1 : Hid (decide ((n : Int) ≤ (k : Int)) = false) := Lib.hid (decide_eq_false (by omega))
      by_cases hlm : k < m
      · have klm : (k : Int) < (m : Int) := by omega
        have HA2 : Hid (decide ((m : Int) ≤ (k : Int)) = false) := Lib.hid (decide_eq_false (by omega))
        have hl1 : k < a.length := by rw [HL.out]; omega
        have hm1 : k < b.length := by rw [HM.out]; omega
        obtain ⟨b1, o1, rfl, hb1⟩ := ha.addr (by omega)
        obtain ⟨b2, o2, rfl, hb2⟩ := hb.addr (by omega)
        have hc1 := ha.cell (i := k) (by omega)
        have hc2 := hb.cell (i := k) (by omega)
        rw [elE_at hl1] at hc1
        rw [elE_at hm1] at hc2
        have HE1 := Lib.hid (HEA.out _ (List.getElem_mem hl1))
        have HE2 := Lib.hid (HEB.out _ (List.getElem_mem hm1))
        have HW1 := Lib.hid (HWA.out _ (List.getElem_mem hl1)).data
        have HW2 := Lib.hid (HWB.out _ (List.getElem_mem hm1)).data
        have HT1 := Lib.hid (evD_snoc (List.take_succ_eq_append_getElem hl1))
        have HT2 := Lib.hid (evD_snoc (List.take_succ_eq_append_getElem hm1))
        have HG1 : Hid ((evD a)[k]? = some a[k].1) := Lib.hid (by unfold evD; rw [List.getElem?_map, List.getElem?_eq_getElem hl1]; rfl)
        have HG2 : Hid ((evD b)[k]? = some b[k].1) := Lib.hid (by unfold evD; rw [List.getElem?_map, List.getElem?_eq_getElem hm1]; rfl)
        obtain ⟨⟨x, hx⟩, hxe⟩ : ∃ x, a[k] = x := ⟨_, rfl⟩
        obtain ⟨⟨z, hz⟩, hze⟩ : ∃ z, b[k] = z := ⟨_, rfl⟩
        rw [hxe] at hc1 HE1 HW1 HT1 HG1
        rw [hze] at hc2 HE2 HW2 HT2 HG2
        simp only at hc1 hc2 HW1 HW2 HT1 HT2 HG1 HG2
        obtain ⟨ee, hee⟩ : ∃ ee, eSame x z = ee := ⟨_, rfl⟩
        have HE := Lib.hid hee
        clear hee hl1 hm1 hxe hze
        cases ee
        · have HV : Hid (r = (k : Int)) := Lib.hid (by
            rw [← HR.out]
            refine apD_at HT.out (by rw [evD_len, HL.out]; omega) (by rw [evD_len, HM.out]; omega) ?_ (.inr (.inr ?_))
            · intro e
              rw [e, HG2.out] at HG1
              have := Option.some.inj HG1.out
              have h2 := HE.out
              rw [eSame_iff.2 this.symm] at h2; cases h2
            · intro e
              rw [HG1.out, HG2.out] at e
              have h2 := HE.out
              rw [eSame_iff.2 (Option.some.inj e)] at h2; cases h2)
          go_wp2_with fail
          refine rg_begin 22 rfl (S := fun W => St _ _ W ([] : List Res)) (by kernel_rfl) (H.drew.sub sU) ?_
          replace H := H.drew
          have HS := H
          refine rg_take (i := 0) rfl kR kR kR (Yld.move rfl rfl) (H.sub sU) ?_; simp only [pS, pE]
          refine rg_take (i := 1) rfl kR kR kR (Yld.move rfl rfl) (H.sub sU) ?_; simp only [pS, pE]
          refine rg_take (i := 2) rfl kR kR kR (Yld.o rfl) (H.sub sU) ?_; simp only [pS]
          refine rg_take (i := 3) rfl kR kR kR (Yld.of (v := .bool false) rfl (fun W _ => by go_simp; first | done | exact HA1.out | (rw [HA1.out]) | (simpa using HA1.out))) (H.sub sU) ?_; simp only [pS, pE]
          refine rg_take (i := 4) rfl kR kR kR (Yld.move rfl rfl) (H.sub sU) ?_; simp only [pS, pE]
          refine rg_take (i := 5) rfl kR kR kR (Yld.move rfl rfl) (H.sub sU) ?_; simp only [pS, pE]
          refine rg_take (i := 6) rfl kR kR kR (Yld.move rfl rfl) (H.sub sU) ?_; simp only [pS, pE]
          refine rg_take (i := 7) rfl kR kR kR (Yld.o rfl) (H.sub sU) ?_; simp only [pS]
          refine rg_take (i := 8) rfl kR kR kR (Yld.of (v := .bool false) rfl (fun W _ => by go_simp; first | done | exact HA2.out | (rw [HA2.out]) | (simpa using HA2.out))) (H.sub sU) ?_; simp only [pS, pE]
          refine rg_take (i := 9) rfl kR kR kR (Yld.pick rfl rfl rfl) (H.sub sU) ?_; simp only [pS, pE]
          refine rg_take (i := 10) rfl kR kR kR (Yld.move rfl rfl) (H.sub sU) ?_; simp only [pS, pE]
          refine rg_take (i := 11) rfl kR kR kR (Yld.move rfl rfl) (H.sub sU) ?_; simp only [pS, pE]
          refine rg_take (i := 12) rfl kR kR kR (Yld.move rfl rfl) (H.sub sU) ?_; simp only [pS, pE]
          refine rg_take (i := 13) rfl kR kR kR (Yld.o rfl) (H.sub sU) ?_; simp only [pS]
          first | (refine rg_take (i := 14) rfl kR kR kR (Yld.ldor rfl rfl agg62 size62 rfl (by assumption) sZ (by assumption)) (H.sub sU) ?_; simp only [pS]) | (refine rg_take (i := 14) rfl kR kR kR (Yld.ldr rfl rfl agg62 size62 rfl mR sZ) (H.sub sU) ?_; simp only [pS]) | (refine rg_take (i := 14) rfl kR kR kR (Yld.ldl rfl rfl agg62 size62 rfl mR (by simp)) (H.sub sU) ?_; simp only [pS]; simp only [List.drop_succ_cons, List.drop_zero, List.take_succ_cons, List.take_zero])
          refine rg_take (i := 15) rfl kR kR kR (Yld.move rfl rfl) (H.sub sU) ?_; simp only [pS, pE]
          refine rg_take (i := 16) rfl kR kR kR (Yld.move rfl rfl) (H.sub sU) ?_; simp only [pS, pE]
          refine rg_take (i := 17) rfl kR kR kR (Yld.o rfl) (H.sub sU) ?_; simp only [pS]
          first | (refine rg_take (i := 18) rfl kR kR kR (Yld.ldor rfl rfl agg62 size62 rfl (by assumption) sZ (by assumption)) (H.sub sU) ?_; simp only [pS]) | (refine rg_take (i := 18) rfl kR kR kR (Yld.ldr rfl rfl agg62 size62 rfl mR sZ) (H.sub sU) ?_; simp only [pS]) | (refine rg_take (i := 18) rfl kR kR kR (Yld.ldl rfl rfl agg62 size62 rfl mR (by simp)) (H.sub sU) ?_; simp only [pS]; simp only [List.drop_succ_cons, List.drop_zero, List.take_succ_cons, List.take_zero])
          refine rg_one (i := 19) (by kernel_rfl) rfl rfl (fun K hK => ?_)
          refine wp_callf rfl ent27 (rsev_is x z hx hz _ HE.out _ (HE1.out.grow H.below) (HE2.out.grow H.below) HW1.out HW2.out) rfl (fun v w1 hr => ?_)
          obtain ⟨rfl, hb1⟩ := hr
          replace H := H.grow hb1
          clear hb1
          clear HS
          have HS := H
          refine hK.out _ _ (H.sub sU) ?_
          clear hK K
          simp only [pS]
          refine rg_take (i := 20) rfl kR kR kR (Yld.o rfl) (H.sub sU) ?_; simp only [pS]
          refine rg_take (i := 21) rfl kR kR kR (Yld.pick rfl rfl rfl) (H.sub sU) ?_; simp only [pS, pE]
          refine rg_done (by kernel_rfl) ?_
          go_wp2_with fail
          go_ret
          exact ⟨_, rfl, by rw [HV.out]; rfl, H.below⟩
        · have HV : Hid ((evD a).take (k + 1) = (evD b).take (k + 1)) := Lib.hid (by rw [HT1.out, HT2.out, HT.out, eSame_iff.1 HE.out])
          go_wp2_with fail
          refine rg_begin 22 rfl (S := fun W => St _ _ W ([] : List Res)) (by kernel_rfl) (H.drew.sub sU) ?_
          replace H := H.drew
          have HS := H
          refine rg_take (i := 0) rfl kR kR kR (Yld.move rfl rfl) (H.sub sU) ?_; simp only [pS, pE]
          refine rg_take (i := 1) rfl kR kR kR (Yld.move rfl rfl) (H.sub sU) ?_; simp only [pS, pE]
          refine rg_take (i := 2) rfl kR kR kR (Yld.o rfl) (H.sub sU) ?_; simp only [pS]
          refine rg_take (i := 3) rfl kR kR kR (Yld.of (v := .bool false) rfl (fun W _ => by go_simp; first | done | exact HA1.out | (rw [HA1.out]) | (simpa using HA1.out))) (H.sub sU) ?_; simp only [pS, pE]
          refine rg_take (i := 4) rfl kR kR kR (Yld.move rfl rfl) (H.sub sU) ?_; simp only [pS, pE]
          refine rg_take (i := 5) rfl kR kR kR (Yld.move rfl rfl) (H.sub sU) ?_; simp only [pS, pE]
          refine rg_take (i := 6) rfl kR kR kR (Yld.move rfl rfl) (H.sub sU) ?_; simp only [pS, pE]
          refine rg_take (i := 7) rfl kR kR kR (Yld.o rfl) (H.sub sU) ?_; simp only [pS]
          refine rg_take (i := 8) rfl kR kR kR (Yld.of (v := .bool false) rfl (fun W _ => by go_simp; first | done | exact HA2.out | (rw [HA2.out]) | (simpa using HA2.out))) (H.sub sU) ?_; simp only [pS, pE]
          refine rg_take (i := 9) rfl kR kR kR (Yld.pick rfl rfl rfl) (H.sub sU) ?_; simp only [pS, pE]
          refine rg_take (i := 10) rfl kR kR kR (Yld.move rfl rfl) (H.sub sU) ?_; simp only [pS, pE]
          refine rg_take (i := 11) rfl kR kR kR (Yld.move rfl rfl) (H.sub sU) ?_; simp only [pS, pE]
          refine rg_take (i := 12) rfl kR kR kR (Yld.move rfl rfl) (H.sub sU) ?_; simp only [pS, pE]
          refine rg_take (i := 13) rfl kR kR kR (Yld.o rfl) (H.sub sU) ?_; simp only [pS]
          first | (refine rg_take (i := 14) rfl kR kR kR (Yld.ldor rfl rfl agg62 size62 rfl (by assumption) sZ (by assumption)) (H.sub sU) ?_; simp only [pS]) | (refine rg_take (i := 14) rfl kR kR kR (Yld.ldr rfl rfl agg62 size62 rfl mR sZ) (H.sub sU) ?_; simp only [pS]) | (refine rg_take (i := 14) rfl kR kR kR (Yld.ldl rfl rfl agg62 size62 rfl mR (by simp)) (H.sub sU) ?_; simp only [pS]; simp only [List.drop_succ_cons, List.drop_zero, List.take_succ_cons, List.take_zero])
          refine rg_take (i := 15) rfl kR kR kR (Yld.move rfl rfl) (H.sub sU) ?_; simp only [pS, pE]
          refine rg_take (i := 16) rfl kR kR kR (Yld.move rfl rfl) (H.sub sU) ?_; simp only [pS, pE]
          refine rg_take (i := 17) rfl kR kR kR (Yld.o rfl) (H.sub sU) ?_; simp only [pS]
          first | (refine rg_take (i := 18) rfl kR kR kR (Yld.ldor rfl rfl agg62 size62 rfl (by assumption) sZ (by assumption)) (H.sub sU) ?_; simp only [pS]) | (refine rg_take (i := 18) rfl kR kR kR (Yld.ldr rfl rfl agg62 size62 rfl mR sZ) (H.sub sU) ?_; simp only [pS]) | (refine rg_take (i := 18) rfl kR kR kR (Yld.ldl rfl rfl agg62 size62 rfl mR (by simp)) (H.sub sU) ?_; simp only [pS]; simp only [List.drop_succ_cons, List.drop_zero, List.take_succ_cons, List.take_zero])
          refine rg_one (i := 19) (by kernel_rfl) rfl rfl (fun K hK => ?_)
          refine wp_callf rfl ent27 (rsev_is x z hx hz _ HE.out _ (HE1.out.grow H.below) (HE2.out.grow H.below) HW1.out HW2.out) rfl (fun v w1 hr => ?_)
          obtain ⟨rfl, hb1⟩ := hr
          replace H := H.grow hb1
          clear hb1
          clear HS
          have HS := H
          refine hK.out _ _ (H.sub sU) ?_
          clear hK K
          simp only [pS]
          refine rg_take (i := 20) rfl kR kR kR (Yld.o rfl) (H.sub sU) ?_; simp only [pS]
          refine rg_take (i := 21) rfl kR kR kR (Yld.pick rfl rfl rfl) (H.sub sU) ?_; simp only [pS, pE]
          refine rg_done (by kernel_rfl) ?_
          go_wp2_with fail
          go_roundw
          case rel => exact ⟨k + 1, by omega, by omega, by go_num, HV, H.sub sU⟩
          case measure => simp [intOf]; omega
      · obtain rfl : k = m := by omega
        have HA2 : Hid (decide ((k : Int) ≤ (k : Int)) = true) := Lib.hid (decide_eq_true (by omega))
        have HV : Hid (r = (k : Int)) := Lib.hid (by
          rw [← HR.out]
          refine apD_at HT.out (by rw [evD_len, HL.out]; omega) (by rw [evD_len, HM.out]; omega) (fun e => ?_) (.inr (.inl (by rw [evD_len, HM.out])))
          have := congrArg List.length e
          rw [evD_len, evD_len, HL.out, HM.out] at this; omega)
        go_wp2_with fail
        refine rg_begin 22 rfl (S := fun W => St _ _ W ([] : List Res)) (by kernel_rfl) (H.drew.sub sU) ?_
        replace H := H.drew
        have HS := H
        refine rg_take (i := 0) rfl kR kR kR (Yld.move rfl rfl) (H.sub sU) ?_; simp only [pS, pE]
        refine rg_take (i := 1) rfl kR kR kR (Yld.move rfl rfl) (H.sub sU) ?_; simp only [pS, pE]
        refine rg_take (i := 2) rfl kR kR kR (Yld.o rfl) (H.sub sU) ?_; simp only [pS]
        refine rg_take (i := 3) rfl kR kR kR (Yld.of (v := .bool false) rfl (fun W _ => by go_simp; first | done | exact HA1.out | (rw [HA1.out]) | (simpa using HA1.out))) (H.sub sU) ?_; simp only [pS, pE]
        refine rg_take (i := 4) rfl kR kR kR (Yld.move rfl rfl) (H.sub sU) ?_; simp only [pS, pE]
        refine rg_take (i := 5) rfl kR kR kR (Yld.move rfl rfl) (H.sub sU) ?_; simp only [pS, pE]
        refine rg_take (i := 6) rfl kR kR kR (Yld.move rfl rfl) (H.sub sU) ?_; simp only [pS, pE]
        refine rg_take (i := 7) rfl kR kR kR (Yld.o rfl) (H.sub sU) ?_; simp only [pS]
        refine rg_take (i := 8) rfl kR kR kR (Yld.of (v := .bool true) rfl (fun W _ => by go_simp; first | done | exact HA2.out | (rw [HA2.out]) | (simpa using HA2.out))) (H.sub sU) ?_; simp only [pS, pE]
        refine rg_take (i := 9) rfl kR kR kR (Yld.pick rfl rfl rfl) (H.sub sU) ?_; simp only [pS, pE]
        refine rg_take (i := 10) rfl kR kR kR (Yld.move rfl rfl) (H.sub sU) ?_; simp only [pS, pE]
        refine rg_take (i := 11) rfl kR kR kR (Yld.skip rfl) (H.sub sU) ?_; simp only [pS]
        refine rg_take (i := 12) rfl kR kR kR (Yld.skip rfl) (H.sub sU) ?_; simp only [pS]
        refine rg_take (i := 13) rfl kR kR kR (Yld.skip rfl) (H.sub sU) ?_; simp only [pS]
        refine rg_take (i := 14) rfl kR kR kR (Yld.skip rfl) (H.sub sU) ?_; simp only [pS]
        refine rg_take (i := 15) rfl kR kR kR (Yld.skip rfl) (H.sub sU) ?_; simp only [pS]
        refine rg_take (i := 16) rfl kR kR kR (Yld.skip rfl) (H.sub sU) ?_; simp only [pS]
        refine rg_take (i := 17) rfl kR kR kR (Yld.skip rfl) (H.sub sU) ?_; simp only [pS]
        refine rg_take (i := 18) rfl kR kR kR (Yld.skip rfl) (H.sub sU) ?_; simp only [pS]
        refine rg_take (i := 19) rfl kR kR kR (Yld.skip rfl) (H.sub sU) ?_; simp only [pS]
        refine rg_take (i := 20) rfl kR kR kR (Yld.skip rfl) (H.sub sU) ?_; simp only [pS]
        refine rg_take (i := 21) rfl kR kR kR (Yld.pick rfl rfl rfl) (H.sub sU) ?_; simp only [pS, pE]
        refine rg_done (by kernel_rfl) ?_
        go_wp2_with fail
        go_ret
        exact ⟨_, rfl, by rw [HV.out]; rfl, H.below⟩
    · obtain rfl : k = n := by omega
      have HA1 : Hid (decide ((k : Int) ≤ (k : Int)) = true) := Lib.hid (decide_eq_true (by omega))
      by_cases hlm : k < m
      · have klm : (k : Int) < (m : Int) := by omega
        have HV : Hid (r = (k : Int)) := Lib.hid (by
          rw [← HR.out]
          refine apD_at HT.out (by rw [evD_len, HL.out]; omega) (by rw [evD_len, HM.out]; omega) (fun e => ?_) (.inl (by rw [evD_len, HL.out]))
          have := congrArg List.length e
          rw [evD_len, evD_len, HL.out, HM.out] at this; omega)
        go_wp2_with fail
        refine rg_begin 22 rfl (S := fun W => St _ _ W ([] : List Res)) (by kernel_rfl) (H.drew.sub sU) ?_
        replace H := H.drew
        have HS := H
        refine rg_take (i := 0) rfl kR kR kR (Yld.move rfl rfl) (H.sub sU) ?_; simp only [pS, pE]
        refine rg_take (i := 1) rfl kR kR kR (Yld.move rfl rfl) (H.sub sU) ?_; simp only [pS, pE]
        refine rg_take (i := 2) rfl kR kR kR (Yld.o rfl) (H.sub sU) ?_; simp only [pS]
        refine rg_take (i := 3) rfl kR kR kR (Yld.of (v := .bool true) rfl (fun W _ => by go_simp; first | done | exact HA1.out | (rw [HA1.out]) | (simpa using HA1.out))) (H.sub sU) ?_; simp only [pS, pE]
        refine rg_take (i := 4) rfl kR kR kR (Yld.move rfl rfl) (H.sub sU) ?_; simp only [pS, pE]
        refine rg_take (i := 5) rfl kR kR kR (Yld.skip rfl) (H.sub sU) ?_; simp only [pS]
        refine rg_take (i := 6) rfl kR kR kR (Yld.skip rfl) (H.sub sU) ?_; simp only [pS]
        refine rg_take (i := 7) rfl kR kR kR (Yld.skip rfl) (H.sub sU) ?_; simp only [pS]
        refine rg_take (i := 8) rfl kR kR kR (Yld.skip rfl) (H.sub sU) ?_; simp only [pS]
        refine rg_take (i := 9) rfl kR kR kR (Yld.pick rfl rfl rfl) (H.sub sU) ?_; simp only [pS, pE]
        refine rg_take (i := 10) rfl kR kR kR (Yld.move rfl rfl) (H.sub sU) ?_; simp only [pS, pE]
        refine rg_take (i := 11) rfl kR kR kR (Yld.skip rfl) (H.sub sU) ?_; simp only [pS]
        refine rg_take (i := 12) rfl kR kR kR (Yld.skip rfl) (H.sub sU) ?_; simp only [pS]
        refine rg_take (i := 13) rfl kR kR kR (Yld.skip rfl) (H.sub sU) ?_; simp only [pS]
        refine rg_take (i := 14) rfl kR kR kR (Yld.skip rfl) (H.sub sU) ?_; simp only [pS]
        refine rg_take (i := 15) rfl kR kR kR (Yld.skip rfl) (H.sub sU) ?_; simp only [pS]
        refine rg_take (i := 16) rfl kR kR kR (Yld.skip rfl) (H.sub sU) ?_; simp only [pS]
        refine rg_take (i := 17) rfl kR kR kR (Yld.skip rfl) (H.sub sU) ?_; simp only [pS]
        refine rg_take (i := 18) rfl kR kR kR (Yld.skip rfl) (H.sub sU) ?_; simp only [pS]
        refine rg_take (i := 19) rfl kR kR kR (Yld.skip rfl) (H.sub sU) ?_; simp only [pS]
        refine rg_take (i := 20) rfl kR kR kR (Yld.skip rfl) (H.sub sU) ?_; simp only [pS]
        refine rg_take (i := 21) rfl kR kR kR (Yld.pick rfl rfl rfl) (H.sub sU) ?_; simp only [pS, pE]
        refine rg_done (by kernel_rfl) ?_
        go_wp2_with fail
        go_ret
        exact ⟨_, rfl, by rw [HV.out]; rfl, H.below⟩
      · obtain rfl : k = m := by omega
        have HV : Hid (r = -1) := Lib.hid (by
          rw [← HR.out]
          refine apD_eq ?_
          have := HT.out
          rw [List.take_of_length_le (by rw [evD_len, HL.out]; omega), List.take_of_length_le (by rw [evD_len, HM.out]; omega)] at this
          exact this)
        go_wp2_with fail
        go_ret
        exact ⟨_, rfl, by rw [HV.out]; rfl, H.below⟩
end Go.Proofs.Ytbepaafgcbgmfaa
