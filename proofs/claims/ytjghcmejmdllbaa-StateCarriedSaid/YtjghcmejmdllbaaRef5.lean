/- The reference's rising (choragusref08), the plain law of it; no condition. -/
import Derived.Test.YtjghcmejmdllbaaRef4
namespace Go.Proofs.Ytjghcmejmdllbaa
open Go.ChangeShapes Go.WideShapes Go.ChangeAt Go.RowKit Go.Maps
set_option linter.unusedVariables false
set_option linter.unusedSimpArgs false
/-- Where the last of some stands. -/
def lastR (m : List Pr) (d : Int) : List Pr → Int
  | [] => d
  | p :: r => lastR m (atR m p) r
theorem lastR_snoc (m : List Pr) (d : Int) (l : List Pr) (x : Pr) : lastR m d (l ++ [x]) = atR m x := by
  induction l generalizing d with
  | nil => rfl
  | cons p r ih => exact ih _
theorem risA_snoc (m : List Pr) (d : Int) (l : List Pr) (x : Pr) : risA m d (l ++ [x]) = (risA m d l && (decide (0 ≤ atR m x) && decide (lastR m d l < atR m x))) := by
  induction l generalizing d with
  | nil =>
    unfold atR
    cases h : rank m x with
    | none => simp [risA, lastR, h]
    | some k => rw [Bool.eq_iff_iff]; simp [risA, lastR, h]; exact ⟨fun h => decide_eq_true h, fun h => of_decide_eq_true h⟩
  | cons p r ih =>
    simp only [List.cons_append, risA, lastR]
    cases h : rank m p with
    | none => simp
    | some k =>
      have ha : atR m p = k := by unfold atR; rw [h]
      simp only [ih, ha, Bool.and_assoc]
theorem risA_take (m : List Pr) (d : Int) (l : List Pr) (k : Nat) (h : risA m d (l.take k) = false) : risA m d l = false := by
  induction l generalizing d k with
  | nil => simpa using h
  | cons p r ih =>
    cases k with
    | zero => cases h
    | succ k =>
      simp only [List.take_succ_cons, risA] at h ⊢
      cases hr : rank m p with
      | none => rfl
      | some j =>
        rw [hr] at h
        simp only [Bool.and_eq_false_iff] at h ⊢
        exact h.imp id (ih j k)
set_option maxRecDepth 100000 in
set_option maxHeartbeats 2000000 in
theorem rrising_is (va vb : Value) (m l : List Pr) (w : World) (e : Bool) (he : risB m l = e) (ha : Sl w 2 m.length va (elQ m)) (hb : Sl w 2 l.length vb (elQ l)) :
    Calls Try.prog 130 #[va, vb] w (Ret fun v w' => v = .bool e ∧ Below w.heap.size w w') := by
  have H := St.init w
  subst he
  have ha' := ha
  have hb' := hb
  obtain ⟨aa, ca, rfl, hma, _⟩ := ha'
  obtain ⟨ab, cb, rfl, hmb, _⟩ := hb'
  unfold maxLen at hma hmb
  obtain ⟨n, hn⟩ : ∃ n, l.length = n := ⟨_, rfl⟩
  have HN := Lib.hid hn
  rw [hn] at hb hmb ⊢
  clear hn
  go_enter Try.func130, Try.ntmps130
  go_wp2_with fail
  go_loopw [5] (fun i wr => ∃ k : Nat, k ≤ n ∧ i = .int .i64 k ∧ Hid (risA m (-1) (l.take k) = true) ∧ St w.heap.size w wr []) (fun i _ => n - (intOf i).toNat)
  case atStart => exact ⟨0, Nat.zero_le _, rfl, Lib.hid (by simp [risA]), H⟩
  case round =>
    clear H
    obtain ⟨k, hk, rfl, HT, H⟩ := hrel
    by_cases hlt : k < n
    · have hl1 : k < l.length := by rw [HN.out]; exact hlt
      obtain ⟨b1, o1, rfl, hb1⟩ := hb.addr (by omega)
      have hc1 := hb.cell hlt
      unfold elQ at hc1
      rw [getD_at hl1] at hc1
      have hs1 := List.take_succ_eq_append_getElem hl1
      have hf := risA_take m (-1) l (k + 1)
      have hsn := risA_snoc m (-1) (l.take k) l[k]
      rw [← hs1, HT.out, Bool.true_and] at hsn
      have hlz : ∀ j (hj : j < l.length), k = j + 1 → lastR m (-1) (l.take k) = atR m l[j] := by
        intro j hj e
        rw [e, List.take_succ_eq_append_getElem hj, lastR_snoc]
      obtain ⟨⟨x, y⟩, hx⟩ : ∃ x, l[k] = x := ⟨_, rfl⟩
      rw [hx] at hc1 hsn
      obtain ⟨r1, hr1⟩ : ∃ r, atR m (x, y) = r := ⟨_, rfl⟩
      have HR1 := Lib.hid hr1
      rw [hr1] at hsn
      have HF := Lib.hid hf
      have HSN := Lib.hid hsn
      have HLZ := Lib.hid hlz
      have kli : (k : Int) < (n : Int) := by omega
      clear hs1 hf hsn hlz hx hr1
      by_cases h1 : r1 < 0
      · have HV : Hid (risB m l = false) := Lib.hid (HF.out (by rw [HSN.out, decide_eq_false (by omega), Bool.false_and]))
        have h1d : decide (r1 < 0) = true := decide_eq_true h1
        go_wp2_with fail
        refine rg_begin 27 rfl (S := fun W => St _ _ W _) (by kernel_rfl) H.drew ?_
        replace H := H.drew
        have HS := H
        refine rg_take (i := 0) rfl kR kR kR (Yld.move rfl rfl) (H.sub sU) ?_; simp only [pS, pE]
        refine rg_take (i := 1) rfl kR kR kR (Yld.move rfl rfl) (H.sub sU) ?_; simp only [pS, pE]
        refine rg_take (i := 2) rfl kR kR kR (Yld.move rfl rfl) (H.sub sU) ?_; simp only [pS, pE]
        refine rg_take (i := 3) rfl kR kR kR (Yld.o rfl) (H.sub sU) ?_; simp only [pS]
        first | (refine rg_take (i := 4) rfl kR kR kR (Yld.ldr rfl rfl agg36 size36 rfl mR sZ) (H.sub sU) ?_; simp only [pS]) | (refine rg_take (i := 4) rfl kR kR kR (Yld.ldl rfl rfl agg36 size36 rfl mR (by simp)) (H.sub sU) ?_; simp only [pS]; simp only [List.drop_succ_cons, List.drop_zero, List.take_succ_cons, List.take_zero]) | (refine rg_take (i := 4) rfl kR kR kR (Yld.ldor rfl rfl agg36 size36 rfl (by assumption) sZ (by assumption)) (H.sub sU) ?_; simp only [pS])
        refine rg_one (i := 5) (by kernel_rfl) rfl rfl (fun K hK => ?_)
        refine wp_callf rfl ent65 (rat_is _ m (x, y) _ (ha.grow H.below)) rfl (fun v w1 hr => ?_)
        rw [HR1.out] at hr
        obtain ⟨rfl, hb1⟩ := hr
        replace H := H.grow hb1
        clear hb1
        clear HS
        have HS := H
        refine hK.out _ _ (H.sub sU) ?_
        clear hK K
        simp only [pS]
        refine rg_take (i := 6) rfl kR kR kR (Yld.o rfl) (H.sub sU) ?_; simp only [pS]
        refine rg_take (i := 7) rfl kR kR kR (Yld.move rfl rfl) (H.sub sU) ?_; simp only [pS, pE]
        refine rg_take (i := 8) rfl kR kR kR (Yld.skip rfl) (H.sub sU) ?_; simp only [pS]
        refine rg_take (i := 9) rfl kR kR kR (Yld.skip rfl) (H.sub sU) ?_; simp only [pS]
        refine rg_take (i := 10) rfl kR kR kR (Yld.skip rfl) (H.sub sU) ?_; simp only [pS]
        refine rg_take (i := 11) rfl kR kR kR (Yld.skip rfl) (H.sub sU) ?_; simp only [pS]
        refine rg_take (i := 12) rfl kR kR kR (Yld.skip rfl) (H.sub sU) ?_; simp only [pS]
        refine rg_take (i := 13) rfl kR kR kR (Yld.skip rfl) (H.sub sU) ?_; simp only [pS]
        refine rg_take (i := 14) rfl kR kR kR (Yld.skip rfl) (H.sub sU) ?_; simp only [pS]
        refine rg_take (i := 15) rfl kR kR kR (Yld.skip rfl) (H.sub sU) ?_; simp only [pS]
        refine rg_take (i := 16) rfl kR kR kR (Yld.skip rfl) (H.sub sU) ?_; simp only [pS]
        refine rg_take (i := 17) rfl kR kR kR (Yld.skip rfl) (H.sub sU) ?_; simp only [pS]
        refine rg_take (i := 18) rfl kR kR kR (Yld.skip rfl) (H.sub sU) ?_; simp only [pS]
        refine rg_take (i := 19) rfl kR kR kR (Yld.skip rfl) (H.sub sU) ?_; simp only [pS]
        refine rg_take (i := 20) rfl kR kR kR (Yld.skip rfl) (H.sub sU) ?_; simp only [pS]
        refine rg_take (i := 21) rfl kR kR kR (Yld.skip rfl) (H.sub sU) ?_; simp only [pS]
        refine rg_take (i := 22) rfl kR kR kR (Yld.skip rfl) (H.sub sU) ?_; simp only [pS]
        refine rg_take (i := 23) rfl kR kR kR (Yld.skip rfl) (H.sub sU) ?_; simp only [pS]
        refine rg_take (i := 24) rfl kR kR kR (Yld.skip rfl) (H.sub sU) ?_; simp only [pS]
        refine rg_take (i := 25) rfl kR kR kR (Yld.skip rfl) (H.sub sU) ?_; simp only [pS]
        refine rg_take (i := 26) rfl kR kR kR (Yld.pick rfl rfl rfl) (H.sub sU) ?_; simp only [pS, pE]
        refine rg_done (by kernel_rfl) ?_
        go_wp2_with fail
        go_ret
        exact ⟨_, rfl, by rw [HV.out]; rfl, H.below⟩
      · have h1d : decide (r1 < 0) = false := decide_eq_false h1
        rcases Nat.eq_zero_or_pos k with rfl | hk0
        · have HV : Hid (risA m (-1) (l.take (0 + 1)) = true) := Lib.hid (by rw [HSN.out, decide_eq_true (by omega), Bool.true_and]; exact decide_eq_true (by show (-1 : Int) < r1; omega))
          go_wp2_with fail
          refine rg_begin 27 rfl (S := fun W => St _ _ W _) (by kernel_rfl) H.drew ?_
          replace H := H.drew
          have HS := H
          refine rg_take (i := 0) rfl kR kR kR (Yld.move rfl rfl) (H.sub sU) ?_; simp only [pS, pE]
          refine rg_take (i := 1) rfl kR kR kR (Yld.move rfl rfl) (H.sub sU) ?_; simp only [pS, pE]
          refine rg_take (i := 2) rfl kR kR kR (Yld.move rfl rfl) (H.sub sU) ?_; simp only [pS, pE]
          refine rg_take (i := 3) rfl kR kR kR (Yld.o rfl) (H.sub sU) ?_; simp only [pS]
          first | (refine rg_take (i := 4) rfl kR kR kR (Yld.ldr rfl rfl agg36 size36 rfl mR sZ) (H.sub sU) ?_; simp only [pS]) | (refine rg_take (i := 4) rfl kR kR kR (Yld.ldl rfl rfl agg36 size36 rfl mR (by simp)) (H.sub sU) ?_; simp only [pS]; simp only [List.drop_succ_cons, List.drop_zero, List.take_succ_cons, List.take_zero]) | (refine rg_take (i := 4) rfl kR kR kR (Yld.ldor rfl rfl agg36 size36 rfl (by assumption) sZ (by assumption)) (H.sub sU) ?_; simp only [pS])
          refine rg_one (i := 5) (by kernel_rfl) rfl rfl (fun K hK => ?_)
          refine wp_callf rfl ent65 (rat_is _ m (x, y) _ (ha.grow H.below)) rfl (fun v w1 hr => ?_)
          rw [HR1.out] at hr
          obtain ⟨rfl, hb1⟩ := hr
          replace H := H.grow hb1
          clear hb1
          clear HS
          have HS := H
          refine hK.out _ _ (H.sub sU) ?_
          clear hK K
          simp only [pS]
          refine rg_take (i := 6) rfl kR kR kR (Yld.o rfl) (H.sub sU) ?_; simp only [pS]
          refine rg_take (i := 7) rfl kR kR kR (Yld.move rfl rfl) (H.sub sU) ?_; simp only [pS, pE]
          refine rg_take (i := 8) rfl kR kR kR (Yld.move rfl rfl) (H.sub sU) ?_; simp only [pS, pE]
          refine rg_take (i := 9) rfl kR kR kR (Yld.o rfl) (H.sub sU) ?_; simp only [pS]
          refine rg_take (i := 10) rfl kR kR kR (Yld.move rfl rfl) (H.sub sU) ?_; simp only [pS, pE]
          refine rg_take (i := 11) rfl kR kR kR (Yld.skip rfl) (H.sub sU) ?_; simp only [pS]
          refine rg_take (i := 12) rfl kR kR kR (Yld.skip rfl) (H.sub sU) ?_; simp only [pS]
          refine rg_take (i := 13) rfl kR kR kR (Yld.skip rfl) (H.sub sU) ?_; simp only [pS]
          refine rg_take (i := 14) rfl kR kR kR (Yld.skip rfl) (H.sub sU) ?_; simp only [pS]
          refine rg_take (i := 15) rfl kR kR kR (Yld.skip rfl) (H.sub sU) ?_; simp only [pS]
          refine rg_take (i := 16) rfl kR kR kR (Yld.skip rfl) (H.sub sU) ?_; simp only [pS]
          refine rg_take (i := 17) rfl kR kR kR (Yld.skip rfl) (H.sub sU) ?_; simp only [pS]
          refine rg_take (i := 18) rfl kR kR kR (Yld.skip rfl) (H.sub sU) ?_; simp only [pS]
          refine rg_take (i := 19) rfl kR kR kR (Yld.skip rfl) (H.sub sU) ?_; simp only [pS]
          refine rg_take (i := 20) rfl kR kR kR (Yld.skip rfl) (H.sub sU) ?_; simp only [pS]
          refine rg_take (i := 21) rfl kR kR kR (Yld.skip rfl) (H.sub sU) ?_; simp only [pS]
          refine rg_take (i := 22) rfl kR kR kR (Yld.skip rfl) (H.sub sU) ?_; simp only [pS]
          refine rg_take (i := 23) rfl kR kR kR (Yld.skip rfl) (H.sub sU) ?_; simp only [pS]
          refine rg_take (i := 24) rfl kR kR kR (Yld.skip rfl) (H.sub sU) ?_; simp only [pS]
          refine rg_take (i := 25) rfl kR kR kR (Yld.pick rfl rfl rfl) (H.sub sU) ?_; simp only [pS, pE]
          refine rg_take (i := 26) rfl kR kR kR (Yld.pick rfl rfl rfl) (H.sub sU) ?_; simp only [pS, pE]
          refine rg_done (by kernel_rfl) ?_
          go_wp2_with fail
          go_roundw
          case rel => exact ⟨1, by omega, by go_num, HV, H⟩
          case measure => simp [intOf]; omega
        · obtain ⟨j, rfl⟩ : ∃ j, k = j + 1 := ⟨k - 1, by omega⟩
          have hj : j < l.length := by omega
          have hcj := hb.cell (show j < n by omega)
          unfold elQ at hcj
          rw [getD_at hj] at hcj
          have hlj := HLZ.out j hj rfl
          obtain ⟨⟨z, t⟩, hz⟩ : ∃ z, l[j] = z := ⟨_, rfl⟩
          rw [hz] at hcj hlj
          obtain ⟨r0, hr0⟩ : ∃ r, atR m (z, t) = r := ⟨_, rfl⟩
          have HR0 := Lib.hid hr0
          rw [hr0] at hlj
          have HLJ := Lib.hid hlj
          have k0i : decide ((0 : Int) < (j : Int) + 1) = true := decide_eq_true (by omega)
          have jw : IntKind.i64.wrap (j : Int) = (j : Int) := by rw [IntKind.wrap_i64]; omega
          have jni : (j : Int) < (n : Int) := by omega
          have j0i : (0 : Int) ≤ (j : Int) + 1 := by omega
          have kji : ((j + 1 : Nat) : Int) - 1 = (j : Int) := by omega
          clear hr0 hlj hz
          by_cases h2 : r0 < r1
          · have h2i : ¬ r1 ≤ r0 := by omega
            have HV : Hid (risA m (-1) (l.take (j + 1 + 1)) = true) := Lib.hid (by rw [HSN.out, HLJ.out, decide_eq_true (by omega), Bool.true_and]; exact decide_eq_true h2)
            have h2d : decide (r1 ≤ r0) = false := decide_eq_false h2i
            go_wp2_with fail
            refine rg_begin 27 rfl (S := fun W => St _ _ W _) (by kernel_rfl) H.drew ?_
            replace H := H.drew
            have HS := H
            refine rg_take (i := 0) rfl kR kR kR (Yld.move rfl rfl) (H.sub sU) ?_; simp only [pS, pE]
            refine rg_take (i := 1) rfl kR kR kR (Yld.move rfl rfl) (H.sub sU) ?_; simp only [pS, pE]
            refine rg_take (i := 2) rfl kR kR kR (Yld.move rfl rfl) (H.sub sU) ?_; simp only [pS, pE]
            refine rg_take (i := 3) rfl kR kR kR (Yld.o rfl) (H.sub sU) ?_; simp only [pS]
            first | (refine rg_take (i := 4) rfl kR kR kR (Yld.ldr rfl rfl agg36 size36 rfl mR sZ) (H.sub sU) ?_; simp only [pS]) | (refine rg_take (i := 4) rfl kR kR kR (Yld.ldl rfl rfl agg36 size36 rfl mR (by simp)) (H.sub sU) ?_; simp only [pS]; simp only [List.drop_succ_cons, List.drop_zero, List.take_succ_cons, List.take_zero]) | (refine rg_take (i := 4) rfl kR kR kR (Yld.ldor rfl rfl agg36 size36 rfl (by assumption) sZ (by assumption)) (H.sub sU) ?_; simp only [pS])
            refine rg_one (i := 5) (by kernel_rfl) rfl rfl (fun K hK => ?_)
            refine wp_callf rfl ent65 (rat_is _ m (x, y) _ (ha.grow H.below)) rfl (fun v w1 hr => ?_)
            rw [HR1.out] at hr
            obtain ⟨rfl, hb1⟩ := hr
            replace H := H.grow hb1
            clear hb1
            clear HS
            have HS := H
            refine hK.out _ _ (H.sub sU) ?_
            clear hK K
            simp only [pS]
            refine rg_take (i := 6) rfl kR kR kR (Yld.o rfl) (H.sub sU) ?_; simp only [pS]
            refine rg_take (i := 7) rfl kR kR kR (Yld.move rfl rfl) (H.sub sU) ?_; simp only [pS, pE]
            refine rg_take (i := 8) rfl kR kR kR (Yld.move rfl rfl) (H.sub sU) ?_; simp only [pS, pE]
            refine rg_take (i := 9) rfl kR kR kR (Yld.o rfl) (H.sub sU) ?_; simp only [pS]
            refine rg_take (i := 10) rfl kR kR kR (Yld.move rfl rfl) (H.sub sU) ?_; simp only [pS, pE]
            refine rg_take (i := 11) rfl kR kR kR (Yld.move rfl rfl) (H.sub sU) ?_; simp only [pS, pE]
            refine rg_take (i := 12) rfl kR kR kR (Yld.move rfl rfl) (H.sub sU) ?_; simp only [pS, pE]
            refine rg_take (i := 13) rfl kR kR kR (Yld.move rfl rfl) (H.sub sU) ?_; simp only [pS, pE]
            refine rg_take (i := 14) rfl kR kR kR (Yld.o rfl) (H.sub sU) ?_; simp only [pS]
            refine rg_take (i := 15) rfl kR kR kR (Yld.o rfl) (H.sub sU) ?_; simp only [pS]
            first | (refine rg_take (i := 16) rfl kR kR kR (Yld.ldr rfl rfl agg36 size36 rfl mR sZ) (H.sub sU) ?_; simp only [pS]) | (refine rg_take (i := 16) rfl kR kR kR (Yld.ldl rfl rfl agg36 size36 rfl mR (by simp)) (H.sub sU) ?_; simp only [pS]; simp only [List.drop_succ_cons, List.drop_zero, List.take_succ_cons, List.take_zero]) | (refine rg_take (i := 16) rfl kR kR kR (Yld.ldor rfl rfl agg36 size36 rfl (by assumption) sZ (by assumption)) (H.sub sU) ?_; simp only [pS])
            refine rg_take (i := 18) rfl kR kR kR (Yld.move rfl rfl) (H.sub sU) ?_; simp only [pS, pE]
            refine rg_take (i := 19) rfl kR kR kR (Yld.move rfl rfl) (H.sub sU) ?_; simp only [pS, pE]
            refine rg_take (i := 20) rfl kR kR kR (Yld.move rfl rfl) (H.sub sU) ?_; simp only [pS, pE]
            refine rg_take (i := 21) rfl kR kR kR (Yld.o rfl) (H.sub sU) ?_; simp only [pS]
            first | (refine rg_take (i := 22) rfl kR kR kR (Yld.ldr rfl rfl agg36 size36 rfl mR sZ) (H.sub sU) ?_; simp only [pS]) | (refine rg_take (i := 22) rfl kR kR kR (Yld.ldl rfl rfl agg36 size36 rfl mR (by simp)) (H.sub sU) ?_; simp only [pS]; simp only [List.drop_succ_cons, List.drop_zero, List.take_succ_cons, List.take_zero]) | (refine rg_take (i := 22) rfl kR kR kR (Yld.ldor rfl rfl agg36 size36 rfl (by assumption) sZ (by assumption)) (H.sub sU) ?_; simp only [pS])
            refine rg_one (i := 17) (by kernel_rfl) rfl rfl (fun K hK => ?_)
            refine wp_callf rfl ent65 (rat_is _ m (z, t) _ (ha.grow H.below)) rfl (fun v w1 hr => ?_)
            rw [HR0.out] at hr
            obtain ⟨rfl, hb1⟩ := hr
            replace H := H.grow hb1
            clear hb1
            clear HS
            have HS := H
            refine hK.out _ _ (H.sub sU) ?_
            clear hK K
            simp only [pS]
            refine rg_one (i := 23) (by kernel_rfl) rfl rfl (fun K hK => ?_)
            refine wp_callf rfl ent65 (rat_is _ m (x, y) _ (ha.grow H.below)) rfl (fun v w1 hr => ?_)
            rw [HR1.out] at hr
            obtain ⟨rfl, hb1⟩ := hr
            replace H := H.grow hb1
            clear hb1
            clear HS
            have HS := H
            refine hK.out _ _ (H.sub sU) ?_
            clear hK K
            simp only [pS]
            refine rg_take (i := 24) rfl kR kR kR (Yld.o rfl) (H.sub sU) ?_; simp only [pS]
            refine rg_take (i := 25) rfl kR kR kR (Yld.pick rfl rfl rfl) (H.sub sU) ?_; simp only [pS, pE]
            refine rg_take (i := 26) rfl kR kR kR (Yld.pick rfl rfl rfl) (H.sub sU) ?_; simp only [pS, pE]
            refine rg_done (by kernel_rfl) ?_
            go_wp2_with fail
            go_roundw
            case rel => exact ⟨j + 1 + 1, by omega, by go_num, HV, H⟩
            case measure => simp [intOf]; omega
          · have h2i : r1 ≤ r0 := by omega
            have HV : Hid (risB m l = false) := Lib.hid (HF.out (by rw [HSN.out, HLJ.out, decide_eq_false h2, Bool.and_false]))
            have h2d : decide (r1 ≤ r0) = true := decide_eq_true h2i
            go_wp2_with fail
            refine rg_begin 27 rfl (S := fun W => St _ _ W _) (by kernel_rfl) H.drew ?_
            replace H := H.drew
            have HS := H
            refine rg_take (i := 0) rfl kR kR kR (Yld.move rfl rfl) (H.sub sU) ?_; simp only [pS, pE]
            refine rg_take (i := 1) rfl kR kR kR (Yld.move rfl rfl) (H.sub sU) ?_; simp only [pS, pE]
            refine rg_take (i := 2) rfl kR kR kR (Yld.move rfl rfl) (H.sub sU) ?_; simp only [pS, pE]
            refine rg_take (i := 3) rfl kR kR kR (Yld.o rfl) (H.sub sU) ?_; simp only [pS]
            first | (refine rg_take (i := 4) rfl kR kR kR (Yld.ldr rfl rfl agg36 size36 rfl mR sZ) (H.sub sU) ?_; simp only [pS]) | (refine rg_take (i := 4) rfl kR kR kR (Yld.ldl rfl rfl agg36 size36 rfl mR (by simp)) (H.sub sU) ?_; simp only [pS]; simp only [List.drop_succ_cons, List.drop_zero, List.take_succ_cons, List.take_zero]) | (refine rg_take (i := 4) rfl kR kR kR (Yld.ldor rfl rfl agg36 size36 rfl (by assumption) sZ (by assumption)) (H.sub sU) ?_; simp only [pS])
            refine rg_one (i := 5) (by kernel_rfl) rfl rfl (fun K hK => ?_)
            refine wp_callf rfl ent65 (rat_is _ m (x, y) _ (ha.grow H.below)) rfl (fun v w1 hr => ?_)
            rw [HR1.out] at hr
            obtain ⟨rfl, hb1⟩ := hr
            replace H := H.grow hb1
            clear hb1
            clear HS
            have HS := H
            refine hK.out _ _ (H.sub sU) ?_
            clear hK K
            simp only [pS]
            refine rg_take (i := 6) rfl kR kR kR (Yld.o rfl) (H.sub sU) ?_; simp only [pS]
            refine rg_take (i := 7) rfl kR kR kR (Yld.move rfl rfl) (H.sub sU) ?_; simp only [pS, pE]
            refine rg_take (i := 8) rfl kR kR kR (Yld.move rfl rfl) (H.sub sU) ?_; simp only [pS, pE]
            refine rg_take (i := 9) rfl kR kR kR (Yld.o rfl) (H.sub sU) ?_; simp only [pS]
            refine rg_take (i := 10) rfl kR kR kR (Yld.move rfl rfl) (H.sub sU) ?_; simp only [pS, pE]
            refine rg_take (i := 11) rfl kR kR kR (Yld.move rfl rfl) (H.sub sU) ?_; simp only [pS, pE]
            refine rg_take (i := 12) rfl kR kR kR (Yld.move rfl rfl) (H.sub sU) ?_; simp only [pS, pE]
            refine rg_take (i := 13) rfl kR kR kR (Yld.move rfl rfl) (H.sub sU) ?_; simp only [pS, pE]
            refine rg_take (i := 14) rfl kR kR kR (Yld.o rfl) (H.sub sU) ?_; simp only [pS]
            refine rg_take (i := 15) rfl kR kR kR (Yld.o rfl) (H.sub sU) ?_; simp only [pS]
            first | (refine rg_take (i := 16) rfl kR kR kR (Yld.ldr rfl rfl agg36 size36 rfl mR sZ) (H.sub sU) ?_; simp only [pS]) | (refine rg_take (i := 16) rfl kR kR kR (Yld.ldl rfl rfl agg36 size36 rfl mR (by simp)) (H.sub sU) ?_; simp only [pS]; simp only [List.drop_succ_cons, List.drop_zero, List.take_succ_cons, List.take_zero]) | (refine rg_take (i := 16) rfl kR kR kR (Yld.ldor rfl rfl agg36 size36 rfl (by assumption) sZ (by assumption)) (H.sub sU) ?_; simp only [pS])
            refine rg_take (i := 18) rfl kR kR kR (Yld.move rfl rfl) (H.sub sU) ?_; simp only [pS, pE]
            refine rg_take (i := 19) rfl kR kR kR (Yld.move rfl rfl) (H.sub sU) ?_; simp only [pS, pE]
            refine rg_take (i := 20) rfl kR kR kR (Yld.move rfl rfl) (H.sub sU) ?_; simp only [pS, pE]
            refine rg_take (i := 21) rfl kR kR kR (Yld.o rfl) (H.sub sU) ?_; simp only [pS]
            first | (refine rg_take (i := 22) rfl kR kR kR (Yld.ldr rfl rfl agg36 size36 rfl mR sZ) (H.sub sU) ?_; simp only [pS]) | (refine rg_take (i := 22) rfl kR kR kR (Yld.ldl rfl rfl agg36 size36 rfl mR (by simp)) (H.sub sU) ?_; simp only [pS]; simp only [List.drop_succ_cons, List.drop_zero, List.take_succ_cons, List.take_zero]) | (refine rg_take (i := 22) rfl kR kR kR (Yld.ldor rfl rfl agg36 size36 rfl (by assumption) sZ (by assumption)) (H.sub sU) ?_; simp only [pS])
            refine rg_one (i := 17) (by kernel_rfl) rfl rfl (fun K hK => ?_)
            refine wp_callf rfl ent65 (rat_is _ m (z, t) _ (ha.grow H.below)) rfl (fun v w1 hr => ?_)
            rw [HR0.out] at hr
            obtain ⟨rfl, hb1⟩ := hr
            replace H := H.grow hb1
            clear hb1
            clear HS
            have HS := H
            refine hK.out _ _ (H.sub sU) ?_
            clear hK K
            simp only [pS]
            refine rg_one (i := 23) (by kernel_rfl) rfl rfl (fun K hK => ?_)
            refine wp_callf rfl ent65 (rat_is _ m (x, y) _ (ha.grow H.below)) rfl (fun v w1 hr => ?_)
            rw [HR1.out] at hr
            obtain ⟨rfl, hb1⟩ := hr
            replace H := H.grow hb1
            clear hb1
            clear HS
            have HS := H
            refine hK.out _ _ (H.sub sU) ?_
            clear hK K
            simp only [pS]
            refine rg_take (i := 24) rfl kR kR kR (Yld.o rfl) (H.sub sU) ?_; simp only [pS]
            refine rg_take (i := 25) rfl kR kR kR (Yld.pick rfl rfl rfl) (H.sub sU) ?_; simp only [pS, pE]
            refine rg_take (i := 26) rfl kR kR kR (Yld.pick rfl rfl rfl) (H.sub sU) ?_; simp only [pS, pE]
            refine rg_done (by kernel_rfl) ?_
            go_wp2_with fail
            go_ret
            exact ⟨_, rfl, by rw [HV.out]; rfl, H.below⟩
    · obtain rfl : k = n := by omega
      have HV : Hid (risB m l = true) := Lib.hid (by
        have := HT.out
        rw [List.take_of_length_le (by rw [HN.out]; omega)] at this
        exact this)
      go_wp2_with fail
      go_ret
      exact ⟨_, rfl, by rw [HV.out]; rfl, H.below⟩
end Go.Proofs.Ytjghcmejmdllbaa
