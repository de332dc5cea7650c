/- Contracts of the reference's At (choragusref08); no condition. The reference's rising (choragusref08), the plain law of it; no condition. The plain law of the reference's Check over views (choragusref08): what it counts is what the program's Check asks; no condition. Views, commands and ledgers read of bytes, and laid: functions, and how they meet; the bounds stand in each. Layer 8's places (view) and its reference's (choragusref08), whatever is wrong; the bounds stand in each. -/
import Derived.Test.YtmokecicjmjkbaaGy5
import Derived.Test.YtmokecicjmjkbaaGy7
import Derived.Test.YtmokecicjmjkbaaGy9
import Derived.Test.YtmokecicjmjkbaaGy14
namespace Go.Proofs.Ytmokecicjmjkbaa
open Go.ChangeShapes Go.WideShapes Go.ChangeAt Go.RowKit Go.Maps
set_option linter.unusedVariables false
set_option linter.unusedSimpArgs false
/-- Where a process stands first; -1 if it does not. -/
def atR (l : List Pr) (p : Pr) : Int := match rank l p with | some k => (k : Int) | none => -1
theorem rank_at {l : List Pr} {p : Pr} {k : Nat} (hk : k < l.length) (h0 : rank (l.take k) p = none) (h : l[k] = p) : rank l p = some k := by
  induction l generalizing k with
  | nil => cases hk
  | cons x l ih =>
    cases k with
    | zero => simp only [List.getElem_cons_zero] at h; simp [rank, h]
    | succ k =>
      simp only [List.take_succ_cons, rank] at h0
      unfold rank
      by_cases hx : x = p
      · rw [if_pos hx] at h0; cases h0
      · rw [if_neg hx] at h0 ⊢
        rw [ih (by simpa using hk) (Option.map_eq_none_iff.1 h0) (by simpa using h)]
        rfl
set_option maxRecDepth 100000 in
set_option maxHeartbeats 1000000 in
theorem rat_is (va : Value) (l : List Pr) (p : Pr) (w : World) (ha : Sl w 2 l.length va (elQ l)) :
    Calls Try.prog 119 #[va, .agg #[.int .u16 (p.1 : Int), .int .u32 (p.2 : Int)]] w (Ret fun v w' => v = .int .i64 (atR l p) ∧ Below w.heap.size w w') := by
  have H := St.init w
  have ha' := ha
  obtain ⟨aa, ca, rfl, hma, _⟩ := ha'
  unfold maxLen at hma
  obtain ⟨n, hn⟩ : ∃ n, l.length = n := ⟨_, rfl⟩
  have HN := Lib.hid hn
  rw [hn] at ha hma ⊢
  clear hn
  go_enter Try.func119, Try.ntmps119
  go_wp2_with (first | (with_reducible refine wpl rfl (dQ 3 rfl ?_); with_reducible refine (Stp.box 3 rfl rfl rfl H ?_); clear H; intro g3 w1 H; simp only [pS]; simp only [pE, nC, pS] at H))
  go_loopw [5] (fun i wr => ∃ k : Nat, k ≤ n ∧ i = .int .i64 k ∧ Hid (rank (l.take k) p = none) ∧ St w.heap.size w wr [row 30 g3 #[.int .u16 (p.1 : Int), .int .u32 (p.2 : Int)]]) (fun i _ => n - (intOf i).toNat)
  case atStart => exact ⟨0, Nat.zero_le _, rfl, Lib.hid (by simp [rank]), H⟩
  case round =>
    clear H
    obtain ⟨k, hk, rfl, HT, H⟩ := hrel
    by_cases hlt : k < n
    · have hl1 : k < l.length := by rw [HN.out]; exact hlt
      obtain ⟨b1, o1, rfl, hb1⟩ := ha.addr (by omega)
      have hc1 := ha.cell hlt
      unfold elQ at hc1
      rw [getD_at hl1] at hc1
      have hs1 := List.take_succ_eq_append_getElem hl1
      have hra := rank_at (p := p) hl1 HT.out
      obtain ⟨⟨x, y⟩, hx⟩ : ∃ x, l[k] = x := ⟨_, rfl⟩
      rw [hx] at hc1 hs1 hra
      have kli : (k : Int) < (n : Int) := by omega
      by_cases he0 : (x, y) = p
      · have HV : Hid (atR l p = k) := Lib.hid (by unfold atR; rw [hra he0])
        obtain ⟨z, t⟩ := p
        injection he0 with e1 e2
        subst e1 e2
        have he := eqPD_yes x y
        clear hs1 hx hra
        go_wp2_with (first | (with_reducible refine wpl rfl (dQ 3 rfl ?_); with_reducible refine (Stp.box 3 rfl rfl rfl H ?_); clear H; intro g3 w1 H; simp only [pS]; simp only [pE, nC, pS] at H))
        refine rg_begin 6 rfl (S := fun W => St _ _ W _) (by kernel_rfl) H.drew ?_
        replace H := H.drew
        have HS := H
        refine rg_take (i := 0) rfl kR kR kR (Yld.move rfl rfl) HS ?_; simp only [pS, pE]
        refine rg_take (i := 1) rfl kR kR kR (Yld.move rfl rfl) HS ?_; simp only [pS, pE]
        refine rg_take (i := 2) rfl kR kR kR (Yld.o rfl) HS ?_; simp only [pS]
        first | (refine rg_take (i := 3) rfl kR kR kR (Yld.ldor rfl rfl agg30 size30 rfl (by assumption) sZ (by assumption)) HS ?_; simp only [pS]) | (refine rg_take (i := 3) rfl kR kR kR (Yld.ldr rfl rfl agg30 size30 rfl mR sZ) HS ?_; simp only [pS]) | (refine rg_take (i := 3) rfl kR kR kR (Yld.ldl rfl rfl agg30 size30 rfl mR (by simp)) HS ?_; simp only [pS]; simp only [List.drop_succ_cons, List.drop_zero, List.take_succ_cons, List.take_zero])
        first | (refine rg_take (i := 4) rfl kR kR kR (Yld.ldor rfl rfl agg30 size30 rfl (by assumption) sZ (by assumption)) HS ?_; simp only [pS]) | (refine rg_take (i := 4) rfl kR kR kR (Yld.ldr rfl rfl agg30 size30 rfl mR sZ) HS ?_; simp only [pS]) | (refine rg_take (i := 4) rfl kR kR kR (Yld.ldl rfl rfl agg30 size30 rfl mR (by simp)) HS ?_; simp only [pS]; simp only [List.drop_succ_cons, List.drop_zero, List.take_succ_cons, List.take_zero])
        refine rg_take (i := 5) rfl kR kR kR (Yld.o rfl) HS ?_; simp only [pS]
        refine rg_done (by kernel_rfl) ?_
        go_wp2_with (first | (with_reducible refine wpl rfl (dQ 3 rfl ?_); with_reducible refine (Stp.box 3 rfl rfl rfl H ?_); clear H; intro g3 w1 H; simp only [pS]; simp only [pE, nC, pS] at H))
        go_ret
        exact ⟨_, rfl, by rw [HV.out]; rfl, H.below⟩
      · have HRK : Hid (rank (l.take (k + 1)) p = none) := Lib.hid (by rw [hs1, rank_snoc, HT.out, if_neg he0])
        obtain ⟨z, t⟩ := p
        have he := eqPD_no x y z t he0
        clear hs1 hx hra he0
        go_wp2_with (first | (with_reducible refine wpl rfl (dQ 3 rfl ?_); with_reducible refine (Stp.box 3 rfl rfl rfl H ?_); clear H; intro g3 w1 H; simp only [pS]; simp only [pE, nC, pS] at H))
        refine rg_begin 6 rfl (S := fun W => St _ _ W _) (by kernel_rfl) H.drew ?_
        replace H := H.drew
        have HS := H
        refine rg_take (i := 0) rfl kR kR kR (Yld.move rfl rfl) HS ?_; simp only [pS, pE]
        refine rg_take (i := 1) rfl kR kR kR (Yld.move rfl rfl) HS ?_; simp only [pS, pE]
        refine rg_take (i := 2) rfl kR kR kR (Yld.o rfl) HS ?_; simp only [pS]
        first | (refine rg_take (i := 3) rfl kR kR kR (Yld.ldor rfl rfl agg30 size30 rfl (by assumption) sZ (by assumption)) HS ?_; simp only [pS]) | (refine rg_take (i := 3) rfl kR kR kR (Yld.ldr rfl rfl agg30 size30 rfl mR sZ) HS ?_; simp only [pS]) | (refine rg_take (i := 3) rfl kR kR kR (Yld.ldl rfl rfl agg30 size30 rfl mR (by simp)) HS ?_; simp only [pS]; simp only [List.drop_succ_cons, List.drop_zero, List.take_succ_cons, List.take_zero])
        first | (refine rg_take (i := 4) rfl kR kR kR (Yld.ldor rfl rfl agg30 size30 rfl (by assumption) sZ (by assumption)) HS ?_; simp only [pS]) | (refine rg_take (i := 4) rfl kR kR kR (Yld.ldr rfl rfl agg30 size30 rfl mR sZ) HS ?_; simp only [pS]) | (refine rg_take (i := 4) rfl kR kR kR (Yld.ldl rfl rfl agg30 size30 rfl mR (by simp)) HS ?_; simp only [pS]; simp only [List.drop_succ_cons, List.drop_zero, List.take_succ_cons, List.take_zero])
        refine rg_take (i := 5) rfl kR kR kR (Yld.o rfl) HS ?_; simp only [pS]
        refine rg_done (by kernel_rfl) ?_
        go_wp2_with (first | (with_reducible refine wpl rfl (dQ 3 rfl ?_); with_reducible refine (Stp.box 3 rfl rfl rfl H ?_); clear H; intro g3 w1 H; simp only [pS]; simp only [pE, nC, pS] at H))
        go_roundw
        case rel => exact ⟨k + 1, by omega, by go_num, HRK, H⟩
        case measure => simp [intOf]; omega
    · obtain rfl : k = n := by omega
      have HV : Hid (atR l p = -1) := Lib.hid (by
        have := HT.out
        rw [List.take_of_length_le (by rw [HN.out]; omega)] at this
        unfold atR; rw [this])
      go_wp2_with (first | (with_reducible refine wpl rfl (dQ 3 rfl ?_); with_reducible refine (Stp.box 3 rfl rfl rfl H ?_); clear H; intro g3 w1 H; simp only [pS]; simp only [pE, nC, pS] at H))
      go_ret
      exact ⟨_, rfl, by rw [HV.out]; rfl, H.below⟩
end Go.Proofs.Ytmokecicjmjkbaa
namespace Go.Proofs.Ytmokecicjmjkbaa
open Go.ChangeShapes Go.WideShapes Go.ChangeAt Go.RowKit Go.Maps
set_option linter.unusedVariables false
set_option linter.unusedSimpArgs false
/-- Where the last of some stands. -/
def lastR (m : List Pr) (d : Int) : List Pr → Int
  | [] => d
  | p :: r => lastR m (atR m p) r
theorem lastR_snoc (m : List Pr) (d : Int) (l : List Pr) (x : Pr) : lastR m d (l ++ [x]) = atR m x := by
  induction l generalizing d with
  | nil => rfl
  | cons p r ih => exact ih _
theorem risA_snoc (m : List Pr) (d : Int) (l : List Pr) (x : Pr) : risA m d (l ++ [x]) = (risA m d l && (decide (0 ≤ atR m x) && decide (lastR m d l < atR m x))) := by
  induction l generalizing d with
  | nil =>
    unfold atR
    cases h : rank m x with
    | none => simp [risA, lastR, h]
    | some k => rw [Bool.eq_iff_iff]; simp [risA, lastR, h]; exact ⟨fun h => decide_eq_true h, fun h => of_decide_eq_true h⟩
  | cons p r ih =>
    simp only [List.cons_append, risA, lastR]
    cases h : rank m p with
    | none => simp
    | some k =>
      have ha : atR m p = k := by unfold atR; rw [h]
      simp only [ih, ha, Bool.and_assoc]
theorem risA_take (m : List Pr) (d : Int) (l : List Pr) (k : Nat) (h : risA m d (l.take k) = false) : risA m d l = false := by
  induction l generalizing d k with
  | nil => simpa using h
  | cons p r ih =>
    cases k with
    | zero => cases h
    | succ k =>
      simp only [List.take_succ_cons, risA] at h ⊢
      cases hr : rank m p with
      | none => rfl
      | some j =>
        rw [hr] at h
        simp only [Bool.and_eq_false_iff] at h ⊢
        exact h.imp id (ih j k)
set_option maxRecDepth 100000 in
set_option maxHeartbeats 2000000 in
theorem rrising_is (va vb : Value) (m l : List Pr) (w : World) (e : Bool) (he : risB m l = e) (ha : Sl w 2 m.length va (elQ m)) (hb : Sl w 2 l.length vb (elQ l)) :
    Calls Try.prog 87 #[va, vb] w (Ret fun v w' => v = .bool e ∧ Below w.heap.size w w') := by
  have H := St.init w
  subst he
  have ha' := ha
  have hb' := hb
  obtain ⟨aa, ca, rfl, hma, _⟩ := ha'
  obtain ⟨ab, cb, rfl, hmb, _⟩ := hb'
  unfold maxLen at hma hmb
  obtain ⟨n, hn⟩ : ∃ n, l.length = n := ⟨_, rfl⟩
  have HN := Lib.hid hn
  rw [hn] at hb hmb ⊢
  clear hn
  go_enter Try.func87, Try.ntmps87
  go_wp2_with fail
  go_loopw [5] (fun i wr => ∃ k : Nat, k ≤ n ∧ i = .int .i64 k ∧ Hid (risA m (-1) (l.take k) = true) ∧ St w.heap.size w wr []) (fun i _ => n - (intOf i).toNat)
  case atStart => exact ⟨0, Nat.zero_le _, rfl, Lib.hid (by simp [risA]), H⟩
  case round =>
    clear H
    obtain ⟨k, hk, rfl, HT, H⟩ := hrel
    by_cases hlt : k < n
    · have hl1 : k < l.length := by rw [HN.out]; exact hlt
      obtain ⟨b1, o1, rfl, hb1⟩ := hb.addr (by omega)
      have hc1 := hb.cell hlt
      unfold elQ at hc1
      rw [getD_at hl1] at hc1
      have hs1 := List.take_succ_eq_append_getElem hl1
      have hf := risA_take m (-1) l (k + 1)
      have hsn := risA_snoc m (-1) (l.take k) l[k]
      rw [← hs1, HT.out, Bool.true_and] at hsn
      have hlz : ∀ j (hj : j < l.length), k = j + 1 → lastR m (-1) (l.take k) = atR m l[j] := by
        intro j hj e
        rw [e, List.take_succ_eq_append_getElem hj, lastR_snoc]
      obtain ⟨⟨x, y⟩, hx⟩ : ∃ x, l[k] = x := ⟨_, rfl⟩
      rw [hx] at hc1 hsn
      obtain ⟨r1, hr1⟩ : ∃ r, atR m (x, y) = r := ⟨_, rfl⟩
      have HR1 := Lib.hid hr1
      rw [hr1] at hsn
      have HF := Lib.hid hf
      have HSN := Lib.hid hsn
      have HLZ := Lib.hid hlz
      have kli : (k : Int) < (n : Int) := by omega
      clear hs1 hf hsn hlz hx hr1
      by_cases h1 : r1 < 0
      · have HV : Hid (risB m l = false) := Lib.hid (HF.out (by rw [HSN.out, decide_eq_false (by omega), Bool.false_and]))
        have h1d : decide (r1 < 0) = true := decide_eq_true h1
        go_wp2_with fail
        refine rg_begin 27 rfl (S := fun W => St _ _ W _) (by kernel_rfl) H.drew ?_
        replace H := H.drew
        have HS := H
        refine rg_take (i := 0) rfl kR kR kR (Yld.move rfl rfl) (H.sub sU) ?_; simp only [pS, pE]
        refine rg_take (i := 1) rfl kR kR kR (Yld.move rfl rfl) (H.sub sU) ?_; simp only [pS, pE]
        refine rg_take (i := 2) rfl kR kR kR (Yld.move rfl rfl) (H.sub sU) ?_; simp only [pS, pE]
        refine rg_take (i := 3) rfl kR kR kR (Yld.o rfl) (H.sub sU) ?_; simp only [pS]
        first | (refine rg_take (i := 4) rfl kR kR kR (Yld.ldor rfl rfl agg30 size30 rfl (by assumption) sZ (by assumption)) (H.sub sU) ?_; simp only [pS]) | (refine rg_take (i := 4) rfl kR kR kR (Yld.ldr rfl rfl agg30 size30 rfl mR sZ) (H.sub sU) ?_; simp only [pS]) | (refine rg_take (i := 4) rfl kR kR kR (Yld.ldl rfl rfl agg30 size30 rfl mR (by simp)) (H.sub sU) ?_; simp only [pS]; simp only [List.drop_succ_cons, List.drop_zero, List.take_succ_cons, List.take_zero])
        refine rg_one (i := 5) (by kernel_rfl) rfl rfl (fun K hK => ?_)
        refine wp_callf rfl ent119 (rat_is _ m (x, y) _ (ha.grow H.below)) rfl (fun v w1 hr => ?_)
        rw [HR1.out] at hr
        obtain ⟨rfl, hb1⟩ := hr
        replace H := H.grow hb1
        clear hb1
        clear HS
        have HS := H
        refine hK.out _ _ (H.sub sU) ?_
        clear hK K
        simp only [pS]
        refine rg_take (i := 6) rfl kR kR kR (Yld.o rfl) (H.sub sU) ?_; simp only [pS]
        refine rg_take (i := 7) rfl kR kR kR (Yld.move rfl rfl) (H.sub sU) ?_; simp only [pS, pE]
        refine rg_take (i := 8) rfl kR kR kR (Yld.skip rfl) (H.sub sU) ?_; simp only [pS]
        refine rg_take (i := 9) rfl kR kR kR (Yld.skip rfl) (H.sub sU) ?_; simp only [pS]
        refine rg_take (i := 10) rfl kR kR kR (Yld.skip rfl) (H.sub sU) ?_; simp only [pS]
        refine rg_take (i := 11) rfl kR kR kR (Yld.skip rfl) (H.sub sU) ?_; simp only [pS]
        refine rg_take (i := 12) rfl kR kR kR (Yld.skip rfl) (H.sub sU) ?_; simp only [pS]
        refine rg_take (i := 13) rfl kR kR kR (Yld.skip rfl) (H.sub sU) ?_; simp only [pS]
        refine rg_take (i := 14) rfl kR kR kR (Yld.skip rfl) (H.sub sU) ?_; simp only [pS]
        refine rg_take (i := 15) rfl kR kR kR (Yld.skip rfl) (H.sub sU) ?_; simp only [pS]
        refine rg_take (i := 16) rfl kR kR kR (Yld.skip rfl) (H.sub sU) ?_; simp only [pS]
        refine rg_take (i := 17) rfl kR kR kR (Yld.skip rfl) (H.sub sU) ?_; simp only [pS]
        refine rg_take (i := 18) rfl kR kR kR (Yld.skip rfl) (H.sub sU) ?_; simp only [pS]
        refine rg_take (i := 19) rfl kR kR kR (Yld.skip rfl) (H.sub sU) ?_; simp only [pS]
        refine rg_take (i := 20) rfl kR kR kR (Yld.skip rfl) (H.sub sU) ?_; simp only [pS]
        refine rg_take (i := 21) rfl kR kR kR (Yld.skip rfl) (H.sub sU) ?_; simp only [pS]
        refine rg_take (i := 22) rfl kR kR kR (Yld.skip rfl) (H.sub sU) ?_; simp only [pS]
        refine rg_take (i := 23) rfl kR kR kR (Yld.skip rfl) (H.sub sU) ?_; simp only [pS]
        refine rg_take (i := 24) rfl kR kR kR (Yld.skip rfl) (H.sub sU) ?_; simp only [pS]
        refine rg_take (i := 25) rfl kR kR kR (Yld.skip rfl) (H.sub sU) ?_; simp only [pS]
        refine rg_take (i := 26) rfl kR kR kR (Yld.pick rfl rfl rfl) (H.sub sU) ?_; simp only [pS, pE]
        refine rg_done (by kernel_rfl) ?_
        go_wp2_with fail
        go_ret
        exact ⟨_, rfl, by rw [HV.out]; rfl, H.below⟩
      · have h1d : decide (r1 < 0) = false := decide_eq_false h1
        rcases Nat.eq_zero_or_pos k with rfl | hk0
        · have HV : Hid (risA m (-1) (l.take (0 + 1)) = true) := Lib.hid (by rw [HSN.out, decide_eq_true (by omega), Bool.true_and]; exact decide_eq_true (by show (-1 : Int) < r1; omega))
          go_wp2_with fail
          refine rg_begin 27 rfl (S := fun W => St _ _ W _) (by kernel_rfl) H.drew ?_
          replace H := H.drew
          have HS := H
          refine rg_take (i := 0) rfl kR kR kR (Yld.move rfl rfl) (H.sub sU) ?_; simp only [pS, pE]
          refine rg_take (i := 1) rfl kR kR kR (Yld.move rfl rfl) (H.sub sU) ?_; simp only [pS, pE]
          refine rg_take (i := 2) rfl kR kR kR (Yld.move rfl rfl) (H.sub sU) ?_; simp only [pS, pE]
          refine rg_take (i := 3) rfl kR kR kR (Yld.o rfl) (H.sub sU) ?_; simp only [pS]
          first | (refine rg_take (i := 4) rfl kR kR kR (Yld.ldor rfl rfl agg30 size30 rfl (by assumption) sZ (by assumption)) (H.sub sU) ?_; simp only [pS]) | (refine rg_take (i := 4) rfl kR kR kR (Yld.ldr rfl rfl agg30 size30 rfl mR sZ) (H.sub sU) ?_; simp only [pS]) | (refine rg_take (i := 4) rfl kR kR kR (Yld.ldl rfl rfl agg30 size30 rfl mR (by simp)) (H.sub sU) ?_; simp only [pS]; simp only [List.drop_succ_cons, List.drop_zero, List.take_succ_cons, List.take_zero])
          refine rg_one (i := 5) (by kernel_rfl) rfl rfl (fun K hK => ?_)
          refine wp_callf rfl ent119 (rat_is _ m (x, y) _ (ha.grow H.below)) rfl (fun v w1 hr => ?_)
          rw [HR1.out] at hr
          obtain ⟨rfl, hb1⟩ := hr
          replace H := H.grow hb1
          clear hb1
          clear HS
          have HS := H
          refine hK.out _ _ (H.sub sU) ?_
          clear hK K
          simp only [pS]
          refine rg_take (i := 6) rfl kR kR kR (Yld.o rfl) (H.sub sU) ?_; simp only [pS]
          refine rg_take (i := 7) rfl kR kR kR (Yld.move rfl rfl) (H.sub sU) ?_; simp only [pS, pE]
          refine rg_take (i := 8) rfl kR kR kR (Yld.move rfl rfl) (H.sub sU) ?_; simp only [pS, pE]
          refine rg_take (i := 9) rfl kR kR kR (Yld.o rfl) (H.sub sU) ?_; simp only [pS]
          refine rg_take (i := 10) rfl kR kR kR (Yld.move rfl rfl) (H.sub sU) ?_; simp only [pS, pE]
          refine rg_take (i := 11) rfl kR kR kR (Yld.skip rfl) (H.sub sU) ?_; simp only [pS]
          refine rg_take (i := 12) rfl kR kR kR (Yld.skip rfl) (H.sub sU) ?_; simp only [pS]
          refine rg_take (i := 13) rfl kR kR kR (Yld.skip rfl) (H.sub sU) ?_; simp only [pS]
          refine rg_take (i := 14) rfl kR kR kR (Yld.skip rfl) (H.sub sU) ?_; simp only [pS]
          refine rg_take (i := 15) rfl kR kR kR (Yld.skip rfl) (H.sub sU) ?_; simp only [pS]
          refine rg_take (i := 16) rfl kR kR kR (Yld.skip rfl) (H.sub sU) ?_; simp only [pS]
          refine rg_take (i := 17) rfl kR kR kR (Yld.skip rfl) (H.sub sU) ?_; simp only [pS]
          refine rg_take (i := 18) rfl kR kR kR (Yld.skip rfl) (H.sub sU) ?_; simp only [pS]
          refine rg_take (i := 19) rfl kR kR kR (Yld.skip rfl) (H.sub sU) ?_; simp only [pS]
          refine rg_take (i := 20) rfl kR kR kR (Yld.skip rfl) (H.sub sU) ?_; simp only [pS]
          refine rg_take (i := 21) rfl kR kR kR (Yld.skip rfl) (H.sub sU) ?_; simp only [pS]
          refine rg_take (i := 22) rfl kR kR kR (Yld.skip rfl) (H.sub sU) ?_; simp only [pS]
          refine rg_take (i := 23) rfl kR kR kR (Yld.skip rfl) (H.sub sU) ?_; simp only [pS]
          refine rg_take (i := 24) rfl kR kR kR (Yld.skip rfl) (H.sub sU) ?_; simp only [pS]
          refine rg_take (i := 25) rfl kR kR kR (Yld.pick rfl rfl rfl) (H.sub sU) ?_; simp only [pS, pE]
          refine rg_take (i := 26) rfl kR kR kR (Yld.pick rfl rfl rfl) (H.sub sU) ?_; simp only [pS, pE]
          refine rg_done (by kernel_rfl) ?_
          go_wp2_with fail
          go_roundw
          case rel => exact ⟨1, by omega, by go_num, HV, H⟩
          case measure => simp [intOf]; omega
        · obtain ⟨j, rfl⟩ : ∃ j, k = j + 1 := ⟨k - 1, by omega⟩
          have hj : j < l.length := by omega
          have hcj := hb.cell (show j < n by omega)
          unfold elQ at hcj
          rw [getD_at hj] at hcj
          have hlj := HLZ.out j hj rfl
          obtain ⟨⟨z, t⟩, hz⟩ : ∃ z, l[j] = z := ⟨_, rfl⟩
          rw [hz] at hcj hlj
          obtain ⟨r0, hr0⟩ : ∃ r, atR m (z, t) = r := ⟨_, rfl⟩
          have HR0 := Lib.hid hr0
          rw [hr0] at hlj
          have HLJ := Lib.hid hlj
          have k0i : decide ((0 : Int) < (j : Int) + 1) = true := decide_eq_true (by omega)
          have jw : IntKind.i64.wrap (j : Int) = (j : Int) := by rw [IntKind.wrap_i64]; omega
          have jni : (j : Int) < (n : Int) := by omega
          have j0i : (0 : Int) ≤ (j : Int) + 1 := by omega
          have kji : ((j + 1 : Nat) : Int) - 1 = (j : Int) := by omega
          clear hr0 hlj hz
          by_cases h2 : r0 < r1
          · have h2i : ¬ r1 ≤ r0 := by omega
            have HV : Hid (risA m (-1) (l.take (j + 1 + 1)) = true) := Lib.hid (by rw [HSN.out, HLJ.out, decide_eq_true (by omega), Bool.true_and]; exact decide_eq_true h2)
            have h2d : decide (r1 ≤ r0) = false := decide_eq_false h2i
            go_wp2_with fail
            refine rg_begin 27 rfl (S := fun W => St _ _ W _) (by kernel_rfl) H.drew ?_
            replace H := H.drew
            have HS := H
            refine rg_take (i := 0) rfl kR kR kR (Yld.move rfl rfl) (H.sub sU) ?_; simp only [pS, pE]
            refine rg_take (i := 1) rfl kR kR kR (Yld.move rfl rfl) (H.sub sU) ?_; simp only [pS, pE]
            refine rg_take (i := 2) rfl kR kR kR (Yld.move rfl rfl) (H.sub sU) ?_; simp only [pS, pE]
            refine rg_take (i := 3) rfl kR kR kR (Yld.o rfl) (H.sub sU) ?_; simp only [pS]
            first | (refine rg_take (i := 4) rfl kR kR kR (Yld.ldor rfl rfl agg30 size30 rfl (by assumption) sZ (by assumption)) (H.sub sU) ?_; simp only [pS]) | (refine rg_take (i := 4) rfl kR kR kR (Yld.ldr rfl rfl agg30 size30 rfl mR sZ) (H.sub sU) ?_; simp only [pS]) | (refine rg_take (i := 4) rfl kR kR kR (Yld.ldl rfl rfl agg30 size30 rfl mR (by simp)) (H.sub sU) ?_; simp only [pS]; simp only [List.drop_succ_cons, List.drop_zero, List.take_succ_cons, List.take_zero])
            refine rg_one (i := 5) (by kernel_rfl) rfl rfl (fun K hK => ?_)
            refine wp_callf rfl ent119 (rat_is _ m (x, y) _ (ha.grow H.below)) rfl (fun v w1 hr => ?_)
            rw [HR1.out] at hr
            obtain ⟨rfl, hb1⟩ := hr
            replace H := H.grow hb1
            clear hb1
            clear HS
            have HS := H
            refine hK.out _ _ (H.sub sU) ?_
            clear hK K
            simp only [pS]
            refine rg_take (i := 6) rfl kR kR kR (Yld.o rfl) (H.sub sU) ?_; simp only [pS]
            refine rg_take (i := 7) rfl kR kR kR (Yld.move rfl rfl) (H.sub sU) ?_; simp only [pS, pE]
            refine rg_take (i := 8) rfl kR kR kR (Yld.move rfl rfl) (H.sub sU) ?_; simp only [pS, pE]
            refine rg_take (i := 9) rfl kR kR kR (Yld.o rfl) (H.sub sU) ?_; simp only [pS]
            refine rg_take (i := 10) rfl kR kR kR (Yld.move rfl rfl) (H.sub sU) ?_; simp only [pS, pE]
            refine rg_take (i := 11) rfl kR kR kR (Yld.move rfl rfl) (H.sub sU) ?_; simp only [pS, pE]
            refine rg_take (i := 12) rfl kR kR kR (Yld.move rfl rfl) (H.sub sU) ?_; simp only [pS, pE]
            refine rg_take (i := 13) rfl kR kR kR (Yld.move rfl rfl) (H.sub sU) ?_; simp only [pS, pE]
            refine rg_take (i := 14) rfl kR kR kR (Yld.o rfl) (H.sub sU) ?_; simp only [pS]
            refine rg_take (i := 15) rfl kR kR kR (Yld.o rfl) (H.sub sU) ?_; simp only [pS]
            first | (refine rg_take (i := 16) rfl kR kR kR (Yld.ldor rfl rfl agg30 size30 rfl (by assumption) sZ (by assumption)) (H.sub sU) ?_; simp only [pS]) | (refine rg_take (i := 16) rfl kR kR kR (Yld.ldr rfl rfl agg30 size30 rfl mR sZ) (H.sub sU) ?_; simp only [pS]) | (refine rg_take (i := 16) rfl kR kR kR (Yld.ldl rfl rfl agg30 size30 rfl mR (by simp)) (H.sub sU) ?_; simp only [pS]; simp only [List.drop_succ_cons, List.drop_zero, List.take_succ_cons, List.take_zero])
            refine rg_take (i := 18) rfl kR kR kR (Yld.move rfl rfl) (H.sub sU) ?_; simp only [pS, pE]
            refine rg_take (i := 19) rfl kR kR kR (Yld.move rfl rfl) (H.sub sU) ?_; simp only [pS, pE]
            refine rg_take (i := 20) rfl kR kR kR (Yld.move rfl rfl) (H.sub sU) ?_; simp only [pS, pE]
            refine rg_take (i := 21) rfl kR kR kR (Yld.o rfl) (H.sub sU) ?_; simp only [pS]
            first | (refine rg_take (i := 22) rfl kR kR kR (Yld.ldor rfl rfl agg30 size30 rfl (by assumption) sZ (by assumption)) (H.sub sU) ?_; simp only [pS]) | (refine rg_take (i := 22) rfl kR kR kR (Yld.ldr rfl rfl agg30 size30 rfl mR sZ) (H.sub sU) ?_; simp only [pS]) | (refine rg_take (i := 22) rfl kR kR kR (Yld.ldl rfl rfl agg30 size30 rfl mR (by simp)) (H.sub sU) ?_; simp only [pS]; simp only [List.drop_succ_cons, List.drop_zero, List.take_succ_cons, List.take_zero])
            refine rg_one (i := 17) (by kernel_rfl) rfl rfl (fun K hK => ?_)
            refine wp_callf rfl ent119 (rat_is _ m (z, t) _ (ha.grow H.below)) rfl (fun v w1 hr => ?_)
            rw [HR0.out] at hr
            obtain ⟨rfl, hb1⟩ := hr
            replace H := H.grow hb1
            clear hb1
            clear HS
            have HS := H
            refine hK.out _ _ (H.sub sU) ?_
            clear hK K
            simp only [pS]
            refine rg_one (i := 23) (by kernel_rfl) rfl rfl (fun K hK => ?_)
            refine wp_callf rfl ent119 (rat_is _ m (x, y) _ (ha.grow H.below)) rfl (fun v w1 hr => ?_)
            rw [HR1.out] at hr
            obtain ⟨rfl, hb1⟩ := hr
            replace H := H.grow hb1
            clear hb1
            clear HS
            have HS := H
            refine hK.out _ _ (H.sub sU) ?_
            clear hK K
            simp only [pS]
            refine rg_take (i := 24) rfl kR kR kR (Yld.o rfl) (H.sub sU) ?_; simp only [pS]
            refine rg_take (i := 25) rfl kR kR kR (Yld.pick rfl rfl rfl) (H.sub sU) ?_; simp only [pS, pE]
            refine rg_take (i := 26) rfl kR kR kR (Yld.pick rfl rfl rfl) (H.sub sU) ?_; simp only [pS, pE]
            refine rg_done (by kernel_rfl) ?_
            go_wp2_with fail
            go_roundw
            case rel => exact ⟨j + 1 + 1, by omega, by go_num, HV, H⟩
            case measure => simp [intOf]; omega
          · have h2i : r1 ≤ r0 := by omega
            have HV : Hid (risB m l = false) := Lib.hid (HF.out (by rw [HSN.out, HLJ.out, decide_eq_false h2, Bool.and_false]))
            have h2d : decide (r1 ≤ r0) = true := decide_eq_true h2i
            go_wp2_with fail
            refine rg_begin 27 rfl (S := fun W => St _ _ W _) (by kernel_rfl) H.drew ?_
            replace H := H.drew
            have HS := H
            refine rg_take (i := 0) rfl kR kR kR (Yld.move rfl rfl) (H.sub sU) ?_; simp only [pS, pE]
            refine rg_take (i := 1) rfl kR kR kR (Yld.move rfl rfl) (H.sub sU) ?_; simp only [pS, pE]
            refine rg_take (i := 2) rfl kR kR kR (Yld.move rfl rfl) (H.sub sU) ?_; simp only [pS, pE]
            refine rg_take (i := 3) rfl kR kR kR (Yld.o rfl) (H.sub sU) ?_; simp only [pS]
            first | (refine rg_take (i := 4) rfl kR kR kR (Yld.ldor rfl rfl agg30 size30 rfl (by assumption) sZ (by assumption)) (H.sub sU) ?_; simp only [pS]) | (refine rg_take (i := 4) rfl kR kR kR (Yld.ldr rfl rfl agg30 size30 rfl mR sZ) (H.sub sU) ?_; simp only [pS]) | (refine rg_take (i := 4) rfl kR kR kR (Yld.ldl rfl rfl agg30 size30 rfl mR (by simp)) (H.sub sU) ?_; simp only [pS]; simp only [List.drop_succ_cons, List.drop_zero, List.take_succ_cons, List.take_zero])
            refine rg_one (i := 5) (by kernel_rfl) rfl rfl (fun K hK => ?_)
            refine wp_callf rfl ent119 (rat_is _ m (x, y) _ (ha.grow H.below)) rfl (fun v w1 hr => ?_)
            rw [HR1.out] at hr
            obtain ⟨rfl, hb1⟩ := hr
            replace H := H.grow hb1
            clear hb1
            clear HS
            have HS := H
            refine hK.out _ _ (H.sub sU) ?_
            clear hK K
            simp only [pS]
            refine rg_take (i := 6) rfl kR kR kR (Yld.o rfl) (H.sub sU) ?_; simp only [pS]
            refine rg_take (i := 7) rfl kR kR kR (Yld.move rfl rfl) (H.sub sU) ?_; simp only [pS, pE]
            refine rg_take (i := 8) rfl kR kR kR (Yld.move rfl rfl) (H.sub sU) ?_; simp only [pS, pE]
            refine rg_take (i := 9) rfl kR kR kR (Yld.o rfl) (H.sub sU) ?_; simp only [pS]
            refine rg_take (i := 10) rfl kR kR kR (Yld.move rfl rfl) (H.sub sU) ?_; simp only [pS, pE]
            refine rg_take (i := 11) rfl kR kR kR (Yld.move rfl rfl) (H.sub sU) ?_; simp only [pS, pE]
            refine rg_take (i := 12) rfl kR kR kR (Yld.move rfl rfl) (H.sub sU) ?_; simp only [pS, pE]
            refine rg_take (i := 13) rfl kR kR kR (Yld.move rfl rfl) (H.sub sU) ?_; simp only [pS, pE]
            refine rg_take (i := 14) rfl kR kR kR (Yld.o rfl) (H.sub sU) ?_; simp only [pS]
            refine rg_take (i := 15) rfl kR kR kR (Yld.o rfl) (H.sub sU) ?_; simp only [pS]
            first | (refine rg_take (i := 16) rfl kR kR kR (Yld.ldor rfl rfl agg30 size30 rfl (by assumption) sZ (by assumption)) (H.sub sU) ?_; simp only [pS]) | (refine rg_take (i := 16) rfl kR kR kR (Yld.ldr rfl rfl agg30 size30 rfl mR sZ) (H.sub sU) ?_; simp only [pS]) | (refine rg_take (i := 16) rfl kR kR kR (Yld.ldl rfl rfl agg30 size30 rfl mR (by simp)) (H.sub sU) ?_; simp only [pS]; simp only [List.drop_succ_cons, List.drop_zero, List.take_succ_cons, List.take_zero])
            refine rg_take (i := 18) rfl kR kR kR (Yld.move rfl rfl) (H.sub sU) ?_; simp only [pS, pE]
            refine rg_take (i := 19) rfl kR kR kR (Yld.move rfl rfl) (H.sub sU) ?_; simp only [pS, pE]
            refine rg_take (i := 20) rfl kR kR kR (Yld.move rfl rfl) (H.sub sU) ?_; simp only [pS, pE]
            refine rg_take (i := 21) rfl kR kR kR (Yld.o rfl) (H.sub sU) ?_; simp only [pS]
            first | (refine rg_take (i := 22) rfl kR kR kR (Yld.ldor rfl rfl agg30 size30 rfl (by assumption) sZ (by assumption)) (H.sub sU) ?_; simp only [pS]) | (refine rg_take (i := 22) rfl kR kR kR (Yld.ldr rfl rfl agg30 size30 rfl mR sZ) (H.sub sU) ?_; simp only [pS]) | (refine rg_take (i := 22) rfl kR kR kR (Yld.ldl rfl rfl agg30 size30 rfl mR (by simp)) (H.sub sU) ?_; simp only [pS]; simp only [List.drop_succ_cons, List.drop_zero, List.take_succ_cons, List.take_zero])
            refine rg_one (i := 17) (by kernel_rfl) rfl rfl (fun K hK => ?_)
            refine wp_callf rfl ent119 (rat_is _ m (z, t) _ (ha.grow H.below)) rfl (fun v w1 hr => ?_)
            rw [HR0.out] at hr
            obtain ⟨rfl, hb1⟩ := hr
            replace H := H.grow hb1
            clear hb1
            clear HS
            have HS := H
            refine hK.out _ _ (H.sub sU) ?_
            clear hK K
            simp only [pS]
            refine rg_one (i := 23) (by kernel_rfl) rfl rfl (fun K hK => ?_)
            refine wp_callf rfl ent119 (rat_is _ m (x, y) _ (ha.grow H.below)) rfl (fun v w1 hr => ?_)
            rw [HR1.out] at hr
            obtain ⟨rfl, hb1⟩ := hr
            replace H := H.grow hb1
            clear hb1
            clear HS
            have HS := H
            refine hK.out _ _ (H.sub sU) ?_
            clear hK K
            simp only [pS]
            refine rg_take (i := 24) rfl kR kR kR (Yld.o rfl) (H.sub sU) ?_; simp only [pS]
            refine rg_take (i := 25) rfl kR kR kR (Yld.pick rfl rfl rfl) (H.sub sU) ?_; simp only [pS, pE]
            refine rg_take (i := 26) rfl kR kR kR (Yld.pick rfl rfl rfl) (H.sub sU) ?_; simp only [pS, pE]
            refine rg_done (by kernel_rfl) ?_
            go_wp2_with fail
            go_ret
            exact ⟨_, rfl, by rw [HV.out]; rfl, H.below⟩
    · obtain rfl : k = n := by omega
      have HV : Hid (risB m l = true) := Lib.hid (by
        have := HT.out
        rw [List.take_of_length_le (by rw [HN.out]; omega)] at this
        exact this)
      go_wp2_with fail
      go_ret
      exact ⟨_, rfl, by rw [HV.out]; rfl, H.below⟩
end Go.Proofs.Ytmokecicjmjkbaa
namespace Go.Proofs.Ytmokecicjmjkbaa
open Go.ChangeShapes Go.WideShapes Go.ChangeAt Go.RowKit Go.Maps
set_option linter.unusedVariables false
set_option linter.unusedSimpArgs false
theorem snoc_ind {α : Type} {P : List α → Prop} (h0 : P []) (h1 : ∀ l x, P l → P (l ++ [x])) (l : List α) : P l := by
  rw [← List.reverse_reverse l]
  induction l.reverse with
  | nil => exact h0
  | cons x t ih => rw [List.reverse_cons]; exact h1 _ _ ih
theorem dd_full {α : Type} [DecidableEq α] (l : List α) : (dd l).length = l.length ↔ l.Nodup := by
  refine snoc_ind (P := fun l : List α => (dd l).length = l.length ↔ l.Nodup) ?_ ?_ l
  · simp [dd, ddA]
  · intro l x ih
    have hl := dd_len l []
    rw [dd_snoc, List.nodup_append]
    by_cases h : x ∈ dd l
    · have hx := (mem_dd l x).1 h
      have : (dd l).length ≤ l.length := by simpa [dd] using hl
      simp only [if_pos h]
      constructor
      · intro e; simp at e; omega
      · rintro ⟨_, _, hd⟩; exact absurd rfl (hd x hx x (by simp))
    · have hx := fun h2 => h ((mem_dd l x).2 h2)
      simp only [if_neg h]
      constructor
      · intro e
        refine ⟨ih.1 (by simpa using e), by simp, fun a ha b hb e2 => ?_⟩
        simp at hb; subst hb e2; exact hx ha
      · rintro ⟨h1, _, _⟩
        have := ih.2 h1
        simp [this]
theorem risA_mem {m : List Pr} {d : Int} {l : List Pr} (h : risA m d l = true) : ∀ p ∈ l, ∃ k : Nat, rank m p = some k ∧ d < k := by
  induction l generalizing d with
  | nil => simp
  | cons q r ih =>
    unfold risA at h
    cases hr : rank m q with
    | none => rw [hr] at h; cases h
    | some k =>
      rw [hr] at h
      simp only [Bool.and_eq_true, decide_eq_true_eq] at h
      intro p hp
      rcases List.mem_cons.1 hp with rfl | hp
      · exact ⟨k, hr, h.1⟩
      · obtain ⟨j, h1, h2⟩ := ih h.2 p hp
        exact ⟨j, h1, by omega⟩
theorem risA_nodup {m : List Pr} {d : Int} {l : List Pr} (h : risA m d l = true) : l.Nodup := by
  induction l generalizing d with
  | nil => simp
  | cons q r ih =>
    unfold risA at h
    cases hr : rank m q with
    | none => rw [hr] at h; cases h
    | some k =>
      rw [hr] at h
      simp only [Bool.and_eq_true, decide_eq_true_eq] at h
      refine List.nodup_cons.2 ⟨fun hq => ?_, ih h.2⟩
      obtain ⟨j, h1, h2⟩ := risA_mem h.2 q hq
      rw [hr] at h1
      cases h1
      omega
theorem risB_mem {m l : List Pr} (h : risB m l = true) : ∀ p ∈ l, p ∈ m := fun p hp => by
  obtain ⟨k, h1, _⟩ := risA_mem h p hp
  obtain ⟨hk, e⟩ := rank_lt h1
  exact e ▸ List.getElem_mem hk
theorem risB_len {m l : List Pr} (h : risB m l = true) : l.length ≤ m.length := (risA_nodup h).length_le_of_subset (risB_mem h)
theorem memOk_nodup {m : List Pr} (h : memOk m = true) : m.Nodup := by
  simp only [memOk, Bool.and_eq_true, decide_eq_true_eq] at h
  exact List.Pairwise.of_map (fun x : Pr => x.1) (fun a b hn e => hn (by rw [e])) h.1.1.2
theorem lvOk_mem {m : List Pr} {ls : List (List Pr)} (h : lvOk m ls = true) : ∀ p ∈ ls.flatten, p ∈ m := fun p hp => by
  obtain ⟨l, hl, hpl⟩ := List.mem_flatten.1 hp
  have := List.all_eq_true.1 h l hl
  simp only [Bool.and_eq_true] at this
  exact risB_mem this.2 p hpl
theorem lvOk_len {m : List Pr} {ls : List (List Pr)} (h : lvOk m ls = true) : ls.length ≤ ls.flatten.length := by
  induction ls with
  | nil => simp
  | cons l ls ih =>
    simp only [lvOk, List.all_cons, Bool.and_eq_true] at h
    have := ih h.2
    have h1 : 0 < l.length := by
      cases l with
      | nil => simp at h
      | cons _ _ => simp
    simp only [List.length_cons, List.flatten_cons, List.length_append]
    omega
theorem vOk_parts {x : Vw} (h : vOk x = true) : 1 ≤ x.id ∧ x.id ≤ 4611686018427387904 ∧ memOk x.mem = true ∧ lvOk x.mem x.lvs = true ∧ x.lvs.flatten.length = x.mem.length ∧ x.lvs.flatten.Nodup ∧ risB x.mem (firsts x.lvs) = true ∧ 0 < x.ldr.length ∧ risB x.mem x.ldr = true := by
  simp only [vOk, Bool.and_eq_true, decide_eq_true_eq, dd_full] at h
  obtain ⟨⟨⟨⟨⟨⟨⟨⟨h1, h2⟩, h3⟩, h4⟩, h5⟩, h6⟩, h7⟩, h8⟩, h9⟩ := h
  refine ⟨h1, h2, h3, h4, h5, h6, h7, ?_, h9⟩
  cases hx : x.ldr with
  | nil => rw [hx] at h8; cases h8
  | cons _ _ => simp
theorem vOk_mk {x : Vw} (h1 : 1 ≤ x.id) (h2 : x.id ≤ 4611686018427387904) (h3 : memOk x.mem = true) (h4 : lvOk x.mem x.lvs = true) (h5 : x.lvs.flatten.length = x.mem.length) (h6 : x.lvs.flatten.Nodup) (h8 : 0 < x.ldr.length) : vOk x = (risB x.mem (firsts x.lvs) && risB x.mem x.ldr) := by
  have h8' : x.ldr.isEmpty = false := by
    cases hx : x.ldr with
    | nil => rw [hx] at h8; simp at h8
    | cons _ _ => rfl
  simp [vOk, h1, h2, h3, h4, h5, (dd_full _).2 h6, h8']
/-- What the reference counts. -/
theorem vOk_count {x : Vw} (h : vOk x = true) : (∀ p ∈ x.mem, x.lvs.flatten.count p = 1) ∧ x.lvs.length ≤ x.mem.length ∧ x.ldr.length ≤ x.mem.length := by
  obtain ⟨h1, h2, h3, h4, h5, h6, h7, h8, h9⟩ := vOk_parts h
  refine ⟨fun p hp => ?_, by have := lvOk_len h4; omega, risB_len h9⟩
  rw [h6.count, if_pos ?_]
  refine Classical.byContradiction fun hn => ?_
  have := (List.nodup_cons.2 ⟨hn, h6⟩).length_le_of_subset (l₂ := x.mem) (by
    intro q hq
    rcases List.mem_cons.1 hq with rfl | hq
    · exact hp
    · exact lvOk_mem h4 q hq)
  simp only [List.length_cons] at this
  omega
theorem vOk_of_count {x : Vw} (h1 : 1 ≤ x.id) (h2 : x.id ≤ 4611686018427387904) (h3 : memOk x.mem = true) (hc : ∀ p ∈ x.mem, x.lvs.flatten.count p = 1) (h4 : lvOk x.mem x.lvs = true) (h8 : 0 < x.ldr.length) : vOk x = (risB x.mem (firsts x.lvs) && risB x.mem x.ldr) := by
  have h6 : x.lvs.flatten.Nodup := List.nodup_iff_count.2 fun p => by
    by_cases hp : p ∈ x.lvs.flatten
    · rw [hc p (lvOk_mem h4 p hp)]; exact Nat.le_refl _
    · rw [List.count_eq_zero_of_not_mem hp]; exact Nat.zero_le _
  have a := h6.length_le_of_subset (lvOk_mem h4)
  have b := (memOk_nodup h3).length_le_of_subset (l₂ := x.lvs.flatten) (fun p hp => List.count_pos_iff.1 (by rw [hc p hp]; decide))
  exact vOk_mk h1 h2 h3 h4 (by omega) h6 h8
end Go.Proofs.Ytmokecicjmjkbaa
namespace Go.Proofs.Ytmokecicjmjkbaa
set_option linter.unusedVariables false
set_option linter.unusedSimpArgs false
/-- A member's rank. -/
def rkN (m : List Pr) (p : Pr) : Nat := (rank m p).getD 0
def rkB (m l : List Pr) : List Nat := shortB l.length ++ l.flatMap fun p => shortB (rkN m p)
def vwB (x : Vw) : List Nat := shortB x.id ++ (shortB x.mem.length ++ pidsB x.mem) ++ shortB x.lvs.length ++ (x.lvs.flatMap fun l => rkB x.mem l) ++ rkB x.mem x.ldr
def cmB (c : Cm) : List Nat := shortB c.kind.toNat ++ (if c.kind = 2 then pidB c.fr.1 c.fr.2 ++ shortB c.num ++ shortB c.vw ++ (shortB c.data.length ++ c.data) else if c.kind = 3 then vwB c.v else [])
def lgB (a : Nat) (cs : List Cm) : List Nat := shortB a ++ shortB cs.length ++ cs.flatMap cmB
def plcL (m : List Pr) : Nat → List Pr × Rs → List Pr × Rs
  | 0, a => a
  | n + 1, a => if a.2.2 ≠ 0 then a else if m = [] then (a.1, (a.2.1, 3)) else plcL m n (a.1 ++ [m.getD (numF (m.length - 1) a.2).1 (0, 0)], (numF (m.length - 1) a.2).2)
def plcF (m : List Pr) (s : Rs) : List Pr × Rs := plcL m (numF 24 s).1 ([], (numF 24 s).2)
def lvsL (m : List Pr) : Nat → List (List Pr) × Rs → List (List Pr) × Rs
  | 0, a => a
  | n + 1, a => if a.2.2 ≠ 0 then a else lvsL m n (a.1 ++ [(plcF m a.2).1], (plcF m a.2).2)
/-- A view's parts, whatever they are. -/
def vwR (s : Rs) : Vw × Rs :=
  let z1 := numF 4611686018427387904 s
  let z2 := pidsF 24 z1.2
  let z3 := numF 24 z2.2
  let z4 := lvsL z2.1 z3.1 ([], z3.2)
  let z5 := plcF z2.1 z4.2
  (⟨z1.1, z2.1, z4.1, z5.1⟩, z5.2)
/-- What stops it, if it is read but may not be. -/
def mayE (s : Rs) (b : Bool) : Rs := if s.2 = 0 ∧ b = false then (s.1, 5) else s
def vwF (s : Rs) : Vw × Rs :=
  let z := vwR s
  let e := mayE z.2 (vOk z.1)
  if e.2 ≠ 0 then (vw0, e) else (z.1, e)
def cmR (s : Rs) : Cm × Rs :=
  let z := numF 3 s
  if z.1 = 2 then
    let z1 := pidF z.2
    let z2 := numF 4611686018427387904 z1.2
    let z3 := numF 4611686018427387904 z2.2
    let z4 := bytesF 200 z3.2
    (⟨2, z1.1, z2.1, z3.1, z4.1, vw0⟩, z4.2)
  else if z.1 = 3 then
    let z1 := vwF z.2
    (⟨3, (0, 0), 0, 0, [], z1.1⟩, z1.2)
  else (⟨(z.1 : Int), (0, 0), 0, 0, [], vw0⟩, z.2)
def cmF (s : Rs) : Cm × Rs :=
  let z := cmR s
  let e := mayE z.2 (decide (cErr z.1 = 0))
  if e.2 ≠ 0 then (cm0, e) else (z.1, e)
def cmsL : Nat → List Cm × Rs → List Cm × Rs
  | 0, a => a
  | n + 1, a => if a.2.2 ≠ 0 then a else cmsL n (a.1 ++ [(cmF a.2).1], (cmF a.2).2)
def lgR (l : List Nat) : (Nat × List Cm) × Rs :=
  let z1 := numF 4611686018427387904 (l, 0)
  let z2 := numF 64 z1.2
  let s3 : Rs := if z2.2.2 = 0 ∧ z1.1 < z2.1 then (z2.2.1, 5) else z2.2
  let z4 := cmsL z2.1 ([], s3)
  ((z1.1, z4.1), z4.2)
def lgF (l : List Nat) : (Nat × List Cm) × Nat :=
  let z := lgR l
  if endF z.2 ≠ 0 then ((0, []), endF z.2) else (z.1, 0)
def bt (s : Rs) : Prop := ∀ x ∈ s.1, x < 256
theorem numF_bt {most : Nat} {s : Rs} (h : bt s) : bt (numF most s).2 := by
  unfold numF
  split
  · exact h
  · split
    · exact h
    · split
      · exact h
      · exact fun x hx => h x (List.mem_of_mem_drop hx)
theorem pidF_bt {s : Rs} (h : bt s) : bt (pidF s).2 := by
  unfold pidF
  split
  · exact h
  · split
    · exact h
    · exact fun x hx => h x (List.mem_of_mem_drop hx)
attribute [local irreducible] numF bytesF pidF pidsF plcF lvsL
theorem cErr_only {c : Cm} (h : cErr c = 0) : c = only c := by
  unfold cErr at h
  split at h
  · split at h
    · rename_i h2; exact cSame_iff.1 h2
    · cases h
  · cases h
theorem cErr_kind {c : Cm} (h : cErr c = 0) : c.kind = 1 ∨ (c.kind = 2 ∧ may c.fr.1 c.fr.2 = true ∧ cnt c.num = true ∧ cnt c.vw = true) ∨ (c.kind = 3 ∧ vOk c.v = true) := by
  unfold cErr at h
  split at h
  · rename_i hk
    unfold kindOk at hk
    simp only [Bool.or_eq_true, Bool.and_eq_true, decide_eq_true_eq] at hk
    rcases hk with (hk | hk) | hk
    · exact .inl hk
    · exact .inr (.inl ⟨hk.1.1.1, hk.1.1.2, hk.1.2, hk.2⟩)
    · exact .inr (.inr hk)
  · cases h
theorem cErr_data {c : Cm} (h : cErr c = 0) : c.data.length ≤ 200 := by
  unfold cErr at h
  split at h
  · split at h
    · split at h
      · cases h
      · omega
    · cases h
  · cases h
end Go.Proofs.Ytmokecicjmjkbaa
namespace Go.Proofs.Ytmokecicjmjkbaa
open Go.ChangeShapes Go.WideShapes Go.ChangeAt Go.RowKit Go.Deep
set_option linter.unusedVariables false
set_option linter.unusedSimpArgs false
set_option linter.unusedSectionVars false
set_option maxRecDepth 100000
set_option maxHeartbeats 4000000
theorem rfail5_ok {B : Nat} {w0 : World} {M : List Res} (g : Nat) (s : Value) (e : Nat) (he : e = 0) (w : World) (H : St B w0 w (row 144 g #[s, .int .i64 (e : Int)] :: M)) :
    Calls Try.prog 93 #[.pointer (some ⟨g, 0, none⟩), .int .i64 5] w (Ret fun v w' => v = .tuple #[] ∧ St B w0 w' (row 144 g #[s, .int .i64 ((5 : Nat) : Int)] :: M)) := rfail_ok g s e 5 he w H
theorem rstop3_ok {B : Nat} {w0 : World} {M : List Res} (g : Nat) (s : Value) (e : Nat) (he : e = 0) (w : World) (H : St B w0 w (row 144 g #[s, .int .i64 (e : Int)] :: M)) :
    Calls Try.prog 68 #[.pointer (some ⟨g, 0, none⟩), .int .i64 3] w (Ret fun v w' => v = .tuple #[] ∧ St B w0 w' (row 144 g #[s, .int .i64 ((3 : Nat) : Int)] :: M)) := by
  go_enter Try.func68, Try.ntmps68
  go_wp2_with (first | (go_at_call 93; (with_reducible refine (rfail3_ok g _ e he _ H).mono ?_); rintro e w1 ⟨v, rfl, hr⟩; obtain ⟨rfl, H2⟩ := hr; clear H; have H := H2; clear H2))
  go_end0
  exact ⟨_, rfl, rfl, H⟩
theorem rstop5_ok {B : Nat} {w0 : World} {M : List Res} (g : Nat) (s : Value) (e : Nat) (he : e = 0) (w : World) (H : St B w0 w (row 144 g #[s, .int .i64 (e : Int)] :: M)) :
    Calls Try.prog 68 #[.pointer (some ⟨g, 0, none⟩), .int .i64 5] w (Ret fun v w' => v = .tuple #[] ∧ St B w0 w' (row 144 g #[s, .int .i64 ((5 : Nat) : Int)] :: M)) := by
  go_enter Try.func68, Try.ntmps68
  go_wp2_with (first | (go_at_call 93; (with_reducible refine (rfail5_ok g _ e he _ H).mono ?_); rintro e w1 ⟨v, rfl, hr⟩; obtain ⟨rfl, H2⟩ := hr; clear H; have H := H2; clear H2))
  go_end0
  exact ⟨_, rfl, rfl, H⟩
theorem mNumG24_ok {B : Nat} {w0 : World} {L M : List Res} (g : Nat) (s : Value) (l : List Nat) (e : Nat) (hb : Byt B w0 L s l) (w : World) (H : St B w0 w (row 144 g #[s, .int .i64 (e : Int)] :: M)) (hML : L.Sublist M) :
    Calls Try.prog 67 #[.pointer (some ⟨g, 0, none⟩), .int .u64 24] w (Ret fun v w' => v = .int .u64 ((numF 24 (l, e)).1 : Int) ∧ ∃ s', Byt B w0 L s' (numF 24 (l, e)).2.1 ∧ St B w0 w' (row 144 g #[s', .int .i64 ((numF 24 (l, e)).2.2 : Int)] :: M)) := mNumG_ok g s l e 24 hb hML w H
theorem mNumG3_ok {B : Nat} {w0 : World} {L M : List Res} (g : Nat) (s : Value) (l : List Nat) (e : Nat) (hb : Byt B w0 L s l) (w : World) (H : St B w0 w (row 144 g #[s, .int .i64 (e : Int)] :: M)) (hML : L.Sublist M) :
    Calls Try.prog 67 #[.pointer (some ⟨g, 0, none⟩), .int .u64 3] w (Ret fun v w' => v = .int .u64 ((numF 3 (l, e)).1 : Int) ∧ ∃ s', Byt B w0 L s' (numF 3 (l, e)).2.1 ∧ St B w0 w' (row 144 g #[s', .int .i64 ((numF 3 (l, e)).2.2 : Int)] :: M)) := mNumG_ok g s l e 3 hb hML w H
theorem mNumG64_ok {B : Nat} {w0 : World} {L M : List Res} (g : Nat) (s : Value) (l : List Nat) (e : Nat) (hb : Byt B w0 L s l) (w : World) (H : St B w0 w (row 144 g #[s, .int .i64 (e : Int)] :: M)) (hML : L.Sublist M) :
    Calls Try.prog 67 #[.pointer (some ⟨g, 0, none⟩), .int .u64 64] w (Ret fun v w' => v = .int .u64 ((numF 64 (l, e)).1 : Int) ∧ ∃ s', Byt B w0 L s' (numF 64 (l, e)).2.1 ∧ St B w0 w' (row 144 g #[s', .int .i64 ((numF 64 (l, e)).2.2 : Int)] :: M)) := mNumG_ok g s l e 64 hb hML w H
theorem mNumG4611686018427387904_ok {B : Nat} {w0 : World} {L M : List Res} (g : Nat) (s : Value) (l : List Nat) (e : Nat) (hb : Byt B w0 L s l) (w : World) (H : St B w0 w (row 144 g #[s, .int .i64 (e : Int)] :: M)) (hML : L.Sublist M) :
    Calls Try.prog 67 #[.pointer (some ⟨g, 0, none⟩), .int .u64 4611686018427387904] w (Ret fun v w' => v = .int .u64 ((numF 4611686018427387904 (l, e)).1 : Int) ∧ ∃ s', Byt B w0 L s' (numF 4611686018427387904 (l, e)).2.1 ∧ St B w0 w' (row 144 g #[s', .int .i64 ((numF 4611686018427387904 (l, e)).2.2 : Int)] :: M)) := mNumG_ok g s l e 4611686018427387904 hb hML w H
theorem places_ok {B : Nat} {w0 : World} {L M : List Res} (g : Nat) (s : Value) (l : List Nat) (e : Nat) (m : List Pr) (ma : Option Addr) (mc : Nat) (hm1 : m.length ≤ 1000) (hm : Rd B w0 M fun W => Sl W 2 m.length (.slice ma m.length mc) (elQ m)) (hb : Byt B w0 L s l) (hML : L.Sublist M) (w : World) (H : St B w0 w (row 144 g #[s, .int .i64 (e : Int)] :: M)) :
    Calls Try.prog 126 #[.pointer (some ⟨g, 0, none⟩), .slice ma m.length mc] w (Ret fun v w' => ∃ s' l' e' ab cb d, v = .slice ab d.length cb ∧ Hid (plcF m (l, e) = (d, (l', e'))) ∧ Byt B w0 L s' l' ∧ St B w0 w' (row 144 g #[s', .int .i64 (e' : Int)] :: slc 30 2 (.slice ab d.length cb) d.length (pv d) :: M)) := by
  obtain ⟨mn, hmn⟩ : ∃ mn, m.length = mn := ⟨_, rfl⟩
  have HMN := Lib.hid hmn
  simp only [hmn] at hm hm1 ⊢
  clear hmn
  go_enter Try.func126, Try.ntmps126
  go_upto_region 3 with (first | (go_at_call 67; (with_reducible refine (mNumG24_ok g _ l e hb _ H hML).mono ?_); rintro e w1 ⟨v, rfl, hr⟩; obtain ⟨rfl, s2, hb2, H2⟩ := hr; clear H; have H := H2; clear H2) | (with_reducible refine wpl rfl (ldQ (ty := 30) rfl ?_); first | (with_reducible refine (Stp.ldor rfl agg30 size30 rfl H (by assumption) sZ (by assumption) ?_); simp only [pS]) | (with_reducible refine (Stp.ldr rfl agg30 size30 rfl H mR sZ ?_); simp only [pS]) | (with_reducible refine (Stp.ldl rfl agg30 size30 rfl H mR (by simp) ?_); simp only [pS]; simp only [List.drop_succ_cons, List.drop_zero, List.take_succ_cons, List.take_zero])))
  have hz2 := numF_most (most := 24) (s := (l, e))
  have hpf : plcF m (l, e) = plcL m (numF 24 (l, e)).1 ([], (numF 24 (l, e)).2) := rfl
  obtain ⟨⟨n, l1, e1⟩, hz⟩ : ∃ z, numF 24 (l, e) = z := ⟨_, rfl⟩
  rw [hz] at hb2 H hz2 hpf ⊢
  simp only at hb2 H hz2 hpf ⊢
  clear hz
  have HPF := Lib.hid hpf
  replace H := H.nil 30 2
  clear hpf
  go_wp2_with (first | (with_reducible refine wpl rfl (ldQ (ty := 30) rfl ?_); first | (with_reducible refine (Stp.ldor rfl agg30 size30 rfl H (by assumption) sZ (by assumption) ?_); simp only [pS]) | (with_reducible refine (Stp.ldr rfl agg30 size30 rfl H mR sZ ?_); simp only [pS]) | (with_reducible refine (Stp.ldl rfl agg30 size30 rfl H mR (by simp) ?_); simp only [pS]; simp only [List.drop_succ_cons, List.drop_zero, List.take_succ_cons, List.take_zero])))
  go_loopw [7, 5] (fun i o wr => ∃ (k : Nat) (s : Value) (l2 : List Nat) (e2 : Nat) (acc : List Pr) (a : Option Addr) (c : Nat), k ≤ n ∧ i = .int .u64 (k : Int) ∧ o = .slice a k c ∧ Hid (acc.length = k) ∧ Hid (m = [] → k = 0) ∧ Hid (plcL m (n - k) (acc, (l2, e2)) = plcL m n ([], (l1, e1))) ∧ Byt B w0 L s l2 ∧ St B w0 wr (row 144 g #[s, .int .i64 (e2 : Int)] :: slc 30 2 (.slice a k c) k (pv acc) :: M)) (fun i _ _ => n - (intOf i).toNat)
  case atStart => exact ⟨0, s2, l1, e1, [], none, 0, Nat.zero_le _, rfl, rfl, Lib.hid rfl, Lib.hid (fun _ => rfl), Lib.hid rfl, hb2, H.perm (.swap _ _ _)⟩
  case round =>
    clear H hb2
    obtain ⟨k, s3, l2, e2, acc, a, c, hk, rfl, rfl, HA, HK, HP, hb3, H⟩ := hrel
    by_cases hgo : k < n ∧ e2 = 0
    · obtain ⟨hlt, rfl⟩ := hgo
      have kli : (k : Int) < (n : Int) := by omega
      have hei : (((0 : Nat) : Int) == 0) = true := by simp
      by_cases h0 : mn = 0
      · have hm0 : m = [] := List.eq_nil_of_length_eq_zero (by rw [HMN.out]; exact h0)
        have hk0 := HK.out hm0
        subst hk0
        have hacc : acc = [] := List.eq_nil_of_length_eq_zero HA.out
        have HV : Hid (plcF m (l, e) = ([], (l2, 3))) := Lib.hid (by
          rw [HPF.out, ← HP.out, hacc, show n - 0 = (n - 1) + 1 by omega]
          show (if (0 : Nat) ≠ 0 then _ else if m = [] then _ else _) = _
          rw [if_neg (by simp), if_pos hm0])
        subst h0
        have hmi : (((0 : Nat) : Int) == 0) = true := by simp
        clear hm0 hlt hk
        go_wp2_with (first | (go_at_call 69; (with_reducible refine (rerr_ok _ _ _ _ (H.getHeap mE)).mono ?_); rintro e w1 ⟨v, rfl, hr⟩; obtain ⟨rfl, hb1⟩ := hr; replace H := H.grow hb1; clear hb1) | (go_at_call 68; (with_reducible refine (rstop3_ok g _ 0 rfl _ H).mono ?_); rintro e w1 ⟨v, rfl, hr⟩; obtain ⟨rfl, H2⟩ := hr; clear H; have H := H2; clear H2) | (with_reducible refine wpl rfl (ldQ (ty := 30) rfl ?_); first | (with_reducible refine (Stp.ldor rfl agg30 size30 rfl H (by assumption) sZ (by assumption) ?_); simp only [pS]) | (with_reducible refine (Stp.ldr rfl agg30 size30 rfl H mR sZ ?_); simp only [pS]) | (with_reducible refine (Stp.ldl rfl agg30 size30 rfl H mR (by simp) ?_); simp only [pS]; simp only [List.drop_succ_cons, List.drop_zero, List.take_succ_cons, List.take_zero])))
        go_ret
        subst hacc
        exact ⟨_, rfl, s3, l2, 3, a, c, [], rfl, HV, hb3, H⟩
      · have hmi : ((mn : Int) == 0) = false := by simp; omega
        obtain ⟨q, hq⟩ : ∃ q, mn - 1 = q := ⟨_, rfl⟩
        have wmn : IntKind.u64.wrap (mn : Int) = (mn : Int) := wrap_u64_in _ (by omega) (by omega)
        have wq : IntKind.u64.wrap ((mn : Int) - 1) = (q : Int) := by rw [wrap_u64_in _ (by omega) (by omega)]; omega
        have hqi : (mn : Int) - 1 = (q : Int) := by omega
        obtain ⟨b, off, rfl, hbb⟩ := (hm.at H (by repeat (first | exact List.Sublist.refl _ | apply List.Sublist.cons))).addr (by omega)
        have hne : m ≠ [] := by intro h; rw [h] at HMN; exact h0 HMN.out.symm
        have hkq := numF_most (most := q) (s := (l2, 0))
        have hp2 : plcL m (n - (k + 1)) (acc ++ [m.getD (numF q (l2, 0)).1 (0, 0)], (numF q (l2, 0)).2) = plcL m n ([], (l1, e1)) := by
          rw [← HP.out, show n - k = (n - (k + 1)) + 1 by omega, ← hq, ← HMN.out]
          show _ = (if (0 : Nat) ≠ 0 then _ else if m = [] then _ else _)
          rw [if_neg (by simp), if_neg hne]
        obtain ⟨⟨r, l4, e4⟩, hz⟩ : ∃ z, numF q (l2, 0) = z := ⟨_, rfl⟩
        have HZ := Lib.hid hz
        rw [hz] at hp2 hkq
        simp only at hp2 hkq
        have hkm : r < mn := by omega
        have hki : (r : Int) < (mn : Int) := by omega
        obtain ⟨⟨x, y⟩, hxy⟩ : ∃ z, m.getD r (0, 0) = z := ⟨_, rfl⟩
        have HEL : Hid (elQ m r = #[.int .u16 (x : Int), .int .u32 (y : Int)]) := Lib.hid (by unfold elQ; rw [hxy])
        rw [hxy] at hp2
        have HP2 := Lib.hid hp2
        have HSN := Lib.hid (pv_snG acc (x, y))
        have HNE := Lib.hid hne
        clear hz hp2 hxy hne hq h0
        go_wp2_with (first | (go_at_call 69; (with_reducible refine (rerr_ok _ _ _ _ (H.getHeap mE)).mono ?_); rintro e w1 ⟨v, rfl, hr⟩; obtain ⟨rfl, hb1⟩ := hr; replace H := H.grow hb1; clear hb1) | (go_at_call 67; (with_reducible refine (mNumG_ok g s3 l2 0 q hb3 (by repeat (first | exact hML | apply List.Sublist.cons)) _ H).mono ?_); rintro e w1 ⟨v, rfl, hr⟩; obtain ⟨rfl, s4, hb4, H2⟩ := hr; clear H; have H := H2; clear H2; rw [HZ.out] at hb4 H ⊢; simp only at hb4 H ⊢) | (with_reducible refine wpl rfl (Stp.ldq (cs := #[.int .u16 (x : Int), .int .u32 (y : Int)]) rfl agg30 size30 rfl (by rw [← HEL.out]; exact (hm.at H (by repeat (first | exact List.Sublist.refl _ | apply List.Sublist.cons))).cell hkm) rfl ?_); simp only [pS]) | (with_reducible refine wpl rfl (dQ 37 rfl ?_); with_reducible refine (Stp.bsl (e := 30) (cs := #[.int .u16 (x : Int), .int .u32 (y : Int)]) 37 rfl rfl (fun W => by kernel_rfl) H ?_); clear H; intro g37 w1 H; simp only [pS]) | (with_reducible refine wpl rfl (dQ 38 rfl ?_); with_reducible refine (Stp.app 38 rfl rfl Try.underlying31 info30 rfl (by decide) rfl rfl H (fun _ => uP) rfl (newN (H.getRow (t := 30) mE)) (by simp [Value.oneCell']) (by unfold maxLen; omega) (by omega) ?_); clear H; intro a26 c26 w1 H; simp only [pS]; simp only [List.toList_toArray] at H; rw [← HSN.out] at H) | (with_reducible refine wpl rfl (ldQ (ty := 30) rfl ?_); first | (with_reducible refine (Stp.ldor rfl agg30 size30 rfl H (by assumption) sZ (by assumption) ?_); simp only [pS]) | (with_reducible refine (Stp.ldr rfl agg30 size30 rfl H mR sZ ?_); simp only [pS]) | (with_reducible refine (Stp.ldl rfl agg30 size30 rfl H mR (by simp) ?_); simp only [pS]; simp only [List.drop_succ_cons, List.drop_zero, List.take_succ_cons, List.take_zero])))
        go_roundw
        case rel => exact ⟨k + 1, s4, l4, e4, acc ++ [(x, y)], a26, c26, by omega, by go_num, rfl, Lib.hid (by rw [List.length_append, HA.out]; rfl), Lib.hid (fun h => absurd h HNE.out), HP2, hb4, (((H.pull (r := slc 30 2 _ (k + 1) _) pU).pull (r := row 144 g #[s4, .int .i64 (e4 : Int)]) pU)).sub sU⟩
        case measure => simp [intOf]; omega
    · have HV : Hid (plcF m (l, e) = (acc, (l2, e2))) := Lib.hid (by
        rw [HPF.out, ← HP.out]
        by_cases he2 : e2 ≠ 0
        · cases hn9 : n - k with
          | zero => rfl
          | succ j => exact if_pos he2
        · have : k = n := by
            rcases Nat.lt_or_ge k n with h | h
            · exact absurd ⟨h, by omega⟩ hgo
            · omega
          subst this
          rw [Nat.sub_self]; rfl)
      by_cases hlt : k < n
      · have kli : (k : Int) < (n : Int) := by omega
        have hei : ((e2 : Int) == 0) = false := by
          have : e2 ≠ 0 := fun h => hgo ⟨hlt, h⟩
          simp; omega
        clear hgo hlt
        go_wp2_with (first | (go_at_call 69; (with_reducible refine (rerr_ok _ _ _ _ (H.getHeap mE)).mono ?_); rintro e w1 ⟨v, rfl, hr⟩; obtain ⟨rfl, hb1⟩ := hr; replace H := H.grow hb1; clear hb1) | (with_reducible refine wpl rfl (ldQ (ty := 30) rfl ?_); first | (with_reducible refine (Stp.ldor rfl agg30 size30 rfl H (by assumption) sZ (by assumption) ?_); simp only [pS]) | (with_reducible refine (Stp.ldr rfl agg30 size30 rfl H mR sZ ?_); simp only [pS]) | (with_reducible refine (Stp.ldl rfl agg30 size30 rfl H mR (by simp) ?_); simp only [pS]; simp only [List.drop_succ_cons, List.drop_zero, List.take_succ_cons, List.take_zero])))
        go_ret
        refine ⟨_, rfl, s3, l2, e2, a, c, acc, ?_, HV, hb3, ?_⟩
        · rw [HA.out]; rfl
        · rw [HA.out]; exact H
      · have kli : ¬ (k : Int) < (n : Int) := by omega
        clear hgo hlt
        go_wp2_with (first | (go_at_call 69; (with_reducible refine (rerr_ok _ _ _ _ (H.getHeap mE)).mono ?_); rintro e w1 ⟨v, rfl, hr⟩; obtain ⟨rfl, hb1⟩ := hr; replace H := H.grow hb1; clear hb1) | (with_reducible refine wpl rfl (ldQ (ty := 30) rfl ?_); first | (with_reducible refine (Stp.ldor rfl agg30 size30 rfl H (by assumption) sZ (by assumption) ?_); simp only [pS]) | (with_reducible refine (Stp.ldr rfl agg30 size30 rfl H mR sZ ?_); simp only [pS]) | (with_reducible refine (Stp.ldl rfl agg30 size30 rfl H mR (by simp) ?_); simp only [pS]; simp only [List.drop_succ_cons, List.drop_zero, List.take_succ_cons, List.take_zero])))
        go_ret
        refine ⟨_, rfl, s3, l2, e2, a, c, acc, ?_, HV, hb3, ?_⟩
        · rw [HA.out]; rfl
        · rw [HA.out]; exact H

end Go.Proofs.Ytmokecicjmjkbaa
