/- Contracts of the reference's At (choragusref08); no condition. The reference's rising (choragusref08), the plain law of it; no condition. The plain law of the reference's Check over views (choragusref08): what it counts is what the program's Check asks; no condition. Views, commands and ledgers read of bytes, and laid: functions, and how they meet; the bounds stand in each. -/
import Derived.Test.YtmokecicjmjkbaaGz5
import Derived.Test.YtmokecicjmjkbaaGz9
import Derived.Test.YtmokecicjmjkbaaGz13
namespace Go.Proofs.Ytmokecicjmjkbaa
open Go.ChangeShapes Go.WideShapes Go.ChangeAt Go.RowKit Go.Maps
set_option linter.unusedVariables false
set_option linter.unusedSimpArgs false
/-- Where a process stands first; -1 if it does not. -/
def atR (l : List Pr) (p : Pr) : Int := match rank l p with | some k => (k : Int) | none => -1
theorem rank_at {l : List Pr} {p : Pr} {k : Nat} (hk : k < l.length) (h0 : rank (l.take k) p = none) (h : l[k] = p) : rank l p = some k := by
  induction l generalizing k with
  | nil => cases hk
  | cons x l ih =>
    cases k with
    | zero => simp only [List.getElem_cons_zero] at h; simp [rank, h]
    | succ k =>
      simp only [List.take_succ_cons, rank] at h0
      unfold rank
      by_cases hx : x = p
      · rw [if_pos hx] at h0; cases h0
      · rw [if_neg hx] at h0 ⊢
        rw [ih (by simpa using hk) (Option.map_eq_none_iff.1 h0) (by simpa using h)]
        rfl
set_option maxRecDepth 100000 in
set_option maxHeartbeats 1000000 in
theorem rat_is (va : Value) (l : List Pr) (p : Pr) (w : World) (ha : Sl w 2 l.length va (elQ l)) :
    Calls Try.prog 119 #[va, .agg #[.int .u16 (p.1 : Int), .int .u32 (p.2 : Int)]] w (Ret fun v w' => v = .int .i64 (atR l p) ∧ Below w.heap.size w w') := by
  have H := St.init w
  have ha' := ha
  obtain ⟨aa, ca, rfl, hma, _⟩ := ha'
  unfold maxLen at hma
  obtain ⟨n, hn⟩ : ∃ n, l.length = n := ⟨_, rfl⟩
  have HN := Lib.hid hn
  rw [hn] at ha hma ⊢
  clear hn
  go_enter Try.func119, Try.ntmps119
  go_wp2_with (first | (with_reducible refine wpl rfl (dQ 3 rfl ?_); with_reducible refine (Stp.box 3 rfl rfl rfl H ?_); clear H; intro g3 w1 H; simp only [pS]; simp only [pE, nC, pS] at H))
  go_loopw [5] (fun i wr => ∃ k : Nat, k ≤ n ∧ i = .int .i64 k ∧ Hid (rank (l.take k) p = none) ∧ St w.heap.size w wr [row 30 g3 #[.int .u16 (p.1 : Int), .int .u32 (p.2 : Int)]]) (fun i _ => n - (intOf i).toNat)
  case atStart => exact ⟨0, Nat.zero_le _, rfl, Lib.hid (by simp [rank]), H⟩
  case round =>
    clear H
    obtain ⟨k, hk, rfl, HT, H⟩ := hrel
    by_cases hlt : k < n
    · have hl1 : k < l.length := by rw [HN.out]; exact hlt
      obtain ⟨b1, o1, rfl, hb1⟩ := ha.addr (by omega)
      have hc1 := ha.cell hlt
      unfold elQ at hc1
      rw [getD_at hl1] at hc1
      have hs1 := List.take_succ_eq_append_getElem hl1
      have hra := rank_at (p := p) hl1 HT.out
      obtain ⟨⟨x, y⟩, hx⟩ : ∃ x, l[k] = x := ⟨_, rfl⟩
      rw [hx] at hc1 hs1 hra
      have kli : (k : Int) < (n : Int) := by omega
      by_cases he0 : (x, y) = p
      · have HV : Hid (atR l p = k) := Lib.hid (by unfold atR; rw [hra he0])
        obtain ⟨z, t⟩ := p
        injection he0 with e1 e2
        subst e1 e2
        have he := eqPD_yes x y
        clear hs1 hx hra
        go_wp2_with (first | (with_reducible refine wpl rfl (dQ 3 rfl ?_); with_reducible refine (Stp.box 3 rfl rfl rfl H ?_); clear H; intro g3 w1 H; simp only [pS]; simp only [pE, nC, pS] at H))
        refine rg_begin 6 rfl (S := fun W => St _ _ W _) (by kernel_rfl) H.drew ?_
        replace H := H.drew
        have HS := H
        refine rg_take (i := 0) rfl kR kR kR (Yld.move rfl rfl) HS ?_; simp only [pS, pE]
        refine rg_take (i := 1) rfl kR kR kR (Yld.move rfl rfl) HS ?_; simp only [pS, pE]
        refine rg_take (i := 2) rfl kR kR kR (Yld.o rfl) HS ?_; simp only [pS]
        first | (refine rg_take (i := 3) rfl kR kR kR (Yld.ldor rfl rfl agg30 size30 rfl (by assumption) sZ (by assumption)) HS ?_; simp only [pS]) | (refine rg_take (i := 3) rfl kR kR kR (Yld.ldr rfl rfl agg30 size30 rfl mR sZ) HS ?_; simp only [pS]) | (refine rg_take (i := 3) rfl kR kR kR (Yld.ldl rfl rfl agg30 size30 rfl mR (by simp)) HS ?_; simp only [pS]; simp only [List.drop_succ_cons, List.drop_zero, List.take_succ_cons, List.take_zero])
        first | (refine rg_take (i := 4) rfl kR kR kR (Yld.ldor rfl rfl agg30 size30 rfl (by assumption) sZ (by assumption)) HS ?_; simp only [pS]) | (refine rg_take (i := 4) rfl kR kR kR (Yld.ldr rfl rfl agg30 size30 rfl mR sZ) HS ?_; simp only [pS]) | (refine rg_take (i := 4) rfl kR kR kR (Yld.ldl rfl rfl agg30 size30 rfl mR (by simp)) HS ?_; simp only [pS]; simp only [List.drop_succ_cons, List.drop_zero, List.take_succ_cons, List.take_zero])
        refine rg_take (i := 5) rfl kR kR kR (Yld.o rfl) HS ?_; simp only [pS]
        refine rg_done (by kernel_rfl) ?_
        go_wp2_with (first | (with_reducible refine wpl rfl (dQ 3 rfl ?_); with_reducible refine (Stp.box 3 rfl rfl rfl H ?_); clear H; intro g3 w1 H; simp only [pS]; simp only [pE, nC, pS] at H))
        go_ret
        exact ⟨_, rfl, by rw [HV.out]; rfl, H.below⟩
      · have HRK : Hid (rank (l.take (k + 1)) p = none) := Lib.hid (by rw [hs1, rank_snoc, HT.out, if_neg he0])
        obtain ⟨z, t⟩ := p
        have he := eqPD_no x y z t he0
        clear hs1 hx hra he0
        go_wp2_with (first | (with_reducible refine wpl rfl (dQ 3 rfl ?_); with_reducible refine (Stp.box 3 rfl rfl rfl H ?_); clear H; intro g3 w1 H; simp only [pS]; simp only [pE, nC, pS] at H))
        refine rg_begin 6 rfl (S := fun W => St _ _ W _) (by kernel_rfl) H.drew ?_
        replace H := H.drew
        have HS := H
        refine rg_take (i := 0) rfl kR kR kR (Yld.move rfl rfl) HS ?_; simp only [pS, pE]
        refine rg_take (i := 1) rfl kR kR kR (Yld.move rfl rfl) HS ?_; simp only [pS, pE]
        refine rg_take (i := 2) rfl kR kR kR (Yld.o rfl) HS ?_; simp only [pS]
        first | (refine rg_take (i := 3) rfl kR kR kR (Yld.ldor rfl rfl agg30 size30 rfl (by assumption) sZ (by assumption)) HS ?_; simp only [pS]) | (refine rg_take (i := 3) rfl kR kR kR (Yld.ldr rfl rfl agg30 size30 rfl mR sZ) HS ?_; simp only [pS]) | (refine rg_take (i := 3) rfl kR kR kR (Yld.ldl rfl rfl agg30 size30 rfl mR (by simp)) HS ?_; simp only [pS]; simp only [List.drop_succ_cons, List.drop_zero, List.take_succ_cons, List.take_zero])
        first | (refine rg_take (i := 4) rfl kR kR kR (Yld.ldor rfl rfl agg30 size30 rfl (by assumption) sZ (by assumption)) HS ?_; simp only [pS]) | (refine rg_take (i := 4) rfl kR kR kR (Yld.ldr rfl rfl agg30 size30 rfl mR sZ) HS ?_; simp only [pS]) | (refine rg_take (i := 4) rfl kR kR kR (Yld.ldl rfl rfl agg30 size30 rfl mR (by simp)) HS ?_; simp only [pS]; simp only [List.drop_succ_cons, List.drop_zero, List.take_succ_cons, List.take_zero])
        refine rg_take (i := 5) rfl kR kR kR (Yld.o rfl) HS ?_; simp only [pS]
        refine rg_done (by kernel_rfl) ?_
        go_wp2_with (first | (with_reducible refine wpl rfl (dQ 3 rfl ?_); with_reducible refine (Stp.box 3 rfl rfl rfl H ?_); clear H; intro g3 w1 H; simp only [pS]; simp only [pE, nC, pS] at H))
        go_roundw
        case rel => exact ⟨k + 1, by omega, by go_num, HRK, H⟩
        case measure => simp [intOf]; omega
    · obtain rfl : k = n := by omega
      have HV : Hid (atR l p = -1) := Lib.hid (by
        have := HT.out
        rw [List.take_of_length_le (by rw [HN.out]; omega)] at this
        unfold atR; rw [this])
      go_wp2_with (first | (with_reducible refine wpl rfl (dQ 3 rfl ?_); with_reducible refine (Stp.box 3 rfl rfl rfl H ?_); clear H; intro g3 w1 H; simp only [pS]; simp only [pE, nC, pS] at H))
      go_ret
      exact ⟨_, rfl, by rw [HV.out]; rfl, H.below⟩
end Go.Proofs.Ytmokecicjmjkbaa
namespace Go.Proofs.Ytmokecicjmjkbaa
open Go.ChangeShapes Go.WideShapes Go.ChangeAt Go.RowKit Go.Maps
set_option linter.unusedVariables false
set_option linter.unusedSimpArgs false
/-- Where the last of some stands. -/
def lastR (m : List Pr) (d : Int) : List Pr → Int
  | [] => d
  | p :: r => lastR m (atR m p) r
theorem lastR_snoc (m : List Pr) (d : Int) (l : List Pr) (x : Pr) : lastR m d (l ++ [x]) = atR m x := by
  induction l generalizing d with
  | nil => rfl
  | cons p r ih => exact ih _
theorem risA_snoc (m : List Pr) (d : Int) (l : List Pr) (x : Pr) : risA m d (l ++ [x]) = (risA m d l && (decide (0 ≤ atR m x) && decide (lastR m d l < atR m x))) := by
  induction l generalizing d with
  | nil =>
    unfold atR
    cases h : rank m x with
    | none => simp [risA, lastR, h]
    | some k => rw [Bool.eq_iff_iff]; simp [risA, lastR, h]; exact ⟨fun h => decide_eq_true h, fun h => of_decide_eq_true h⟩
  | cons p r ih =>
    simp only [List.cons_append, risA, lastR]
    cases h : rank m p with
    | none => simp
    | some k =>
      have ha : atR m p = k := by unfold atR; rw [h]
      simp only [ih, ha, Bool.and_assoc]
theorem risA_take (m : List Pr) (d : Int) (l : List Pr) (k : Nat) (h : risA m d (l.take k) = false) : risA m d l = false := by
  induction l generalizing d k with
  | nil => simpa using h
  | cons p r ih =>
    cases k with
    | zero => cases h
    | succ k =>
      simp only [List.take_succ_cons, risA] at h ⊢
      cases hr : rank m p with
      | none => rfl
      | some j =>
        rw [hr] at h
        simp only [Bool.and_eq_false_iff] at h ⊢
        exact h.imp id (ih j k)
set_option maxRecDepth 100000 in
set_option maxHeartbeats 2000000 in
theorem rrising_is (va vb : Value) (m l : List Pr) (w : World) (e : Bool) (he : risB m l = e) (ha : Sl w 2 m.length va (elQ m)) (hb : Sl w 2 l.length vb (elQ l)) :
    Calls Try.prog 87 #[va, vb] w (Ret fun v w' => v = .bool e ∧ Below w.heap.size w w') := by
  have H := St.init w
  subst he
  have ha' := ha
  have hb' := hb
  obtain ⟨aa, ca, rfl, hma, _⟩ := ha'
  obtain ⟨ab, cb, rfl, hmb, _⟩ := hb'
  unfold maxLen at hma hmb
  obtain ⟨n, hn⟩ : ∃ n, l.length = n := ⟨_, rfl⟩
  have HN := Lib.hid hn
  rw [hn] at hb hmb ⊢
  clear hn
  go_enter Try.func87, Try.ntmps87
  go_wp2_with fail
  go_loopw [5] (fun i wr => ∃ k : Nat, k ≤ n ∧ i = .int .i64 k ∧ Hid (risA m (-1) (l.take k) = true) ∧ St w.heap.size w wr []) (fun i _ => n - (intOf i).toNat)
  case atStart => exact ⟨0, Nat.zero_le _, rfl, Lib.hid (by simp [risA]), H⟩
  case round =>
    clear H
    obtain ⟨k, hk, rfl, HT, H⟩ := hrel
    by_cases hlt : k < n
    · have hl1 : k < l.length := by rw [HN.out]; exact hlt
      obtain ⟨b1, o1, rfl, hb1⟩ := hb.addr (by omega)
      have hc1 := hb.cell hlt
      unfold elQ at hc1
      rw [getD_at hl1] at hc1
      have hs1 := List.take_succ_eq_append_getElem hl1
      have hf := risA_take m (-1) l (k + 1)
      have hsn := risA_snoc m (-1) (l.take k) l[k]
      rw [← hs1, HT.out, Bool.true_and] at hsn
      have hlz : ∀ j (hj : j < l.length), k = j + 1 → lastR m (-1) (l.take k) = atR m l[j] := by
        intro j hj e
        rw [e, List.take_succ_eq_append_getElem hj, lastR_snoc]
      obtain ⟨⟨x, y⟩, hx⟩ : ∃ x, l[k] = x := ⟨_, rfl⟩
      rw [hx] at hc1 hsn
      obtain ⟨r1, hr1⟩ : ∃ r, atR m (x, y) = r := ⟨_, rfl⟩
      have HR1 := Lib.hid hr1
      rw [hr1] at hsn
      have HF := Lib.hid hf
      have HSN := Lib.hid hsn
      have HLZ := Lib.hid hlz
      have kli : (k : Int) < (n : Int) := by omega
      clear hs1 hf hsn hlz hx hr1
      by_cases h1 : r1 < 0
      · have HV : Hid (risB m l = false) := Lib.hid (HF.out (by rw [HSN.out, decide_eq_false (by omega), Bool.false_and]))
        have h1d : decide (r1 < 0) = true := decide_eq_true h1
        go_wp2_with fail
        refine rg_begin 27 rfl (S := fun W => St _ _ W _) (by kernel_rfl) H.drew ?_
        replace H := H.drew
        have HS := H
        refine rg_take (i := 0) rfl kR kR kR (Yld.move rfl rfl) (H.sub sU) ?_; simp only [pS, pE]
        refine rg_take (i := 1) rfl kR kR kR (Yld.move rfl rfl) (H.sub sU) ?_; simp only [pS, pE]
        refine rg_take (i := 2) rfl kR kR kR (Yld.move rfl rfl) (H.sub sU) ?_; simp only [pS, pE]
        refine rg_take (i := 3) rfl kR kR kR (Yld.o rfl) (H.sub sU) ?_; simp only [pS]
        first | (refine rg_take (i := 4) rfl kR kR kR (Yld.ldor rfl rfl agg30 size30 rfl (by assumption) sZ (by assumption)) (H.sub sU) ?_; simp only [pS]) | (refine rg_take (i := 4) rfl kR kR kR (Yld.ldr rfl rfl agg30 size30 rfl mR sZ) (H.sub sU) ?_; simp only [pS]) | (refine rg_take (i := 4) rfl kR kR kR (Yld.ldl rfl rfl agg30 size30 rfl mR (by simp)) (H.sub sU) ?_; simp only [pS]; simp only [List.drop_succ_cons, List.drop_zero, List.take_succ_cons, List.take_zero])
        refine rg_one (i := 5) (by kernel_rfl) rfl rfl (fun K hK => ?_)
        refine wp_callf rfl ent119 (rat_is _ m (x, y) _ (ha.grow H.below)) rfl (fun v w1 hr => ?_)
        rw [HR1.out] at hr
        obtain ⟨rfl, hb1⟩ := hr
        replace H := H.grow hb1
        clear hb1
        clear HS
        have HS := H
        refine hK.out _ _ (H.sub sU) ?_
        clear hK K
        simp only [pS]
        refine rg_take (i := 6) rfl kR kR kR (Yld.o rfl) (H.sub sU) ?_; simp only [pS]
        refine rg_take (i := 7) rfl kR kR kR (Yld.move rfl rfl) (H.sub sU) ?_; simp only [pS, pE]
        refine rg_take (i := 8) rfl kR kR kR (Yld.skip rfl) (H.sub sU) ?_; simp only [pS]
        refine rg_take (i := 9) rfl kR kR kR (Yld.skip rfl) (H.sub sU) ?_; simp only [pS]
        refine rg_take (i := 10) rfl kR kR kR (Yld.skip rfl) (H.sub sU) ?_; simp only [pS]
        refine rg_take (i := 11) rfl kR kR kR (Yld.skip rfl) (H.sub sU) ?_; simp only [pS]
        refine rg_take (i := 12) rfl kR kR kR (Yld.skip rfl) (H.sub sU) ?_; simp only [pS]
        refine rg_take (i := 13) rfl kR kR kR (Yld.skip rfl) (H.sub sU) ?_; simp only [pS]
        refine rg_take (i := 14) rfl kR kR kR (Yld.skip rfl) (H.sub sU) ?_; simp only [pS]
        refine rg_take (i := 15) rfl kR kR kR (Yld.skip rfl) (H.sub sU) ?_; simp only [pS]
        refine rg_take (i := 16) rfl kR kR kR (Yld.skip rfl) (H.sub sU) ?_; simp only [pS]
        refine rg_take (i := 17) rfl kR kR kR (Yld.skip rfl) (H.sub sU) ?_; simp only [pS]
        refine rg_take (i := 18) rfl kR kR kR (Yld.skip rfl) (H.sub sU) ?_; simp only [pS]
        refine rg_take (i := 19) rfl kR kR kR (Yld.skip rfl) (H.sub sU) ?_; simp only [pS]
        refine rg_take (i := 20) rfl kR kR kR (Yld.skip rfl) (H.sub sU) ?_; simp only [pS]
        refine rg_take (i := 21) rfl kR kR kR (Yld.skip rfl) (H.sub sU) ?_; simp only [pS]
        refine rg_take (i := 22) rfl kR kR kR (Yld.skip rfl) (H.sub sU) ?_; simp only [pS]
        refine rg_take (i := 23) rfl kR kR kR (Yld.skip rfl) (H.sub sU) ?_; simp only [pS]
        refine rg_take (i := 24) rfl kR kR kR (Yld.skip rfl) (H.sub sU) ?_; simp only [pS]
        refine rg_take (i := 25) rfl kR kR kR (Yld.skip rfl) (H.sub sU) ?_; simp only [pS]
        refine rg_take (i := 26) rfl kR kR kR (Yld.pick rfl rfl rfl) (H.sub sU) ?_; simp only [pS, pE]
        refine rg_done (by kernel_rfl) ?_
        go_wp2_with fail
        go_ret
        exact ⟨_, rfl, by rw [HV.out]; rfl, H.below⟩
      · have h1d : decide (r1 < 0) = false := decide_eq_false h1
        rcases Nat.eq_zero_or_pos k with rfl | hk0
        · have HV : Hid (risA m (-1) (l.take (0 + 1)) = true) := Lib.hid (by rw [HSN.out, decide_eq_true (by omega), Bool.true_and]; exact decide_eq_true (by show (-1 : Int) < r1; omega))
          go_wp2_with fail
          refine rg_begin 27 rfl (S := fun W => St _ _ W _) (by kernel_rfl) H.drew ?_
          replace H := H.drew
          have HS := H
          refine rg_take (i := 0) rfl kR kR kR (Yld.move rfl rfl) (H.sub sU) ?_; simp only [pS, pE]
          refine rg_take (i := 1) rfl kR kR kR (Yld.move rfl rfl) (H.sub sU) ?_; simp only [pS, pE]
          refine rg_take (i := 2) rfl kR kR kR (Yld.move rfl rfl) (H.sub sU) ?_; simp only [pS, pE]
          refine rg_take (i := 3) rfl kR kR kR (Yld.o rfl) (H.sub sU) ?_; simp only [pS]
          first | (refine rg_take (i := 4) rfl kR kR kR (Yld.ldor rfl rfl agg30 size30 rfl (by assumption) sZ (by assumption)) (H.sub sU) ?_; simp only [pS]) | (refine rg_take (i := 4) rfl kR kR kR (Yld.ldr rfl rfl agg30 size30 rfl mR sZ) (H.sub sU) ?_; simp only [pS]) | (refine rg_take (i := 4) rfl kR kR kR (Yld.ldl rfl rfl agg30 size30 rfl mR (by simp)) (H.sub sU) ?_; simp only [pS]; simp only [List.drop_succ_cons, List.drop_zero, List.take_succ_cons, List.take_zero])
          refine rg_one (i := 5) (by kernel_rfl) rfl rfl (fun K hK => ?_)
          refine wp_callf rfl ent119 (rat_is _ m (x, y) _ (ha.grow H.below)) rfl (fun v w1 hr => ?_)
          rw [HR1.out] at hr
          obtain ⟨rfl, hb1⟩ := hr
          replace H := H.grow hb1
          clear hb1
          clear HS
          have HS := H
          refine hK.out _ _ (H.sub sU) ?_
          clear hK K
          simp only [pS]
          refine rg_take (i := 6) rfl kR kR kR (Yld.o rfl) (H.sub sU) ?_; simp only [pS]
          refine rg_take (i := 7) rfl kR kR kR (Yld.move rfl rfl) (H.sub sU) ?_; simp only [pS, pE]
          refine rg_take (i := 8) rfl kR kR kR (Yld.move rfl rfl) (H.sub sU) ?_; simp only [pS, pE]
          refine rg_take (i := 9) rfl kR kR kR (Yld.o rfl) (H.sub sU) ?_; simp only [pS]
          refine rg_take (i := 10) rfl kR kR kR (Yld.move rfl rfl) (H.sub sU) ?_; simp only [pS, pE]
          refine rg_take (i := 11) rfl kR kR kR (Yld.skip rfl) (H.sub sU) ?_; simp only [pS]
          refine rg_take (i := 12) rfl kR kR kR (Yld.skip rfl) (H.sub sU) ?_; simp only [pS]
          refine rg_take (i := 13) rfl kR kR kR (Yld.skip rfl) (H.sub sU) ?_; simp only [pS]
          refine rg_take (i := 14) rfl kR kR kR (Yld.skip rfl) (H.sub sU) ?_; simp only [pS]
          refine rg_take (i := 15) rfl kR kR kR (Yld.skip rfl) (H.sub sU) ?_; simp only [pS]
          refine rg_take (i := 16) rfl kR kR kR (Yld.skip rfl) (H.sub sU) ?_; simp only [pS]
          refine rg_take (i := 17) rfl kR kR kR (Yld.skip rfl) (H.sub sU) ?_; simp only [pS]
          refine rg_take (i := 18) rfl kR kR kR (Yld.skip rfl) (H.sub sU) ?_; simp only [pS]
          refine rg_take (i := 19) rfl kR kR kR (Yld.skip rfl) (H.sub sU) ?_; simp only [pS]
          refine rg_take (i := 20) rfl kR kR kR (Yld.skip rfl) (H.sub sU) ?_; simp only [pS]
          refine rg_take (i := 21) rfl kR kR kR (Yld.skip rfl) (H.sub sU) ?_; simp only [pS]
          refine rg_take (i := 22) rfl kR kR kR (Yld.skip rfl) (H.sub sU) ?_; simp only [pS]
          refine rg_take (i := 23) rfl kR kR kR (Yld.skip rfl) (H.sub sU) ?_; simp only [pS]
          refine rg_take (i := 24) rfl kR kR kR (Yld.skip rfl) (H.sub sU) ?_; simp only [pS]
          refine rg_take (i := 25) rfl kR kR kR (Yld.pick rfl rfl rfl) (H.sub sU) ?_; simp only [pS, pE]
          refine rg_take (i := 26) rfl kR kR kR (Yld.pick rfl rfl rfl) (H.sub sU) ?_; simp only [pS, pE]
          refine rg_done (by kernel_rfl) ?_
          go_wp2_with fail
          go_roundw
          case rel => exact ⟨1, by omega, by go_num, HV, H⟩
          case measure => simp [intOf]; omega
        · obtain ⟨j, rfl⟩ : ∃ j, k = j + 1 := ⟨k - 1, by omega⟩
          have hj : j < l.length := by omega
          have hcj := hb.cell (show j < n by omega)
          unfold elQ at hcj
          rw [getD_at hj] at hcj
          have hlj := HLZ.out j hj rfl
          obtain ⟨⟨z, t⟩, hz⟩ : ∃ z, l[j] = z := ⟨_, rfl⟩
          rw [hz] at hcj hlj
          obtain ⟨r0, hr0⟩ : ∃ r, atR m (z, t) = r := ⟨_, rfl⟩
          have HR0 := Lib.hid hr0
          rw [hr0] at hlj
          have HLJ := Lib.hid hlj
          have k0i : decide ((0 : Int) < (j : Int) + 1) = true := decide_eq_true (by omega)
          have jw : IntKind.i64.wrap (j : Int) = (j : Int) := by rw [IntKind.wrap_i64]; omega
          have jni : (j : Int) < (n : Int) := by omega
          have j0i : (0 : Int) ≤ (j : Int) + 1 := by omega
          have kji : ((j + 1 : Nat) : Int) - 1 = (j : Int) := by omega
          clear hr0 hlj hz
          by_cases h2 : r0 < r1
          · have h2i : ¬ r1 ≤ r0 := by omega
            have HV : Hid (risA m (-1) (l.take (j + 1 + 1)) = true) := Lib.hid (by rw [HSN.out, HLJ.out, decide_eq_true (by omega), Bool.true_and]; exact decide_eq_true h2)
            have h2d : decide (r1 ≤ r0) = false := decide_eq_false h2i
            go_wp2_with fail
            refine rg_begin 27 rfl (S := fun W => St _ _ W _) (by kernel_rfl) H.drew ?_
            replace H := H.drew
            have HS := H
            refine rg_take (i := 0) rfl kR kR kR (Yld.move rfl rfl) (H.sub sU) ?_; simp only [pS, pE]
            refine rg_take (i := 1) rfl kR kR kR (Yld.move rfl rfl) (H.sub sU) ?_; simp only [pS, pE]
            refine rg_take (i := 2) rfl kR kR kR (Yld.move rfl rfl) (H.sub sU) ?_; simp only [pS, pE]
            refine rg_take (i := 3) rfl kR kR kR (Yld.o rfl) (H.sub sU) ?_; simp only [pS]
            first | (refine rg_take (i := 4) rfl kR kR kR (Yld.ldor rfl rfl agg30 size30 rfl (by assumption) sZ (by assumption)) (H.sub sU) ?_; simp only [pS]) | (refine rg_take (i := 4) rfl kR kR kR (Yld.ldr rfl rfl agg30 size30 rfl mR sZ) (H.sub sU) ?_; simp only [pS]) | (refine rg_take (i := 4) rfl kR kR kR (Yld.ldl rfl rfl agg30 size30 rfl mR (by simp)) (H.sub sU) ?_; simp only [pS]; simp only [List.drop_succ_cons, List.drop_zero, List.take_succ_cons, List.take_zero])
            refine rg_one (i := 5) (by kernel_rfl) rfl rfl (fun K hK => ?_)
            refine wp_callf rfl ent119 (rat_is _ m (x, y) _ (ha.grow H.below)) rfl (fun v w1 hr => ?_)
            rw [HR1.out] at hr
            obtain ⟨rfl, hb1⟩ := hr
            replace H := H.grow hb1
            clear hb1
            clear HS
            have HS := H
            refine hK.out _ _ (H.sub sU) ?_
            clear hK K
            simp only [pS]
            refine rg_take (i := 6) rfl kR kR kR (Yld.o rfl) (H.sub sU) ?_; simp only [pS]
            refine rg_take (i := 7) rfl kR kR kR (Yld.move rfl rfl) (H.sub sU) ?_; simp only [pS, pE]
            refine rg_take (i := 8) rfl kR kR kR (Yld.move rfl rfl) (H.sub sU) ?_; simp only [pS, pE]
            refine rg_take (i := 9) rfl kR kR kR (Yld.o rfl) (H.sub sU) ?_; simp only [pS]
            refine rg_take (i := 10) rfl kR kR kR (Yld.move rfl rfl) (H.sub sU) ?_; simp only [pS, pE]
            refine rg_take (i := 11) rfl kR kR kR (Yld.move rfl rfl) (H.sub sU) ?_; simp only [pS, pE]
            refine rg_take (i := 12) rfl kR kR kR (Yld.move rfl rfl) (H.sub sU) ?_; simp only [pS, pE]
            refine rg_take (i := 13) rfl kR kR kR (Yld.move rfl rfl) (H.sub sU) ?_; simp only [pS, pE]
            refine rg_take (i := 14) rfl kR kR kR (Yld.o rfl) (H.sub sU) ?_; simp only [pS]
            refine rg_take (i := 15) rfl kR kR kR (Yld.o rfl) (H.sub sU) ?_; simp only [pS]
            first | (refine rg_take (i := 16) rfl kR kR kR (Yld.ldor rfl rfl agg30 size30 rfl (by assumption) sZ (by assumption)) (H.sub sU) ?_; simp only [pS]) | (refine rg_take (i := 16) rfl kR kR kR (Yld.ldr rfl rfl agg30 size30 rfl mR sZ) (H.sub sU) ?_; simp only [pS]) | (refine rg_take (i := 16) rfl kR kR kR (Yld.ldl rfl rfl agg30 size30 rfl mR (by simp)) (H.sub sU) ?_; simp only [pS]; simp only [List.drop_succ_cons, List.drop_zero, List.take_succ_cons, List.take_zero])
            refine rg_take (i := 18) rfl kR kR kR (Yld.move rfl rfl) (H.sub sU) ?_; simp only [pS, pE]
            refine rg_take (i := 19) rfl kR kR kR (Yld.move rfl rfl) (H.sub sU) ?_; simp only [pS, pE]
            refine rg_take (i := 20) rfl kR kR kR (Yld.move rfl rfl) (H.sub sU) ?_; simp only [pS, pE]
            refine rg_take (i := 21) rfl kR kR kR (Yld.o rfl) (H.sub sU) ?_; simp only [pS]
            first | (refine rg_take (i := 22) rfl kR kR kR (Yld.ldor rfl rfl agg30 size30 rfl (by assumption) sZ (by assumption)) (H.sub sU) ?_; simp only [pS]) | (refine rg_take (i := 22) rfl kR kR kR (Yld.ldr rfl rfl agg30 size30 rfl mR sZ) (H.sub sU) ?_; simp only [pS]) | (refine rg_take (i := 22) rfl kR kR kR (Yld.ldl rfl rfl agg30 size30 rfl mR (by simp)) (H.sub sU) ?_; simp only [pS]; simp only [List.drop_succ_cons, List.drop_zero, List.take_succ_cons, List.take_zero])
            refine rg_one (i := 17) (by kernel_rfl) rfl rfl (fun K hK => ?_)
            refine wp_callf rfl ent119 (rat_is _ m (z, t) _ (ha.grow H.below)) rfl (fun v w1 hr => ?_)
            rw [HR0.out] at hr
            obtain ⟨rfl, hb1⟩ := hr
            replace H := H.grow hb1
            clear hb1
            clear HS
            have HS := H
            refine hK.out _ _ (H.sub sU) ?_
            clear hK K
            simp only [pS]
            refine rg_one (i := 23) (by kernel_rfl) rfl rfl (fun K hK => ?_)
            refine wp_callf rfl ent119 (rat_is _ m (x, y) _ (ha.grow H.below)) rfl (fun v w1 hr => ?_)
            rw [HR1.out] at hr
            obtain ⟨rfl, hb1⟩ := hr
            replace H := H.grow hb1
            clear hb1
            clear HS
            have HS := H
            refine hK.out _ _ (H.sub sU) ?_
            clear hK K
            simp only [pS]
            refine rg_take (i := 24) rfl kR kR kR (Yld.o rfl) (H.sub sU) ?_; simp only [pS]
            refine rg_take (i := 25) rfl kR kR kR (Yld.pick rfl rfl rfl) (H.sub sU) ?_; simp only [pS, pE]
            refine rg_take (i := 26) rfl kR kR kR (Yld.pick rfl rfl rfl) (H.sub sU) ?_; simp only [pS, pE]
            refine rg_done (by kernel_rfl) ?_
            go_wp2_with fail
            go_roundw
            case rel => exact ⟨j + 1 + 1, by omega, by go_num, HV, H⟩
            case measure => simp [intOf]; omega
          · have h2i : r1 ≤ r0 := by omega
            have HV : Hid (risB m l = false) := Lib.hid (HF.out (by rw [HSN.out, HLJ.out, decide_eq_false h2, Bool.and_false]))
            have h2d : decide (r1 ≤ r0) = true := decide_eq_true h2i
            go_wp2_with fail
            refine rg_begin 27 rfl (S := fun W => St _ _ W _) (by kernel_rfl) H.drew ?_
            replace H := H.drew
            have HS := H
            refine rg_take (i := 0) rfl kR kR kR (Yld.move rfl rfl) (H.sub sU) ?_; simp only [pS, pE]
            refine rg_take (i := 1) rfl kR kR kR (Yld.move rfl rfl) (H.sub sU) ?_; simp only [pS, pE]
            refine rg_take (i := 2) rfl kR kR kR (Yld.move rfl rfl) (H.sub sU) ?_; simp only [pS, pE]
            refine rg_take (i := 3) rfl kR kR kR (Yld.o rfl) (H.sub sU) ?_; simp only [pS]
            first | (refine rg_take (i := 4) rfl kR kR kR (Yld.ldor rfl rfl agg30 size30 rfl (by assumption) sZ (by assumption)) (H.sub sU) ?_; simp only [pS]) | (refine rg_take (i := 4) rfl kR kR kR (Yld.ldr rfl rfl agg30 size30 rfl mR sZ) (H.sub sU) ?_; simp only [pS]) | (refine rg_take (i := 4) rfl kR kR kR (Yld.ldl rfl rfl agg30 size30 rfl mR (by simp)) (H.sub sU) ?_; simp only [pS]; simp only [List.drop_succ_cons, List.drop_zero, List.take_succ_cons, List.take_zero])
            refine rg_one (i := 5) (by kernel_rfl) rfl rfl (fun K hK => ?_)
            refine wp_callf rfl ent119 (rat_is _ m (x, y) _ (ha.grow H.below)) rfl (fun v w1 hr => ?_)
            rw [HR1.out] at hr
            obtain ⟨rfl, hb1⟩ := hr
            replace H := H.grow hb1
            clear hb1
            clear HS
            have HS := H
            refine hK.out _ _ (H.sub sU) ?_
            clear hK K
            simp only [pS]
            refine rg_take (i := 6) rfl kR kR kR (Yld.o rfl) (H.sub sU) ?_; simp only [pS]
            refine rg_take (i := 7) rfl kR kR kR (Yld.move rfl rfl) (H.sub sU) ?_; simp only [pS, pE]
            refine rg_take (i := 8) rfl kR kR kR (Yld.move rfl rfl) (H.sub sU) ?_; simp only [pS, pE]
            refine rg_take (i := 9) rfl kR kR kR (Yld.o rfl) (H.sub sU) ?_; simp only [pS]
            refine rg_take (i := 10) rfl kR kR kR (Yld.move rfl rfl) (H.sub sU) ?_; simp only [pS, pE]
            refine rg_take (i := 11) rfl kR kR kR (Yld.move rfl rfl) (H.sub sU) ?_; simp only [pS, pE]
            refine rg_take (i := 12) rfl kR kR kR (Yld.move rfl rfl) (H.sub sU) ?_; simp only [pS, pE]
            refine rg_take (i := 13) rfl kR kR kR (Yld.move rfl rfl) (H.sub sU) ?_; simp only [pS, pE]
            refine rg_take (i := 14) rfl kR kR kR (Yld.o rfl) (H.sub sU) ?_; simp only [pS]
            refine rg_take (i := 15) rfl kR kR kR (Yld.o rfl) (H.sub sU) ?_; simp only [pS]
            first | (refine rg_take (i := 16) rfl kR kR kR (Yld.ldor rfl rfl agg30 size30 rfl (by assumption) sZ (by assumption)) (H.sub sU) ?_; simp only [pS]) | (refine rg_take (i := 16) rfl kR kR kR (Yld.ldr rfl rfl agg30 size30 rfl mR sZ) (H.sub sU) ?_; simp only [pS]) | (refine rg_take (i := 16) rfl kR kR kR (Yld.ldl rfl rfl agg30 size30 rfl mR (by simp)) (H.sub sU) ?_; simp only [pS]; simp only [List.drop_succ_cons, List.drop_zero, List.take_succ_cons, List.take_zero])
            refine rg_take (i := 18) rfl kR kR kR (Yld.move rfl rfl) (H.sub sU) ?_; simp only [pS, pE]
            refine rg_take (i := 19) rfl kR kR kR (Yld.move rfl rfl) (H.sub sU) ?_; simp only [pS, pE]
            refine rg_take (i := 20) rfl kR kR kR (Yld.move rfl rfl) (H.sub sU) ?_; simp only [pS, pE]
            refine rg_take (i := 21) rfl kR kR kR (Yld.o rfl) (H.sub sU) ?_; simp only [pS]
            first | (refine rg_take (i := 22) rfl kR kR kR (Yld.ldor rfl rfl agg30 size30 rfl (by assumption) sZ (by assumption)) (H.sub sU) ?_; simp only [pS]) | (refine rg_take (i := 22) rfl kR kR kR (Yld.ldr rfl rfl agg30 size30 rfl mR sZ) (H.sub sU) ?_; simp only [pS]) | (refine rg_take (i := 22) rfl kR kR kR (Yld.ldl rfl rfl agg30 size30 rfl mR (by simp)) (H.sub sU) ?_; simp only [pS]; simp only [List.drop_succ_cons, List.drop_zero, List.take_succ_cons, List.take_zero])
            refine rg_one (i := 17) (by kernel_rfl) rfl rfl (fun K hK => ?_)
            refine wp_callf rfl ent119 (rat_is _ m (z, t) _ (ha.grow H.below)) rfl (fun v w1 hr => ?_)
            rw [HR0.out] at hr
            obtain ⟨rfl, hb1⟩ := hr
            replace H := H.grow hb1
            clear hb1
            clear HS
            have HS := H
            refine hK.out _ _ (H.sub sU) ?_
            clear hK K
            simp only [pS]
            refine rg_one (i := 23) (by kernel_rfl) rfl rfl (fun K hK => ?_)
            refine wp_callf rfl ent119 (rat_is _ m (x, y) _ (ha.grow H.below)) rfl (fun v w1 hr => ?_)
            rw [HR1.out] at hr
            obtain ⟨rfl, hb1⟩ := hr
            replace H := H.grow hb1
            clear hb1
            clear HS
            have HS := H
            refine hK.out _ _ (H.sub sU) ?_
            clear hK K
            simp only [pS]
            refine rg_take (i := 24) rfl kR kR kR (Yld.o rfl) (H.sub sU) ?_; simp only [pS]
            refine rg_take (i := 25) rfl kR kR kR (Yld.pick rfl rfl rfl) (H.sub sU) ?_; simp only [pS, pE]
            refine rg_take (i := 26) rfl kR kR kR (Yld.pick rfl rfl rfl) (H.sub sU) ?_; simp only [pS, pE]
            refine rg_done (by kernel_rfl) ?_
            go_wp2_with fail
            go_ret
            exact ⟨_, rfl, by rw [HV.out]; rfl, H.below⟩
    · obtain rfl : k = n := by omega
      have HV : Hid (risB m l = true) := Lib.hid (by
        have := HT.out
        rw [List.take_of_length_le (by rw [HN.out]; omega)] at this
        exact this)
      go_wp2_with fail
      go_ret
      exact ⟨_, rfl, by rw [HV.out]; rfl, H.below⟩
end Go.Proofs.Ytmokecicjmjkbaa
namespace Go.Proofs.Ytmokecicjmjkbaa
open Go.ChangeShapes Go.WideShapes Go.ChangeAt Go.RowKit Go.Maps
set_option linter.unusedVariables false
set_option linter.unusedSimpArgs false
theorem snoc_ind {α : Type} {P : List α → Prop} (h0 : P []) (h1 : ∀ l x, P l → P (l ++ [x])) (l : List α) : P l := by
  rw [← List.reverse_reverse l]
  induction l.reverse with
  | nil => exact h0
  | cons x t ih => rw [List.reverse_cons]; exact h1 _ _ ih
theorem dd_full {α : Type} [DecidableEq α] (l : List α) : (dd l).length = l.length ↔ l.Nodup := by
  refine snoc_ind (P := fun l : List α => (dd l).length = l.length ↔ l.Nodup) ?_ ?_ l
  · simp [dd, ddA]
  · intro l x ih
    have hl := dd_len l []
    rw [dd_snoc, List.nodup_append]
    by_cases h : x ∈ dd l
    · have hx := (mem_dd l x).1 h
      have : (dd l).length ≤ l.length := by simpa [dd] using hl
      simp only [if_pos h]
      constructor
      · intro e; simp at e; omega
      · rintro ⟨_, _, hd⟩; exact absurd rfl (hd x hx x (by simp))
    · have hx := fun h2 => h ((mem_dd l x).2 h2)
      simp only [if_neg h]
      constructor
      · intro e
        refine ⟨ih.1 (by simpa using e), by simp, fun a ha b hb e2 => ?_⟩
        simp at hb; subst hb e2; exact hx ha
      · rintro ⟨h1, _, _⟩
        have := ih.2 h1
        simp [this]
theorem risA_mem {m : List Pr} {d : Int} {l : List Pr} (h : risA m d l = true) : ∀ p ∈ l, ∃ k : Nat, rank m p = some k ∧ d < k := by
  induction l generalizing d with
  | nil => simp
  | cons q r ih =>
    unfold risA at h
    cases hr : rank m q with
    | none => rw [hr] at h; cases h
    | some k =>
      rw [hr] at h
      simp only [Bool.and_eq_true, decide_eq_true_eq] at h
      intro p hp
      rcases List.mem_cons.1 hp with rfl | hp
      · exact ⟨k, hr, h.1⟩
      · obtain ⟨j, h1, h2⟩ := ih h.2 p hp
        exact ⟨j, h1, by omega⟩
theorem risA_nodup {m : List Pr} {d : Int} {l : List Pr} (h : risA m d l = true) : l.Nodup := by
  induction l generalizing d with
  | nil => simp
  | cons q r ih =>
    unfold risA at h
    cases hr : rank m q with
    | none => rw [hr] at h; cases h
    | some k =>
      rw [hr] at h
      simp only [Bool.and_eq_true, decide_eq_true_eq] at h
      refine List.nodup_cons.2 ⟨fun hq => ?_, ih h.2⟩
      obtain ⟨j, h1, h2⟩ := risA_mem h.2 q hq
      rw [hr] at h1
      cases h1
      omega
theorem risB_mem {m l : List Pr} (h : risB m l = true) : ∀ p ∈ l, p ∈ m := fun p hp => by
  obtain ⟨k, h1, _⟩ := risA_mem h p hp
  obtain ⟨hk, e⟩ := rank_lt h1
  exact e ▸ List.getElem_mem hk
theorem risB_len {m l : List Pr} (h : risB m l = true) : l.length ≤ m.length := (risA_nodup h).length_le_of_subset (risB_mem h)
theorem memOk_nodup {m : List Pr} (h : memOk m = true) : m.Nodup := by
  simp only [memOk, Bool.and_eq_true, decide_eq_true_eq] at h
  exact List.Pairwise.of_map (fun x : Pr => x.1) (fun a b hn e => hn (by rw [e])) h.1.1.2
theorem lvOk_mem {m : List Pr} {ls : List (List Pr)} (h : lvOk m ls = true) : ∀ p ∈ ls.flatten, p ∈ m := fun p hp => by
  obtain ⟨l, hl, hpl⟩ := List.mem_flatten.1 hp
  have := List.all_eq_true.1 h l hl
  simp only [Bool.and_eq_true] at this
  exact risB_mem this.2 p hpl
theorem lvOk_len {m : List Pr} {ls : List (List Pr)} (h : lvOk m ls = true) : ls.length ≤ ls.flatten.length := by
  induction ls with
  | nil => simp
  | cons l ls ih =>
    simp only [lvOk, List.all_cons, Bool.and_eq_true] at h
    have := ih h.2
    have h1 : 0 < l.length := by
      cases l with
      | nil => simp at h
      | cons _ _ => simp
    simp only [List.length_cons, List.flatten_cons, List.length_append]
    omega
theorem vOk_parts {x : Vw} (h : vOk x = true) : 1 ≤ x.id ∧ x.id ≤ 4611686018427387904 ∧ memOk x.mem = true ∧ lvOk x.mem x.lvs = true ∧ x.lvs.flatten.length = x.mem.length ∧ x.lvs.flatten.Nodup ∧ risB x.mem (firsts x.lvs) = true ∧ 0 < x.ldr.length ∧ risB x.mem x.ldr = true := by
  simp only [vOk, Bool.and_eq_true, decide_eq_true_eq, dd_full] at h
  obtain ⟨⟨⟨⟨⟨⟨⟨⟨h1, h2⟩, h3⟩, h4⟩, h5⟩, h6⟩, h7⟩, h8⟩, h9⟩ := h
  refine ⟨h1, h2, h3, h4, h5, h6, h7, ?_, h9⟩
  cases hx : x.ldr with
  | nil => rw [hx] at h8; cases h8
  | cons _ _ => simp
theorem vOk_mk {x : Vw} (h1 : 1 ≤ x.id) (h2 : x.id ≤ 4611686018427387904) (h3 : memOk x.mem = true) (h4 : lvOk x.mem x.lvs = true) (h5 : x.lvs.flatten.length = x.mem.length) (h6 : x.lvs.flatten.Nodup) (h8 : 0 < x.ldr.length) : vOk x = (risB x.mem (firsts x.lvs) && risB x.mem x.ldr) := by
  have h8' : x.ldr.isEmpty = false := by
    cases hx : x.ldr with
    | nil => rw [hx] at h8; simp at h8
    | cons _ _ => rfl
  simp [vOk, h1, h2, h3, h4, h5, (dd_full _).2 h6, h8']
/-- What the reference counts. -/
theorem vOk_count {x : Vw} (h : vOk x = true) : (∀ p ∈ x.mem, x.lvs.flatten.count p = 1) ∧ x.lvs.length ≤ x.mem.length ∧ x.ldr.length ≤ x.mem.length := by
  obtain ⟨h1, h2, h3, h4, h5, h6, h7, h8, h9⟩ := vOk_parts h
  refine ⟨fun p hp => ?_, by have := lvOk_len h4; omega, risB_len h9⟩
  rw [h6.count, if_pos ?_]
  refine Classical.byContradiction fun hn => ?_
  have := (List.nodup_cons.2 ⟨hn, h6⟩).length_le_of_subset (l₂ := x.mem) (by
    intro q hq
    rcases List.mem_cons.1 hq with rfl | hq
    · exact hp
    · exact lvOk_mem h4 q hq)
  simp only [List.length_cons] at this
  omega
theorem vOk_of_count {x : Vw} (h1 : 1 ≤ x.id) (h2 : x.id ≤ 4611686018427387904) (h3 : memOk x.mem = true) (hc : ∀ p ∈ x.mem, x.lvs.flatten.count p = 1) (h4 : lvOk x.mem x.lvs = true) (h8 : 0 < x.ldr.length) : vOk x = (risB x.mem (firsts x.lvs) && risB x.mem x.ldr) := by
  have h6 : x.lvs.flatten.Nodup := List.nodup_iff_count.2 fun p => by
    by_cases hp : p ∈ x.lvs.flatten
    · rw [hc p (lvOk_mem h4 p hp)]; exact Nat.le_refl _
    · rw [List.count_eq_zero_of_not_mem hp]; exact Nat.zero_le _
  have a := h6.length_le_of_subset (lvOk_mem h4)
  have b := (memOk_nodup h3).length_le_of_subset (l₂ := x.lvs.flatten) (fun p hp => List.count_pos_iff.1 (by rw [hc p hp]; decide))
  exact vOk_mk h1 h2 h3 h4 (by omega) h6 h8
end Go.Proofs.Ytmokecicjmjkbaa
namespace Go.Proofs.Ytmokecicjmjkbaa
set_option linter.unusedVariables false
set_option linter.unusedSimpArgs false
/-- A member's rank. -/
def rkN (m : List Pr) (p : Pr) : Nat := (rank m p).getD 0
def rkB (m l : List Pr) : List Nat := shortB l.length ++ l.flatMap fun p => shortB (rkN m p)
def vwB (x : Vw) : List Nat := shortB x.id ++ (shortB x.mem.length ++ pidsB x.mem) ++ shortB x.lvs.length ++ (x.lvs.flatMap fun l => rkB x.mem l) ++ rkB x.mem x.ldr
def cmB (c : Cm) : List Nat := shortB c.kind.toNat ++ (if c.kind = 2 then pidB c.fr.1 c.fr.2 ++ shortB c.num ++ shortB c.vw ++ (shortB c.data.length ++ c.data) else if c.kind = 3 then vwB c.v else [])
def lgB (a : Nat) (cs : List Cm) : List Nat := shortB a ++ shortB cs.length ++ cs.flatMap cmB
def plcL (m : List Pr) : Nat → List Pr × Rs → List Pr × Rs
  | 0, a => a
  | n + 1, a => if a.2.2 ≠ 0 then a else if m = [] then (a.1, (a.2.1, 3)) else plcL m n (a.1 ++ [m.getD (numF (m.length - 1) a.2).1 (0, 0)], (numF (m.length - 1) a.2).2)
def plcF (m : List Pr) (s : Rs) : List Pr × Rs := plcL m (numF 24 s).1 ([], (numF 24 s).2)
def lvsL (m : List Pr) : Nat → List (List Pr) × Rs → List (List Pr) × Rs
  | 0, a => a
  | n + 1, a => if a.2.2 ≠ 0 then a else lvsL m n (a.1 ++ [(plcF m a.2).1], (plcF m a.2).2)
/-- A view's parts, whatever they are. -/
def vwR (s : Rs) : Vw × Rs :=
  let z1 := numF 4611686018427387904 s
  let z2 := pidsF 24 z1.2
  let z3 := numF 24 z2.2
  let z4 := lvsL z2.1 z3.1 ([], z3.2)
  let z5 := plcF z2.1 z4.2
  (⟨z1.1, z2.1, z4.1, z5.1⟩, z5.2)
/-- What stops it, if it is read but may not be. -/
def mayE (s : Rs) (b : Bool) : Rs := if s.2 = 0 ∧ b = false then (s.1, 5) else s
def vwF (s : Rs) : Vw × Rs :=
  let z := vwR s
  let e := mayE z.2 (vOk z.1)
  if e.2 ≠ 0 then (vw0, e) else (z.1, e)
def cmR (s : Rs) : Cm × Rs :=
  let z := numF 3 s
  if z.1 = 2 then
    let z1 := pidF z.2
    let z2 := numF 4611686018427387904 z1.2
    let z3 := numF 4611686018427387904 z2.2
    let z4 := bytesF 200 z3.2
    (⟨2, z1.1, z2.1, z3.1, z4.1, vw0⟩, z4.2)
  else if z.1 = 3 then
    let z1 := vwF z.2
    (⟨3, (0, 0), 0, 0, [], z1.1⟩, z1.2)
  else (⟨(z.1 : Int), (0, 0), 0, 0, [], vw0⟩, z.2)
def cmF (s : Rs) : Cm × Rs :=
  let z := cmR s
  let e := mayE z.2 (decide (cErr z.1 = 0))
  if e.2 ≠ 0 then (cm0, e) else (z.1, e)
def cmsL : Nat → List Cm × Rs → List Cm × Rs
  | 0, a => a
  | n + 1, a => if a.2.2 ≠ 0 then a else cmsL n (a.1 ++ [(cmF a.2).1], (cmF a.2).2)
def lgR (l : List Nat) : (Nat × List Cm) × Rs :=
  let z1 := numF 4611686018427387904 (l, 0)
  let z2 := numF 64 z1.2
  let s3 : Rs := if z2.2.2 = 0 ∧ z1.1 < z2.1 then (z2.2.1, 5) else z2.2
  let z4 := cmsL z2.1 ([], s3)
  ((z1.1, z4.1), z4.2)
def lgF (l : List Nat) : (Nat × List Cm) × Nat :=
  let z := lgR l
  if endF z.2 ≠ 0 then ((0, []), endF z.2) else (z.1, 0)
def bt (s : Rs) : Prop := ∀ x ∈ s.1, x < 256
theorem numF_bt {most : Nat} {s : Rs} (h : bt s) : bt (numF most s).2 := by
  unfold numF
  split
  · exact h
  · split
    · exact h
    · split
      · exact h
      · exact fun x hx => h x (List.mem_of_mem_drop hx)
theorem pidF_bt {s : Rs} (h : bt s) : bt (pidF s).2 := by
  unfold pidF
  split
  · exact h
  · split
    · exact h
    · exact fun x hx => h x (List.mem_of_mem_drop hx)
theorem bytesF_bt {most : Nat} {s : Rs} (h : bt s) : bt (bytesF most s).2 := by
  unfold bytesF
  split
  · exact h
  · split
    · exact h
    · split
      · exact h
      · exact fun x hx => numF_bt (most := most) h x (List.mem_of_mem_drop hx)
theorem pidsL_bt : ∀ (n : Nat) (a : List Pr × Rs), bt a.2 → bt (pidsL n a).2
  | 0, a, h => h
  | n + 1, a, h => by
    unfold pidsL
    split
    · exact h
    · exact pidsL_bt n _ (pidF_bt h)
theorem pidsF_bt {most : Nat} {s : Rs} (h : bt s) : bt (pidsF most s).2 := by
  unfold pidsF
  split
  · exact h
  · split
    · exact h
    · exact pidsL_bt _ _ (numF_bt h)
theorem plcL_bt (m : List Pr) : ∀ (n : Nat) (a : List Pr × Rs), bt a.2 → bt (plcL m n a).2
  | 0, a, h => h
  | n + 1, a, h => by
    unfold plcL
    split
    · exact h
    · split
      · exact h
      · exact plcL_bt m n _ (numF_bt h)
theorem plcF_bt {m : List Pr} {s : Rs} (h : bt s) : bt (plcF m s).2 := plcL_bt m _ _ (numF_bt h)
theorem lvsL_bt (m : List Pr) : ∀ (n : Nat) (a : List (List Pr) × Rs), bt a.2 → bt (lvsL m n a).2
  | 0, a, h => h
  | n + 1, a, h => by
    unfold lvsL
    split
    · exact h
    · exact lvsL_bt m n _ (plcF_bt h)
theorem plcL_form (m : List Pr) : ∀ (n : Nat) (acc : List Pr) (s : Rs) (ps : List Pr) (r : List Nat), bt s → plcL m n (acc, s) = (ps, (r, 0)) →
    s.2 = 0 ∧ ∃ ks : List Nat, ks.length = n ∧ (∀ k ∈ ks, k < m.length) ∧ ps = acc ++ ks.map (fun k => m.getD k (0, 0)) ∧ s.1 = (ks.flatMap fun k => shortB k) ++ r
  | 0, acc, s, ps, r, hx, h => by
    unfold plcL at h
    cases h
    exact ⟨rfl, [], rfl, (by intro k hk; cases hk), by simp, by simp⟩
  | n + 1, acc, s, ps, r, hx, h => by
    unfold plcL at h
    split at h
    · rename_i he; exact absurd (congrArg (fun z : List Pr × Rs => z.2.2) h) he
    · rename_i he
      have he' : s.2 = 0 := by simpa using he
      split at h
      · exact absurd (congrArg (fun z : List Pr × Rs => z.2.2) h) (by simp)
      · rename_i hm
        obtain ⟨l, e⟩ := s
        simp only at he'
        subst he'
        obtain ⟨⟨k, l1, e1⟩, hz⟩ : ∃ z, numF (m.length - 1) (l, 0) = z := ⟨_, rfl⟩
        have hb1 : bt (l1, e1) := by have := numF_bt (most := m.length - 1) hx; rw [hz] at this; exact this
        simp only [hz] at h
        obtain ⟨h0, ks, h1, h2, h3, h4⟩ := plcL_form m n _ _ ps r hb1 h
        simp only at h0 h4
        subst h0
        obtain ⟨_, h5, h6, _⟩ := numF_form (l := l) hx hz
        have hml : 0 < m.length := List.length_pos_iff.2 hm
        refine ⟨rfl, k :: ks, by simp [h1], ?_, by rw [h3]; simp, by show l = _; rw [h5, h4]; simp⟩
        intro j hj
        rcases List.mem_cons.1 hj with rfl | hj
        · omega
        · exact h2 j hj
theorem nodup_inj {m : List Pr} (hn : m.Nodup) {j k : Nat} (hj : j < m.length) (hk : k < m.length) (h : m[j] = m[k]) : j = k := by
  have hp := List.pairwise_iff_getElem.1 hn
  rcases Nat.lt_trichotomy j k with hl | hl | hl
  · exact absurd h (hp j k hj hk hl)
  · exact hl
  · exact absurd h.symm (hp k j hk hj hl)
theorem rkN_at {m : List Pr} (hn : m.Nodup) {k : Nat} (hk : k < m.length) : rkN m (m.getD k (0, 0)) = k := by
  have e : m.getD k (0, 0) = m[k] := by simp [List.getD, hk]
  unfold rkN
  rw [e]
  cases hr : rank m m[k] with
  | none => exact absurd (List.getElem_mem hk) (rank_none.1 hr)
  | some j =>
    obtain ⟨hj, hje⟩ := rank_lt hr
    exact nodup_inj hn hj hk hje
theorem flat_ranks {m : List Pr} (hn : m.Nodup) (ks : List Nat) (h : ∀ k ∈ ks, k < m.length) : ((ks.map fun k => m.getD k (0, 0)).flatMap fun p => shortB (rkN m p)) = ks.flatMap fun k => shortB k := by
  induction ks with
  | nil => rfl
  | cons k ks ih =>
    simp only [List.map_cons, List.flatMap_cons]
    rw [rkN_at hn (h k List.mem_cons_self), ih (fun j hj => h j (List.mem_cons_of_mem _ hj))]
theorem plcF_form {m : List Pr} {s : Rs} {ps : List Pr} {r : List Nat} (hx : bt s) (h : plcF m s = (ps, (r, 0))) : s.2 = 0 ∧ (m.Nodup → s.1 = rkB m ps ++ r) := by
  unfold plcF at h
  obtain ⟨l, e⟩ := s
  obtain ⟨⟨n, l1, e1⟩, hz⟩ : ∃ z, numF 24 (l, e) = z := ⟨_, rfl⟩
  have hb1 : bt (l1, e1) := by have := numF_bt (most := 24) hx; rw [hz] at this; exact this
  rw [hz] at h
  obtain ⟨h0, ks, h1, h2, h3, h4⟩ := plcL_form m n [] _ ps r hb1 h
  simp only at h0 h4
  subst h0
  obtain ⟨h6, h5, _, _⟩ := numF_form (l := l) hx hz
  refine ⟨h6, fun hn => ?_⟩
  show l = _
  rw [List.nil_append] at h3
  unfold rkB
  rw [h5, h4, h3, flat_ranks hn ks h2, List.length_map, h1, List.append_assoc]
theorem lvsL_form (m : List Pr) : ∀ (n : Nat) (acc : List (List Pr)) (s : Rs) (ls : List (List Pr)) (r : List Nat), bt s → lvsL m n (acc, s) = (ls, (r, 0)) →
    s.2 = 0 ∧ ∃ qs, ls = acc ++ qs ∧ qs.length = n ∧ (m.Nodup → s.1 = (qs.flatMap fun l => rkB m l) ++ r)
  | 0, acc, s, ls, r, hx, h => by
    unfold lvsL at h
    cases h
    exact ⟨rfl, [], by simp, rfl, fun _ => by simp⟩
  | n + 1, acc, s, ls, r, hx, h => by
    unfold lvsL at h
    split at h
    · rename_i he; exact absurd (congrArg (fun z : List (List Pr) × Rs => z.2.2) h) he
    · obtain ⟨⟨l, s1⟩, hz⟩ : ∃ z, plcF m s = z := ⟨_, rfl⟩
      have hb1 : bt s1 := by have := plcF_bt (m := m) hx; rw [hz] at this; exact this
      simp only [hz] at h
      obtain ⟨h0, qs, h1, h2, h3⟩ := lvsL_form m n _ _ ls r hb1 h
      obtain ⟨t, e1⟩ := s1
      simp only at h0 h3
      subst h0
      obtain ⟨h4, h5⟩ := plcF_form hx hz
      refine ⟨h4, l :: qs, by rw [h1]; simp, by simp [h2], fun hn => ?_⟩
      rw [h5 hn, h3 hn]
      simp
attribute [local irreducible] numF bytesF pidF pidsF plcF lvsL
theorem mayE_zero {s : Rs} {b : Bool} {r : List Nat} (h : mayE s b = (r, 0)) : b = true ∧ s = (r, 0) := by
  unfold mayE at h
  split at h
  · cases h
  · rename_i hn
    subst h
    cases b
    · exact absurd ⟨rfl, rfl⟩ hn
    · exact ⟨rfl, rfl⟩
theorem vwF_form {s : Rs} {x : Vw} {r : List Nat} (hx : bt s) (h : vwF s = (x, (r, 0))) : s.2 = 0 ∧ s.1 = vwB x ++ r ∧ vOk x = true := by
  unfold vwF at h
  simp only at h
  split at h
  · rename_i he; exact absurd (congrArg (fun z : Vw × Rs => z.2.2) h) he
  · obtain ⟨h1, h2⟩ := Prod.mk.inj h
    obtain ⟨h3, h4⟩ := mayE_zero h2
    rw [h1] at h3
    unfold vwR at h1 h4
    simp only at h1 h4
    obtain ⟨l, e⟩ := s
    obtain ⟨⟨id, s1⟩, z1⟩ : ∃ z, numF 4611686018427387904 (l, e) = z := ⟨_, rfl⟩
    have b1 : bt s1 := by have := numF_bt (most := 4611686018427387904) hx; rw [z1] at this; exact this
    rw [z1] at h1 h4
    simp only at h1 h4
    obtain ⟨⟨me, s2⟩, z2⟩ : ∃ z, pidsF 24 s1 = z := ⟨_, rfl⟩
    have b2 : bt s2 := by have := pidsF_bt (most := 24) b1; rw [z2] at this; exact this
    rw [z2] at h1 h4
    simp only at h1 h4
    obtain ⟨⟨n, s3⟩, z3⟩ : ∃ z, numF 24 s2 = z := ⟨_, rfl⟩
    have b3 : bt s3 := by have := numF_bt (most := 24) b2; rw [z3] at this; exact this
    rw [z3] at h1 h4
    simp only at h1 h4
    obtain ⟨⟨lv, s4⟩, z4⟩ : ∃ z, lvsL me n ([], s3) = z := ⟨_, rfl⟩
    have b4 : bt s4 := by have := lvsL_bt me n ([], s3) b3; rw [z4] at this; exact this
    rw [z4] at h1 h4
    simp only at h1 h4
    obtain ⟨⟨ld, s5⟩, z5⟩ : ∃ z, plcF me s4 = z := ⟨_, rfl⟩
    rw [z5] at h1 h4
    simp only at h1 h4
    subst h1 h4
    have hn : me.Nodup := memOk_nodup (vOk_parts h3).2.2.1
    obtain ⟨f1, f2⟩ := plcF_form b4 z5
    obtain ⟨l4, e4⟩ := s4
    simp only at f1 f2
    subst f1
    obtain ⟨f3, qs, f4, f5, f6⟩ := lvsL_form me n [] _ lv l4 b3 z4
    obtain ⟨l3, e3⟩ := s3
    simp only at f3 f6
    subst f3
    rw [List.nil_append] at f4
    subst f4 f5
    obtain ⟨l2, e2⟩ := s2
    obtain ⟨f7, f8, _, _⟩ := numF_form (l := l2) b2 z3
    subst f7
    obtain ⟨l1, e1⟩ := s1
    obtain ⟨f9, f10, _⟩ := pidsF_form (l := l1) b1 z2
    subst f9
    obtain ⟨f11, f12, _, _⟩ := numF_form (l := l) hx z1
    refine ⟨f11, ?_, h3⟩
    show l = _
    rw [f12, f10, f8, f6 hn, f2 hn]
    unfold vwB
    simp only [List.append_assoc]
theorem cErr_kind {c : Cm} (h : cErr c = 0) : c.kind = 1 ∨ (c.kind = 2 ∧ may c.fr.1 c.fr.2 = true ∧ cnt c.num = true ∧ cnt c.vw = true) ∨ (c.kind = 3 ∧ vOk c.v = true) := by
  unfold cErr at h
  split at h
  · rename_i hk
    unfold kindOk at hk
    simp only [Bool.or_eq_true, Bool.and_eq_true, decide_eq_true_eq] at hk
    rcases hk with (hk | hk) | hk
    · exact .inl hk
    · exact .inr (.inl ⟨hk.1.1.1, hk.1.1.2, hk.1.2, hk.2⟩)
    · exact .inr (.inr hk)
  · cases h
theorem cErr_data {c : Cm} (h : cErr c = 0) : c.data.length ≤ 200 := by
  unfold cErr at h
  split at h
  · split at h
    · split at h
      · cases h
      · omega
    · cases h
  · cases h
theorem cmF_form {s : Rs} {c : Cm} {r : List Nat} (hx : bt s) (h : cmF s = (c, (r, 0))) : s.2 = 0 ∧ s.1 = cmB c ++ r ∧ cErr c = 0 := by
  unfold cmF at h
  simp only at h
  split at h
  · rename_i he; exact absurd (congrArg (fun z : Cm × Rs => z.2.2) h) he
  · obtain ⟨h1, h2⟩ := Prod.mk.inj h
    obtain ⟨h3, h4⟩ := mayE_zero h2
    rw [h1] at h3
    have h3' : cErr c = 0 := of_decide_eq_true h3
    unfold cmR at h1 h4
    simp only at h1 h4
    obtain ⟨l, e⟩ := s
    obtain ⟨⟨k, s1⟩, z1⟩ : ∃ z, numF 3 (l, e) = z := ⟨_, rfl⟩
    have b1 : bt s1 := by have := numF_bt (most := 3) hx; rw [z1] at this; exact this
    rw [z1] at h1 h4
    simp only at h1 h4
    by_cases hk2 : k = 2
    · subst hk2
      rw [if_pos rfl] at h1 h4
      simp only at h1 h4
      obtain ⟨⟨p, s2⟩, z2⟩ : ∃ z, pidF s1 = z := ⟨_, rfl⟩
      have b2 : bt s2 := by have := pidF_bt b1; rw [z2] at this; exact this
      rw [z2] at h1 h4
      simp only at h1 h4
      obtain ⟨⟨n, s3⟩, z3⟩ : ∃ z, numF 4611686018427387904 s2 = z := ⟨_, rfl⟩
      have b3 : bt s3 := by have := numF_bt (most := 4611686018427387904) b2; rw [z3] at this; exact this
      rw [z3] at h1 h4
      simp only at h1 h4
      obtain ⟨⟨v, s4⟩, z4⟩ : ∃ z, numF 4611686018427387904 s3 = z := ⟨_, rfl⟩
      have b4 : bt s4 := by have := numF_bt (most := 4611686018427387904) b3; rw [z4] at this; exact this
      rw [z4] at h1 h4
      simp only at h1 h4
      obtain ⟨⟨d, s5⟩, z5⟩ : ∃ z, bytesF 200 s4 = z := ⟨_, rfl⟩
      rw [z5] at h1 h4
      simp only at h1 h4
      subst h1 h4
      obtain ⟨l4, e4⟩ := s4
      obtain ⟨f1, f2, _⟩ := bytesF_form (l := l4) b4 z5
      subst f1
      obtain ⟨l3, e3⟩ := s3
      obtain ⟨f3, f4, _, _⟩ := numF_form (l := l3) b3 z4
      subst f3
      obtain ⟨l2, e2⟩ := s2
      obtain ⟨f5, f6, _, _⟩ := numF_form (l := l2) b2 z3
      subst f5
      obtain ⟨l1, e1⟩ := s1
      obtain ⟨f7, f8⟩ := pidF_form (l := l1) b1 z2
      subst f7
      obtain ⟨f9, f10, _, _⟩ := numF_form (l := l) hx z1
      refine ⟨f9, ?_, h3'⟩
      show l = _
      rw [f10, f8, f6, f4, f2]
      unfold cmB
      simp [List.append_assoc]
    · rw [if_neg hk2] at h1 h4
      by_cases hk3 : k = 3
      · subst hk3
        rw [if_pos rfl] at h1 h4
        simp only at h1 h4
        obtain ⟨⟨x, s2⟩, z2⟩ : ∃ z, vwF s1 = z := ⟨_, rfl⟩
        rw [z2] at h1 h4
        simp only at h1 h4
        subst h1 h4
        obtain ⟨f1, f2, _⟩ := vwF_form b1 z2
        obtain ⟨l1, e1⟩ := s1
        simp only at f1 f2
        subst f1
        obtain ⟨f9, f10, _, _⟩ := numF_form (l := l) hx z1
        refine ⟨f9, ?_, h3'⟩
        show l = _
        rw [f10, f2]
        unfold cmB
        simp [List.append_assoc]
      · rw [if_neg hk3] at h1 h4
        simp only at h1 h4
        subst h1 h4
        obtain ⟨f9, f10, f11, _⟩ := numF_form (l := l) hx z1
        refine ⟨f9, ?_, h3'⟩
        show l = _
        have hk1 : k = 1 := by
          rcases cErr_kind h3' with h9 | h9 | h9
          · have : (k : Int) = 1 := h9; omega
          · have : (k : Int) = 2 := h9.1; omega
          · have : (k : Int) = 3 := h9.1; omega
        subst hk1
        rw [f10]
        unfold cmB
        simp
theorem cmF_bt {s : Rs} (h : bt s) : bt (cmF s).2 := by
  have hm : ∀ (s : Rs) (b : Bool), bt s → bt (mayE s b) := fun s b h => by unfold mayE; split <;> exact h
  have hv : ∀ s : Rs, bt s → bt (vwF s).2 := fun s h => by
    unfold vwF
    simp only
    have h9 : bt (vwR s).2 := plcF_bt (lvsL_bt _ _ _ (numF_bt (pidsF_bt (numF_bt h))))
    split <;> exact hm _ _ h9
  have hc : bt (cmR s).2 := by
    unfold cmR
    simp only
    split
    · exact bytesF_bt (numF_bt (numF_bt (pidF_bt (numF_bt h))))
    · split
      · exact hv _ (numF_bt h)
      · exact numF_bt h
  unfold cmF
  simp only
  split <;> exact hm _ _ hc
theorem cmsL_form : ∀ (n : Nat) (acc : List Cm) (s : Rs) (cs : List Cm) (r : List Nat), bt s → cmsL n (acc, s) = (cs, (r, 0)) →
    s.2 = 0 ∧ ∃ qs, cs = acc ++ qs ∧ qs.length = n ∧ s.1 = qs.flatMap cmB ++ r ∧ ∀ c ∈ qs, cErr c = 0
  | 0, acc, s, cs, r, hx, h => by
    unfold cmsL at h
    cases h
    exact ⟨rfl, [], by simp, rfl, by simp, by simp⟩
  | n + 1, acc, s, cs, r, hx, h => by
    unfold cmsL at h
    split at h
    · rename_i he; exact absurd (congrArg (fun z : List Cm × Rs => z.2.2) h) he
    · obtain ⟨⟨c, s1⟩, hz⟩ : ∃ z, cmF s = z := ⟨_, rfl⟩
      have hb1 : bt s1 := by have := cmF_bt hx; rw [hz] at this; exact this
      simp only [hz] at h
      obtain ⟨h0, qs, h1, h2, h3, h6⟩ := cmsL_form n _ _ cs r hb1 h
      obtain ⟨t, e1⟩ := s1
      simp only at h0 h3
      subst h0
      obtain ⟨h4, h5, h7⟩ := cmF_form hx hz
      refine ⟨h4, c :: qs, by rw [h1]; simp, by simp [h2], ?_, ?_⟩
      · rw [h5, h3]; simp
      · intro q hq
        rcases List.mem_cons.1 hq with rfl | hq
        · exact h7
        · exact h6 q hq
/-- What is read as a ledger, is its bytes. -/
theorem lgF_form {l : List Nat} {a : Nat} {cs : List Cm} (hx : ∀ x ∈ l, x < 256) (h : lgF l = ((a, cs), 0)) : l = lgB a cs ∧ cs.length ≤ 64 ∧ cs.length ≤ a ∧ a ≤ 4611686018427387904 ∧ ∀ c ∈ cs, cErr c = 0 := by
  unfold lgF at h
  simp only at h
  split at h
  · rename_i he; exact absurd (congrArg (fun z : (Nat × List Cm) × Nat => z.2) h) he
  · rename_i he
    have h1 : (lgR l).1 = (a, cs) := (Prod.mk.inj h).1
    have he0 : endF (lgR l).2 = 0 := by simpa using he
    unfold endF at he0
    obtain ⟨⟨r, e⟩, hq⟩ : ∃ z, (lgR l).2 = z := ⟨_, rfl⟩
    rw [hq] at he0
    simp only at he0
    have hr : r = [] ∧ e = 0 := by
      by_cases h9 : e ≠ 0
      · rw [if_pos h9] at he0; exact absurd he0 h9
      · rw [if_neg h9] at he0
        by_cases h8 : 0 < r.length
        · rw [if_pos h8] at he0; cases he0
        · exact ⟨List.eq_nil_of_length_eq_zero (by omega), by omega⟩
    obtain ⟨rfl, rfl⟩ := hr
    have b0 : bt (l, 0) := hx
    unfold lgR at h1 hq
    simp only at h1 hq
    obtain ⟨⟨a1, s1⟩, z1⟩ : ∃ z, numF 4611686018427387904 (l, 0) = z := ⟨_, rfl⟩
    have b1 : bt s1 := by have := numF_bt (most := 4611686018427387904) b0; rw [z1] at this; exact this
    rw [z1] at h1 hq
    simp only at h1 hq
    obtain ⟨⟨n, s2⟩, z2⟩ : ∃ z, numF 64 s1 = z := ⟨_, rfl⟩
    have b2 : bt s2 := by have := numF_bt (most := 64) b1; rw [z2] at this; exact this
    rw [z2] at h1 hq
    simp only at h1 hq
    by_cases hc : s2.2 = 0 ∧ a1 < n
    · rw [if_pos hc] at hq
      have : (cmsL n ([], (s2.1, 5))).2 = (s2.1, 5) := by
        cases n with
        | zero => omega
        | succ n => unfold cmsL; rw [if_pos (by simp)]
      rw [this] at hq
      exact absurd (congrArg Prod.snd hq) (by simp)
    · rw [if_neg hc] at h1 hq
      obtain ⟨⟨cs', s4⟩, z4⟩ : ∃ z, cmsL n ([], s2) = z := ⟨_, rfl⟩
      rw [z4] at h1 hq
      simp only at h1 hq
      cases h1
      subst hq
      obtain ⟨f1, qs, f2, f3, f4, f5⟩ := cmsL_form n [] s2 cs [] b2 z4
      rw [List.nil_append] at f2
      subst f2 f3
      obtain ⟨l2, e2⟩ := s2
      simp only at f1 f4 hc
      subst f1
      obtain ⟨l1, e1⟩ := s1
      obtain ⟨f6, f7, f8, _⟩ := numF_form (l := l1) b1 z2
      subst f6
      obtain ⟨_, f9, f10, _⟩ := numF_form (l := l) b0 z1
      refine ⟨?_, f8, by have : ¬ a < cs.length := fun q => hc ⟨rfl, q⟩; omega, f10, f5⟩
      rw [f9, f7, f4]
      unfold lgB
      simp [List.append_assoc]
end Go.Proofs.Ytmokecicjmjkbaa
