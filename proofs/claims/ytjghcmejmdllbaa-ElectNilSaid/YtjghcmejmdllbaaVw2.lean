/- Contracts of slices.Equal, slices.EqualFunc over processes, and of layers 8's and 9's Same (view, cmd); no condition. -/
import Derived.Test.YtjghcmejmdllbaaVw1
namespace Go.Proofs.Ytjghcmejmdllbaa
open Go.ChangeShapes Go.WideShapes Go.ChangeAt Go.RowKit Go.Maps
set_option linter.unusedVariables false
set_option linter.unusedSimpArgs false
theorem eqPD_no (a b c d : Nat) (h : (a, b) ≠ (c, d)) (w : World) : (Op.equalIn 10000 36 (.agg #[.int .u16 (a : Int), .int .u32 (b : Int)]) (.agg #[.int .u16 (c : Int), .int .u32 (d : Int)])).run Try.prog w = .ok false w := by
  rw [eqPD]
  congr 1
  rw [Bool.and_eq_false_iff]
  by_cases h1 : a = c
  · refine .inr ?_
    have : b ≠ d := fun e => h (by rw [h1, e])
    simp; omega
  · refine .inl ?_
    simp; omega
theorem eqPD_yes (a b : Nat) (w : World) : (Op.equalIn 10000 36 (.agg #[.int .u16 (a : Int), .int .u32 (b : Int)]) (.agg #[.int .u16 (a : Int), .int .u32 (b : Int)])).run Try.prog w = .ok true w := eqPD_self _ _ w
theorem eqg_PD : Try.prog.eqGuardType Try.prog.depth 36 = false := by kernel_rfl
theorem getD_at {α : Type} {l : List α} {k : Nat} {d : α} (h : k < l.length) : l.getD k d = l[k] := by simp [List.getD, h]
set_option maxRecDepth 100000 in
set_option maxHeartbeats 1000000 in
theorem peq_ok (va vb : Value) (l m : List Pr) (w : World) (ha : Sl w 2 l.length va (elQ l)) (hb : Sl w 2 m.length vb (elQ m)) :
    Calls Try.prog 106 #[va, vb] w (Ret fun v w' => v = .bool (decide (l = m)) ∧ Below w.heap.size w w') := by
  have H := St.init w
  have ha' := ha
  have hb' := hb
  obtain ⟨aa, ca, rfl, hma, _⟩ := ha'
  obtain ⟨ab, cb, rfl, hmb, _⟩ := hb'
  unfold maxLen at hma hmb
  by_cases hlen : l.length = m.length
  · obtain ⟨n, hn⟩ : ∃ n, m.length = n := ⟨_, rfl⟩
    have hln : l.length = n := hlen.trans hn
    have HN := Lib.hid hn
    have HL := Lib.hid hln
    rw [hn] at hb hmb
    rw [hln] at ha hma
    simp only [hn, hln]
    clear hn hln hlen
    go_enter Try.func106, Try.ntmps106
    go_wp2_with fail
    go_loopw [13] (fun i wr => ∃ k : Nat, k ≤ n ∧ i = .int .i64 k ∧ Hid (l.take k = m.take k) ∧ St w.heap.size w wr []) (fun i _ => n - (intOf i).toNat)
    case atStart => exact ⟨0, Nat.zero_le _, rfl, Lib.hid (by simp), H⟩
    case round =>
      clear H
      obtain ⟨k, hk, rfl, HT, H⟩ := hrel
      by_cases hlt : k < n
      · have hl1 : k < l.length := by rw [HL.out]; exact hlt
        have hm1 : k < m.length := by rw [HN.out]; exact hlt
        obtain ⟨b1, o1, rfl, hb1⟩ := ha.addr (by omega)
        obtain ⟨b2, o2, rfl, hb2⟩ := hb.addr (by omega)
        have hc1 := ha.cell hlt
        have hc2 := hb.cell hlt
        unfold elQ at hc1 hc2
        rw [getD_at hl1] at hc1
        rw [getD_at hm1] at hc2
        have hs1 := List.take_succ_eq_append_getElem hl1
        have hs2 := List.take_succ_eq_append_getElem hm1
        obtain ⟨⟨x, y⟩, hx⟩ : ∃ x, l[k] = x := ⟨_, rfl⟩
        obtain ⟨⟨z, t⟩, hz⟩ : ∃ z, m[k] = z := ⟨_, rfl⟩
        rw [hx] at hc1 hs1
        rw [hz] at hc2 hs2
        have kli : (k : Int) < (n : Int) := by omega
        by_cases he0 : (x, y) = (z, t)
        · injection he0 with e1 e2
          subst e1 e2
          have he := eqPD_yes x y
          have HS1 := Lib.hid hs1
          have HS2 := Lib.hid hs2
          clear hs1 hs2 hx hz
          go_wp2_with fail
          refine rg_begin 9 rfl (S := fun W => St _ _ W _) (by kernel_rfl) H.drew ?_
          replace H := H.drew
          have HS := H
          refine rg_take (i := 0) rfl kR kR kR (Yld.move rfl rfl) HS ?_; simp only [pS, pE]
          refine rg_take (i := 1) rfl kR kR kR (Yld.move rfl rfl) HS ?_; simp only [pS, pE]
          refine rg_take (i := 2) rfl kR kR kR (Yld.o rfl) HS ?_; simp only [pS]
          first | (refine rg_take (i := 3) rfl kR kR kR (Yld.ldr rfl rfl agg36 size36 rfl mR sZ) HS ?_; simp only [pS]) | (refine rg_take (i := 3) rfl kR kR kR (Yld.ldl rfl rfl agg36 size36 rfl mR (by simp)) HS ?_; simp only [pS]; simp only [List.drop_succ_cons, List.drop_zero, List.take_succ_cons, List.take_zero]) | (refine rg_take (i := 3) rfl kR kR kR (Yld.ldor rfl rfl agg36 size36 rfl (by assumption) sZ (by assumption)) HS ?_; simp only [pS])
          refine rg_take (i := 4) rfl kR kR kR (Yld.move rfl rfl) HS ?_; simp only [pS, pE]
          refine rg_take (i := 5) rfl kR kR kR (Yld.move rfl rfl) HS ?_; simp only [pS, pE]
          refine rg_take (i := 6) rfl kR kR kR (Yld.o rfl) HS ?_; simp only [pS]
          first | (refine rg_take (i := 7) rfl kR kR kR (Yld.ldr rfl rfl agg36 size36 rfl mR sZ) HS ?_; simp only [pS]) | (refine rg_take (i := 7) rfl kR kR kR (Yld.ldl rfl rfl agg36 size36 rfl mR (by simp)) HS ?_; simp only [pS]; simp only [List.drop_succ_cons, List.drop_zero, List.take_succ_cons, List.take_zero]) | (refine rg_take (i := 7) rfl kR kR kR (Yld.ldor rfl rfl agg36 size36 rfl (by assumption) sZ (by assumption)) HS ?_; simp only [pS])
          refine rg_take (i := 8) rfl kR kR kR (Yld.o rfl) HS ?_; simp only [pS]
          refine rg_done (by kernel_rfl) ?_
          go_wp2_with fail
          go_roundw
          case rel => exact ⟨k + 1, by omega, by go_num, Lib.hid (by rw [HS1.out, HS2.out, HT.out]), H⟩
          case measure => simp [intOf]; omega
        · have he := eqPD_no x y z t he0
          have hnn : ¬ l = m := fun e => he0 (by subst e; rw [← hx, ← hz])
          have hne : decide (l = m) = false := decide_eq_false hnn
          have HNE := Lib.hid hne
          clear hs1 hs2 hx hz hne hnn he0
          go_wp2_with fail
          refine rg_begin 9 rfl (S := fun W => St _ _ W _) (by kernel_rfl) H.drew ?_
          replace H := H.drew
          have HS := H
          refine rg_take (i := 0) rfl kR kR kR (Yld.move rfl rfl) HS ?_; simp only [pS, pE]
          refine rg_take (i := 1) rfl kR kR kR (Yld.move rfl rfl) HS ?_; simp only [pS, pE]
          refine rg_take (i := 2) rfl kR kR kR (Yld.o rfl) HS ?_; simp only [pS]
          first | (refine rg_take (i := 3) rfl kR kR kR (Yld.ldr rfl rfl agg36 size36 rfl mR sZ) HS ?_; simp only [pS]) | (refine rg_take (i := 3) rfl kR kR kR (Yld.ldl rfl rfl agg36 size36 rfl mR (by simp)) HS ?_; simp only [pS]; simp only [List.drop_succ_cons, List.drop_zero, List.take_succ_cons, List.take_zero]) | (refine rg_take (i := 3) rfl kR kR kR (Yld.ldor rfl rfl agg36 size36 rfl (by assumption) sZ (by assumption)) HS ?_; simp only [pS])
          refine rg_take (i := 4) rfl kR kR kR (Yld.move rfl rfl) HS ?_; simp only [pS, pE]
          refine rg_take (i := 5) rfl kR kR kR (Yld.move rfl rfl) HS ?_; simp only [pS, pE]
          refine rg_take (i := 6) rfl kR kR kR (Yld.o rfl) HS ?_; simp only [pS]
          first | (refine rg_take (i := 7) rfl kR kR kR (Yld.ldr rfl rfl agg36 size36 rfl mR sZ) HS ?_; simp only [pS]) | (refine rg_take (i := 7) rfl kR kR kR (Yld.ldl rfl rfl agg36 size36 rfl mR (by simp)) HS ?_; simp only [pS]; simp only [List.drop_succ_cons, List.drop_zero, List.take_succ_cons, List.take_zero]) | (refine rg_take (i := 7) rfl kR kR kR (Yld.ldor rfl rfl agg36 size36 rfl (by assumption) sZ (by assumption)) HS ?_; simp only [pS])
          refine rg_take (i := 8) rfl kR kR kR (Yld.o rfl) HS ?_; simp only [pS]
          refine rg_done (by kernel_rfl) ?_
          go_wp2_with fail
          go_ret
          exact ⟨_, rfl, by rw [HNE.out]; rfl, H.below⟩
      · obtain rfl : k = n := by omega
        have hE : decide (l = m) = true := by
          refine decide_eq_true ?_
          have := HT.out
          rw [List.take_of_length_le (by rw [HL.out]; omega), List.take_of_length_le (by rw [HN.out]; omega)] at this
          exact this
        have HE := Lib.hid hE
        clear hE
        go_wp2_with fail
        go_ret
        exact ⟨_, rfl, by rw [HE.out]; rfl, H.below⟩
  · have hd : decide (l = m) = false := decide_eq_false (fun e => hlen (by rw [e]))
    have HD := Lib.hid hd
    have hli : ((l.length : Int) != (m.length : Int)) = true := by simp; omega
    clear hd
    go_enter Try.func106, Try.ntmps106
    go_wp2_with fail
    go_ret
    exact ⟨_, rfl, by rw [HD.out]; rfl, H.below⟩
/-- One of some leaves: its header's cell, and what it reads as. -/
theorem LvG.at {G : Nat → Prop} {w : World} {a : Option Addr} {n c : Nat} {ls : List (List Pr)} (h : LvG G w (.slice a n c) ls) (hn : ls.length = n) {k : Nat} (hk : k < ls.length) :
    ∃ b off ak ck, a = some ⟨b, off, none⟩ ∧ b < w.heap.size ∧ w.cell? ⟨b, off + k, none⟩ = some (.slice ak ls[k].length ck) ∧ SlG G w 2 ls[k].length (.slice ak ls[k].length ck) (elQ ls[k]) := by
  obtain ⟨hd, h1, h2⟩ := h
  obtain ⟨a', c', e, hm, hE⟩ := h1
  obtain ⟨b, off, e2, hG, hb, hc⟩ := hE (by omega)
  injection e with e _ _
  have h3 := h2 k hk
  rw [getD_at hk] at h3
  obtain ⟨ak, ck, hs⟩ := h3.shape
  rw [hs] at h3
  refine ⟨b, off, ak, ck, e.trans e2, hb, ?_, h3⟩
  have := hc k hk 0 (by omega)
  rw [Nat.mul_one, Nat.add_zero] at this
  rw [this, ← hs]
  rfl
set_option maxRecDepth 100000 in
set_option maxHeartbeats 1000000 in
theorem lveq_ok {G1 G2 : Nat → Prop} (va vb : Value) (l m : List (List Pr)) (w : World) (ha : LvG G1 w va l) (hb : LvG G2 w vb m) :
    Calls Try.prog 107 #[va, vb, .func (.func 106) #[] #[]] w (Ret fun v w' => v = .bool (decide (l = m)) ∧ Below w.heap.size w w') := by
  have H := St.init w
  have ha' := ha
  have hb' := hb
  obtain ⟨_, h1, _⟩ := ha'
  obtain ⟨_, h2, _⟩ := hb'
  obtain ⟨aa, ca, rfl, hma, _⟩ := h1
  obtain ⟨ab, cb, rfl, hmb, _⟩ := h2
  unfold maxLen at hma hmb
  by_cases hlen : l.length = m.length
  · obtain ⟨n, hn⟩ : ∃ n, m.length = n := ⟨_, rfl⟩
    have hln : l.length = n := hlen.trans hn
    have HN := Lib.hid hn
    have HL := Lib.hid hln
    rw [hn] at hb hmb
    rw [hln] at ha hma
    simp only [hn, hln]
    clear hn hln hlen
    go_enter Try.func107, Try.ntmps107
    go_wp2_with (first | (with_reducible refine wpl rfl (Stp.ldc rfl agg23 rfl H mR cE ?_); simp only [pS]) | (with_reducible refine wpl rfl (Stp.ldo rfl agg23 rfl H (by assumption) (by assumption) ?_); simp only [pS]))
    go_loopw [17] (fun i wr => ∃ k : Nat, k ≤ n ∧ i = .int .i64 k ∧ Hid (l.take k = m.take k) ∧ St w.heap.size w wr []) (fun i _ => n - (intOf i).toNat)
    case atStart => exact ⟨0, Nat.zero_le _, rfl, Lib.hid (by simp), H⟩
    case round =>
      clear H
      obtain ⟨k, hk, rfl, HT, H⟩ := hrel
      by_cases hlt : k < n
      · have hl1 : k < l.length := by rw [HL.out]; exact hlt
        have hm1 : k < m.length := by rw [HN.out]; exact hlt
        obtain ⟨b1, o1, a1, c1, rfl, hb1, hc1, hs1⟩ := ha.at HL.out hl1
        obtain ⟨b2, o2, a2, c2, rfl, hb2, hc2, hs2⟩ := hb.at HN.out hm1
        have ht1 := List.take_succ_eq_append_getElem hl1
        have ht2 := List.take_succ_eq_append_getElem hm1
        obtain ⟨x, hx⟩ : ∃ x, l[k] = x := ⟨_, rfl⟩
        obtain ⟨z, hz⟩ : ∃ z, m[k] = z := ⟨_, rfl⟩
        rw [hx] at hc1 ht1 hs1
        rw [hz] at hc2 ht2 hs2
        have kli : (k : Int) < (n : Int) := by omega
        have HT1 := Lib.hid ht1
        have HT2 := Lib.hid ht2
        by_cases he0 : x = z
        · have hE : decide (x = z) = true := decide_eq_true he0
          have HE := Lib.hid hE
          have HX := Lib.hid he0
          clear ht1 ht2 hx hz hE he0
          go_wp2_with (first | (go_at_call 106; (with_reducible refine (peq_ok _ _ x z _ (hs1.sl.grow H.below) (hs2.sl.grow H.below)).mono ?_); rintro e w1 ⟨v, rfl, hr⟩; obtain ⟨rfl, hb1⟩ := hr; replace H := H.grow hb1; clear hb1; rw [HE.out]) | (with_reducible refine wpl rfl (Stp.ldc rfl agg23 rfl H mR cE ?_); simp only [pS]) | (with_reducible refine wpl rfl (Stp.ldo rfl agg23 rfl H (by assumption) (by assumption) ?_); simp only [pS]))
          go_roundw
          case rel => exact ⟨k + 1, by omega, by go_num, Lib.hid (by rw [HT1.out, HT2.out, HT.out, HX.out]), H⟩
          case measure => simp [intOf]; omega
        · have hnn : ¬ l = m := fun e => he0 (by subst e; rw [← hx, ← hz])
          have HNE := Lib.hid (decide_eq_false hnn)
          have HE := Lib.hid (decide_eq_false he0)
          clear ht1 ht2 hx hz hnn he0
          go_wp2_with (first | (go_at_call 106; (with_reducible refine (peq_ok _ _ x z _ (hs1.sl.grow H.below) (hs2.sl.grow H.below)).mono ?_); rintro e w1 ⟨v, rfl, hr⟩; obtain ⟨rfl, hb1⟩ := hr; replace H := H.grow hb1; clear hb1; rw [HE.out]) | (with_reducible refine wpl rfl (Stp.ldc rfl agg23 rfl H mR cE ?_); simp only [pS]) | (with_reducible refine wpl rfl (Stp.ldo rfl agg23 rfl H (by assumption) (by assumption) ?_); simp only [pS]))
          go_ret
          exact ⟨_, rfl, by rw [HNE.out]; rfl, H.below⟩
      · obtain rfl : k = n := by omega
        have hE : decide (l = m) = true := by
          refine decide_eq_true ?_
          have := HT.out
          rw [List.take_of_length_le (by rw [HL.out]; omega), List.take_of_length_le (by rw [HN.out]; omega)] at this
          exact this
        have HE := Lib.hid hE
        clear hE
        go_wp2_with (first | (with_reducible refine wpl rfl (Stp.ldc rfl agg23 rfl H mR cE ?_); simp only [pS]) | (with_reducible refine wpl rfl (Stp.ldo rfl agg23 rfl H (by assumption) (by assumption) ?_); simp only [pS]))
        go_ret
        exact ⟨_, rfl, by rw [HE.out]; rfl, H.below⟩
  · have hd : decide (l = m) = false := decide_eq_false (fun e => hlen (by rw [e]))
    have HD := Lib.hid hd
    have hli : ((l.length : Int) != (m.length : Int)) = true := by simp; omega
    clear hd
    go_enter Try.func107, Try.ntmps107
    go_wp2_with (first | (with_reducible refine wpl rfl (Stp.ldc rfl agg23 rfl H mR cE ?_); simp only [pS]) | (with_reducible refine wpl rfl (Stp.ldo rfl agg23 rfl H (by assumption) (by assumption) ?_); simp only [pS]))
    go_ret
    exact ⟨_, rfl, by rw [HD.out]; rfl, H.below⟩
end Go.Proofs.Ytjghcmejmdllbaa
