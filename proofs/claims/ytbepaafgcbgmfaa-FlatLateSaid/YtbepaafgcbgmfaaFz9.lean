/- Contracts of the references' Same over processes, and of what is Great of layers 8 and 9 (choragusref03, 08, 09); no condition. Contracts of the references' Same over views and commands (choragusref08, 09); no condition. Regions that draw their order: a stronger condition from some operation on; two resources as one that can be parted again; elements collected; no condition. -/
import Derived.Test.YtbepaafgcbgmfaaFz5
import Derived.Test.YtbepaafgcbgmfaaFz3
namespace Go.Proofs.Ytbepaafgcbgmfaa
open Go.ChangeShapes Go.WideShapes Go.ChangeAt Go.RowKit Go.Maps
set_option linter.unusedVariables false
set_option linter.unusedSimpArgs false
set_option maxRecDepth 100000 in
set_option maxHeartbeats 1000000 in
theorem rpsame_ok (va vb : Value) (l m : List Pr) (w : World) (ha : Sl w 2 l.length va (elQ l)) (hb : Sl w 2 m.length vb (elQ m)) :
    Calls Try.prog 48 #[va, vb] w (Ret fun v w' => v = .bool (decide (l = m)) ∧ Below w.heap.size w w') := by
  have H := St.init w
  have ha' := ha
  have hb' := hb
  obtain ⟨aa, ca, rfl, hma, _⟩ := ha'
  obtain ⟨ab, cb, rfl, hmb, _⟩ := hb'
  unfold maxLen at hma hmb
  by_cases hlen : l.length = m.length
  · obtain ⟨n, hn⟩ : ∃ n, m.length = n := ⟨_, rfl⟩
    have hln : l.length = n := hlen.trans hn
    have HN := Lib.hid hn
    have HL := Lib.hid hln
    rw [hn] at hb hmb
    rw [hln] at ha hma
    simp only [hn, hln]
    clear hn hln hlen
    go_enter Try.func48, Try.ntmps48
    go_wp2_with fail
    go_loopw [5] (fun i wr => ∃ k : Nat, k ≤ n ∧ i = .int .i64 k ∧ Hid (l.take k = m.take k) ∧ St w.heap.size w wr []) (fun i _ => n - (intOf i).toNat)
    case atStart => exact ⟨0, Nat.zero_le _, rfl, Lib.hid (by simp), H⟩
    case round =>
      clear H
      obtain ⟨k, hk, rfl, HT, H⟩ := hrel
      by_cases hlt : k < n
      · have hl1 : k < l.length := by rw [HL.out]; exact hlt
        have hm1 : k < m.length := by rw [HN.out]; exact hlt
        obtain ⟨b1, o1, rfl, hb1⟩ := ha.addr (by omega)
        obtain ⟨b2, o2, rfl, hb2⟩ := hb.addr (by omega)
        have hc1 := ha.cell hlt
        have hc2 := hb.cell hlt
        unfold elQ at hc1 hc2
        rw [getD_at hl1] at hc1
        rw [getD_at hm1] at hc2
        have hs1 := List.take_succ_eq_append_getElem hl1
        have hs2 := List.take_succ_eq_append_getElem hm1
        obtain ⟨⟨x, y⟩, hx⟩ : ∃ x, l[k] = x := ⟨_, rfl⟩
        obtain ⟨⟨z, t⟩, hz⟩ : ∃ z, m[k] = z := ⟨_, rfl⟩
        rw [hx] at hc1 hs1
        rw [hz] at hc2 hs2
        have kli : (k : Int) < (n : Int) := by omega
        by_cases he0 : (x, y) = (z, t)
        · injection he0 with e1 e2
          subst e1 e2
          have he := eqPD_yes x y
          have HS1 := Lib.hid hs1
          have HS2 := Lib.hid hs2
          clear hs1 hs2 hx hz
          go_wp2_with fail
          refine rg_begin 9 rfl (S := fun W => St _ _ W _) (by kernel_rfl) H.drew ?_
          replace H := H.drew
          have HS := H
          refine rg_take (i := 0) rfl kR kR kR (Yld.move rfl rfl) HS ?_; simp only [pS, pE]
          refine rg_take (i := 1) rfl kR kR kR (Yld.move rfl rfl) HS ?_; simp only [pS, pE]
          refine rg_take (i := 2) rfl kR kR kR (Yld.o rfl) HS ?_; simp only [pS]
          first | (refine rg_take (i := 3) rfl kR kR kR (Yld.ldor rfl rfl agg27 size27 rfl (by assumption) sZ (by assumption)) HS ?_; simp only [pS]) | (refine rg_take (i := 3) rfl kR kR kR (Yld.ldr rfl rfl agg27 size27 rfl mR sZ) HS ?_; simp only [pS]) | (refine rg_take (i := 3) rfl kR kR kR (Yld.ldl rfl rfl agg27 size27 rfl mR (by simp)) HS ?_; simp only [pS]; simp only [List.drop_succ_cons, List.drop_zero, List.take_succ_cons, List.take_zero])
          refine rg_take (i := 4) rfl kR kR kR (Yld.move rfl rfl) HS ?_; simp only [pS, pE]
          refine rg_take (i := 5) rfl kR kR kR (Yld.move rfl rfl) HS ?_; simp only [pS, pE]
          refine rg_take (i := 6) rfl kR kR kR (Yld.o rfl) HS ?_; simp only [pS]
          first | (refine rg_take (i := 7) rfl kR kR kR (Yld.ldor rfl rfl agg27 size27 rfl (by assumption) sZ (by assumption)) HS ?_; simp only [pS]) | (refine rg_take (i := 7) rfl kR kR kR (Yld.ldr rfl rfl agg27 size27 rfl mR sZ) HS ?_; simp only [pS]) | (refine rg_take (i := 7) rfl kR kR kR (Yld.ldl rfl rfl agg27 size27 rfl mR (by simp)) HS ?_; simp only [pS]; simp only [List.drop_succ_cons, List.drop_zero, List.take_succ_cons, List.take_zero])
          refine rg_take (i := 8) rfl kR kR kR (Yld.o rfl) HS ?_; simp only [pS]
          refine rg_done (by kernel_rfl) ?_
          go_wp2_with fail
          go_roundw
          case rel => exact ⟨k + 1, by omega, by go_num, Lib.hid (by rw [HS1.out, HS2.out, HT.out]), H⟩
          case measure => simp [intOf]; omega
        · have he := eqPD_no x y z t he0
          have hnn : ¬ l = m := fun e => he0 (by subst e; rw [← hx, ← hz])
          have hne : decide (l = m) = false := decide_eq_false hnn
          have HNE := Lib.hid hne
          clear hs1 hs2 hx hz hne hnn he0
          go_wp2_with fail
          refine rg_begin 9 rfl (S := fun W => St _ _ W _) (by kernel_rfl) H.drew ?_
          replace H := H.drew
          have HS := H
          refine rg_take (i := 0) rfl kR kR kR (Yld.move rfl rfl) HS ?_; simp only [pS, pE]
          refine rg_take (i := 1) rfl kR kR kR (Yld.move rfl rfl) HS ?_; simp only [pS, pE]
          refine rg_take (i := 2) rfl kR kR kR (Yld.o rfl) HS ?_; simp only [pS]
          first | (refine rg_take (i := 3) rfl kR kR kR (Yld.ldor rfl rfl agg27 size27 rfl (by assumption) sZ (by assumption)) HS ?_; simp only [pS]) | (refine rg_take (i := 3) rfl kR kR kR (Yld.ldr rfl rfl agg27 size27 rfl mR sZ) HS ?_; simp only [pS]) | (refine rg_take (i := 3) rfl kR kR kR (Yld.ldl rfl rfl agg27 size27 rfl mR (by simp)) HS ?_; simp only [pS]; simp only [List.drop_succ_cons, List.drop_zero, List.take_succ_cons, List.take_zero])
          refine rg_take (i := 4) rfl kR kR kR (Yld.move rfl rfl) HS ?_; simp only [pS, pE]
          refine rg_take (i := 5) rfl kR kR kR (Yld.move rfl rfl) HS ?_; simp only [pS, pE]
          refine rg_take (i := 6) rfl kR kR kR (Yld.o rfl) HS ?_; simp only [pS]
          first | (refine rg_take (i := 7) rfl kR kR kR (Yld.ldor rfl rfl agg27 size27 rfl (by assumption) sZ (by assumption)) HS ?_; simp only [pS]) | (refine rg_take (i := 7) rfl kR kR kR (Yld.ldr rfl rfl agg27 size27 rfl mR sZ) HS ?_; simp only [pS]) | (refine rg_take (i := 7) rfl kR kR kR (Yld.ldl rfl rfl agg27 size27 rfl mR (by simp)) HS ?_; simp only [pS]; simp only [List.drop_succ_cons, List.drop_zero, List.take_succ_cons, List.take_zero])
          refine rg_take (i := 8) rfl kR kR kR (Yld.o rfl) HS ?_; simp only [pS]
          refine rg_done (by kernel_rfl) ?_
          go_wp2_with fail
          go_ret
          exact ⟨_, rfl, by rw [HNE.out]; rfl, H.below⟩
      · obtain rfl : k = n := by omega
        have hE : decide (l = m) = true := by
          refine decide_eq_true ?_
          have := HT.out
          rw [List.take_of_length_le (by rw [HL.out]; omega), List.take_of_length_le (by rw [HN.out]; omega)] at this
          exact this
        have HE := Lib.hid hE
        clear hE
        go_wp2_with fail
        go_ret
        exact ⟨_, rfl, by rw [HE.out]; rfl, H.below⟩
  · have hd : decide (l = m) = false := decide_eq_false (fun e => hlen (by rw [e]))
    have HD := Lib.hid hd
    have hli : ((l.length : Int) != (m.length : Int)) = true := by simp; omega
    clear hd
    go_enter Try.func48, Try.ntmps48
    go_wp2_with fail
    go_ret
    exact ⟨_, rfl, by rw [HD.out]; rfl, H.below⟩
/-- Is a view more than is looked at? -/
def gV (x : Vw) : Bool := decide (40 < x.mem.length) || decide (40 < x.lvs.length) || decide (40 < x.ldr.length) || x.lvs.any fun l => decide (40 < l.length)
def gC (c : Cm) : Bool := decide (400 < c.data.length) || gV c.v
set_option maxRecDepth 100000 in
set_option maxHeartbeats 2000000 in
theorem rgreat_is {G1 : Nat → Prop} (x : Vw) (ma la da : Option Addr) (mc lc dc : Nat) (w : World) (e : Bool) (he : gV x = e)
    (hx : VwG G1 w (.slice ma x.mem.length mc) (.slice la x.lvs.length lc) (.slice da x.ldr.length dc) x) :
    Calls Try.prog 26 #[.agg (vwC x ma la da mc lc dc)] w (Ret fun v w' => v = .bool e ∧ Below w.heap.size w w') := by
  have H := St.init w
  simp only [vwC]
  obtain ⟨hx1, hx2, hx3⟩ := hx
  subst he
  by_cases h1 : 40 < x.mem.length
  · have HV : Hid (gV x = true) := Lib.hid (by simp [gV, h1])
    have i1 : (40 : Int) < (x.mem.length : Int) := by omega
    clear h1
    go_enter Try.func26, Try.ntmps26
    go_wp2_with (first | (with_reducible refine wpl rfl (dQ 1 rfl ?_); with_reducible refine (Stp.box 1 rfl rfl rfl H ?_); clear H; intro g1 w1 H; simp only [pS]; simp only [pE, nC, pS] at H) | (with_reducible refine wpl rfl (ldQ (ty := 38) rfl ?_); first | (with_reducible refine (Stp.ldo rfl agg38 rfl H (by assumption) (by assumption) ?_); simp only [pS]) | (with_reducible refine (Stp.ldc rfl agg38 rfl H mR cE ?_); simp only [pS])) | (with_reducible refine wpl rfl (ldQ (ty := 39) rfl ?_); first | (with_reducible refine (Stp.ldo rfl agg39 rfl H (by assumption) (by assumption) ?_); simp only [pS]) | (with_reducible refine (Stp.ldc rfl agg39 rfl H mR cE ?_); simp only [pS])))
    go_ret
    exact ⟨_, rfl, by rw [HV.out]; rfl, H.below⟩
  have i1 : ¬ (40 : Int) < (x.mem.length : Int) := by omega
  by_cases h2 : 40 < x.lvs.length
  · have HV : Hid (gV x = true) := Lib.hid (by simp [gV, h1, h2])
    have i2 : (40 : Int) < (x.lvs.length : Int) := by omega
    clear h1 h2
    go_enter Try.func26, Try.ntmps26
    go_wp2_with (first | (with_reducible refine wpl rfl (dQ 1 rfl ?_); with_reducible refine (Stp.box 1 rfl rfl rfl H ?_); clear H; intro g1 w1 H; simp only [pS]; simp only [pE, nC, pS] at H) | (with_reducible refine wpl rfl (ldQ (ty := 38) rfl ?_); first | (with_reducible refine (Stp.ldo rfl agg38 rfl H (by assumption) (by assumption) ?_); simp only [pS]) | (with_reducible refine (Stp.ldc rfl agg38 rfl H mR cE ?_); simp only [pS])) | (with_reducible refine wpl rfl (ldQ (ty := 39) rfl ?_); first | (with_reducible refine (Stp.ldo rfl agg39 rfl H (by assumption) (by assumption) ?_); simp only [pS]) | (with_reducible refine (Stp.ldc rfl agg39 rfl H mR cE ?_); simp only [pS])))
    go_ret
    exact ⟨_, rfl, by rw [HV.out]; rfl, H.below⟩
  have i2 : ¬ (40 : Int) < (x.lvs.length : Int) := by omega
  by_cases h3 : 40 < x.ldr.length
  · have HV : Hid (gV x = true) := Lib.hid (by simp [gV, h1, h2, h3])
    have i3 : (40 : Int) < (x.ldr.length : Int) := by omega
    clear h1 h2 h3
    go_enter Try.func26, Try.ntmps26
    go_wp2_with (first | (with_reducible refine wpl rfl (dQ 1 rfl ?_); with_reducible refine (Stp.box 1 rfl rfl rfl H ?_); clear H; intro g1 w1 H; simp only [pS]; simp only [pE, nC, pS] at H) | (with_reducible refine wpl rfl (ldQ (ty := 38) rfl ?_); first | (with_reducible refine (Stp.ldo rfl agg38 rfl H (by assumption) (by assumption) ?_); simp only [pS]) | (with_reducible refine (Stp.ldc rfl agg38 rfl H mR cE ?_); simp only [pS])) | (with_reducible refine wpl rfl (ldQ (ty := 39) rfl ?_); first | (with_reducible refine (Stp.ldo rfl agg39 rfl H (by assumption) (by assumption) ?_); simp only [pS]) | (with_reducible refine (Stp.ldc rfl agg39 rfl H mR cE ?_); simp only [pS])))
    go_ret
    exact ⟨_, rfl, by rw [HV.out]; rfl, H.below⟩
  have i3 : ¬ (40 : Int) < (x.ldr.length : Int) := by omega
  obtain ⟨n, hn⟩ : ∃ n, x.lvs.length = n := ⟨_, rfl⟩
  have HN := Lib.hid hn
  have h0 : gV x = x.lvs.any fun l => decide (40 < l.length) := by simp [gV, h1, h2, h3]
  have HG := Lib.hid h0
  rw [hn] at hx2 i2 h2 ⊢
  clear hn h0 h1 h3
  go_enter Try.func26, Try.ntmps26
  go_wp2_with (first | (with_reducible refine wpl rfl (dQ 1 rfl ?_); with_reducible refine (Stp.box 1 rfl rfl rfl H ?_); clear H; intro g1 w1 H; simp only [pS]; simp only [pE, nC, pS] at H) | (with_reducible refine wpl rfl (ldQ (ty := 38) rfl ?_); first | (with_reducible refine (Stp.ldo rfl agg38 rfl H (by assumption) (by assumption) ?_); simp only [pS]) | (with_reducible refine (Stp.ldc rfl agg38 rfl H mR cE ?_); simp only [pS])) | (with_reducible refine wpl rfl (ldQ (ty := 39) rfl ?_); first | (with_reducible refine (Stp.ldo rfl agg39 rfl H (by assumption) (by assumption) ?_); simp only [pS]) | (with_reducible refine (Stp.ldc rfl agg39 rfl H mR cE ?_); simp only [pS])))
  go_loopw [3] (fun i wr => ∃ k : Nat, k ≤ n ∧ i = .int .i64 k ∧ Hid ((x.lvs.take k).any (fun l => decide (40 < l.length)) = false) ∧ St w.heap.size w wr [row 41 g1 #[.int .u64 (x.id : Int), .slice ma x.mem.length mc, .slice la n lc, .slice da x.ldr.length dc]]) (fun i _ => n - (intOf i).toNat)
  case atStart => exact ⟨0, Nat.zero_le _, rfl, Lib.hid (by simp), H⟩
  case round =>
    clear H
    obtain ⟨k, hk, rfl, HT, H⟩ := hrel
    by_cases hlt : k < n
    · have hl1 : k < x.lvs.length := by rw [HN.out]; exact hlt
      obtain ⟨b1, o1, a1, c1, rfl, hb1, hc1, hs1⟩ := hx2.at HN.out hl1
      have ht1 := List.take_succ_eq_append_getElem hl1
      have hmem := List.getElem_mem hl1
      obtain ⟨z, hz⟩ : ∃ z, x.lvs[k] = z := ⟨_, rfl⟩
      rw [hz] at hc1 ht1 hmem
      have kli : (k : Int) < (n : Int) := by omega
      have HT1 := Lib.hid ht1
      have HM := Lib.hid hmem
      clear hs1
      by_cases hg : 40 < z.length
      · have gi : (40 : Int) < (z.length : Int) := by omega
        have HB : Hid (gV x = true) := Lib.hid (by rw [HG.out]; exact List.any_eq_true.2 ⟨z, HM.out, decide_eq_true hg⟩)
        clear ht1 hz hmem hg
        go_wp2_with (first | (with_reducible refine wpl rfl (dQ 1 rfl ?_); with_reducible refine (Stp.box 1 rfl rfl rfl H ?_); clear H; intro g1 w1 H; simp only [pS]; simp only [pE, nC, pS] at H) | (with_reducible refine wpl rfl (ldQ (ty := 38) rfl ?_); first | (with_reducible refine (Stp.ldo rfl agg38 rfl H (by assumption) (by assumption) ?_); simp only [pS]) | (with_reducible refine (Stp.ldc rfl agg38 rfl H mR cE ?_); simp only [pS])) | (with_reducible refine wpl rfl (ldQ (ty := 39) rfl ?_); first | (with_reducible refine (Stp.ldo rfl agg39 rfl H (by assumption) (by assumption) ?_); simp only [pS]) | (with_reducible refine (Stp.ldc rfl agg39 rfl H mR cE ?_); simp only [pS])))
        go_ret
        exact ⟨_, rfl, by rw [HB.out]; rfl, H.below⟩
      · have gi : ¬ (40 : Int) < (z.length : Int) := by omega
        have HB := Lib.hid hg
        clear ht1 hz hmem hg
        go_wp2_with (first | (with_reducible refine wpl rfl (dQ 1 rfl ?_); with_reducible refine (Stp.box 1 rfl rfl rfl H ?_); clear H; intro g1 w1 H; simp only [pS]; simp only [pE, nC, pS] at H) | (with_reducible refine wpl rfl (ldQ (ty := 38) rfl ?_); first | (with_reducible refine (Stp.ldo rfl agg38 rfl H (by assumption) (by assumption) ?_); simp only [pS]) | (with_reducible refine (Stp.ldc rfl agg38 rfl H mR cE ?_); simp only [pS])) | (with_reducible refine wpl rfl (ldQ (ty := 39) rfl ?_); first | (with_reducible refine (Stp.ldo rfl agg39 rfl H (by assumption) (by assumption) ?_); simp only [pS]) | (with_reducible refine (Stp.ldc rfl agg39 rfl H mR cE ?_); simp only [pS])))
        go_roundw
        case rel => exact ⟨k + 1, by omega, by go_num, Lib.hid (by rw [HT1.out, List.any_append, HT.out]; simp [HB.out]), H⟩
        case measure => simp [intOf]; omega
    · obtain rfl : k = n := by omega
      have HB : Hid (gV x = false) := Lib.hid (by
        have := HT.out
        rw [List.take_of_length_le (by rw [HN.out]; omega)] at this
        rw [HG.out]; exact this)
      go_wp2_with (first | (with_reducible refine wpl rfl (dQ 1 rfl ?_); with_reducible refine (Stp.box 1 rfl rfl rfl H ?_); clear H; intro g1 w1 H; simp only [pS]; simp only [pE, nC, pS] at H) | (with_reducible refine wpl rfl (ldQ (ty := 38) rfl ?_); first | (with_reducible refine (Stp.ldo rfl agg38 rfl H (by assumption) (by assumption) ?_); simp only [pS]) | (with_reducible refine (Stp.ldc rfl agg38 rfl H mR cE ?_); simp only [pS])) | (with_reducible refine wpl rfl (ldQ (ty := 39) rfl ?_); first | (with_reducible refine (Stp.ldo rfl agg39 rfl H (by assumption) (by assumption) ?_); simp only [pS]) | (with_reducible refine (Stp.ldc rfl agg39 rfl H mR cE ?_); simp only [pS])))
      go_ret
      exact ⟨_, rfl, by rw [HB.out]; rfl, H.below⟩
end Go.Proofs.Ytbepaafgcbgmfaa

namespace Go.Proofs.Ytbepaafgcbgmfaa
open Go.ChangeShapes Go.WideShapes Go.ChangeAt Go.RowKit Go.Maps
set_option linter.unusedVariables false
set_option linter.unusedSimpArgs false
set_option maxRecDepth 100000 in
set_option maxHeartbeats 4000000 in
theorem rvsame_is {G1 G2 : Nat → Prop} (x y : Vw) (ma la da mb lb db : Option Addr) (mc lc dc md ld dd : Nat) (w : World) (e : Bool)
    (hx : VwG G1 w (.slice ma x.mem.length mc) (.slice la x.lvs.length lc) (.slice da x.ldr.length dc) x) (hy : VwG G2 w (.slice mb y.mem.length md) (.slice lb y.lvs.length ld) (.slice db y.ldr.length dd) y) (he : vSame x y = e) :
    Calls Try.prog 33 #[.agg (vwC x ma la da mc lc dc), .agg (vwC y mb lb db md ld dd)] w (Ret fun v w' => v = .bool e ∧ Below w.heap.size w w') := by
  have H := St.init w
  simp only [vwC]
  obtain ⟨hx1, hx2, hx3⟩ := hx
  obtain ⟨hy1, hy2, hy3⟩ := hy
  subst he
  by_cases g0 : x.id = y.id
  · have i0 : ((x.id : Int) != (y.id : Int)) = false := by simp [g0]
    by_cases g1 : x.mem = y.mem
    · have E1 := Lib.hid (decide_eq_true g1)
      by_cases g3 : x.ldr = y.ldr
      · have E3 := Lib.hid (decide_eq_true g3)
        have hV : vSame x y = decide (x.lvs = y.lvs) := by simp [vSame, g0, g1, g3]
        have HV0 := Lib.hid hV
        clear g0 g1 g3 hV
        by_cases hlen : x.lvs.length = y.lvs.length
        · obtain ⟨n, hn⟩ : ∃ n, y.lvs.length = n := ⟨_, rfl⟩
          have hln : x.lvs.length = n := hlen.trans hn
          have HN := Lib.hid hn
          have HL := Lib.hid hln
          rw [hn] at hy2 ⊢
          rw [hln] at hx2 ⊢
          have hnl : n ≤ 9223372036854775807 := by
            have h := hx2
            obtain ⟨_, ⟨_, _, _, hm, _⟩, _⟩ := h
            unfold maxLen at hm
            omega
          clear hn hln hlen
          go_enter Try.func33, Try.ntmps33
          go_wp2_with (first | (go_at_call 48; (first | ((with_reducible refine (rpsame_ok _ _ x.mem y.mem _ (hx1.sl.grow H.below) (hy1.sl.grow H.below)).mono ?_); rintro e w1 ⟨v, rfl, hr⟩; obtain ⟨rfl, hb1⟩ := hr; replace H := H.grow hb1; clear hb1; rw [E1.out]) | ((with_reducible refine (rpsame_ok _ _ x.ldr y.ldr _ (hx3.sl.grow H.below) (hy3.sl.grow H.below)).mono ?_); rintro e w1 ⟨v, rfl, hr⟩; obtain ⟨rfl, hb1⟩ := hr; replace H := H.grow hb1; clear hb1; rw [E3.out]))) | (with_reducible refine wpl rfl (dQ 2 rfl ?_); with_reducible refine (Stp.box 2 rfl rfl rfl H ?_); clear H; intro g2 w1 H; simp only [pS]; simp only [pE, nC, pS] at H) | (with_reducible refine wpl rfl (dQ 3 rfl ?_); with_reducible refine (Stp.box 3 rfl rfl rfl H ?_); clear H; intro g3 w1 H; simp only [pS]; simp only [pE, nC, pS] at H) | (with_reducible refine wpl rfl (ldQ (ty := 37) rfl ?_); first | (with_reducible refine (Stp.ldo rfl agg37 rfl H (by assumption) (by assumption) ?_); simp only [pS]) | (with_reducible refine (Stp.ldc rfl agg37 rfl H mR cE ?_); simp only [pS])) | (with_reducible refine wpl rfl (ldQ (ty := 38) rfl ?_); first | (with_reducible refine (Stp.ldo rfl agg38 rfl H (by assumption) (by assumption) ?_); simp only [pS]) | (with_reducible refine (Stp.ldc rfl agg38 rfl H mR cE ?_); simp only [pS])) | (with_reducible refine wpl rfl (ldQ (ty := 39) rfl ?_); first | (with_reducible refine (Stp.ldo rfl agg39 rfl H (by assumption) (by assumption) ?_); simp only [pS]) | (with_reducible refine (Stp.ldc rfl agg39 rfl H mR cE ?_); simp only [pS])))
          go_loopw [5] (fun i wr => ∃ k : Nat, k ≤ n ∧ i = .int .i64 k ∧ Hid (x.lvs.take k = y.lvs.take k) ∧ St w.heap.size w wr [row 41 g3 #[.int .u64 (y.id : Int), .slice mb y.mem.length md, .slice lb n ld, .slice db y.ldr.length dd], row 41 g2 #[.int .u64 (x.id : Int), .slice ma x.mem.length mc, .slice la n lc, .slice da x.ldr.length dc]]) (fun i _ => n - (intOf i).toNat)
          case atStart => exact ⟨0, Nat.zero_le _, rfl, Lib.hid (by simp), H⟩
          case round =>
            clear H
            obtain ⟨k, hk, rfl, HT, H⟩ := hrel
            by_cases hlt : k < n
            · have hl1 : k < x.lvs.length := by rw [HL.out]; exact hlt
              have hm1 : k < y.lvs.length := by rw [HN.out]; exact hlt
              obtain ⟨b1, o1, a1, c1, rfl, hb1, hc1, hs1⟩ := hx2.at HL.out hl1
              obtain ⟨b2, o2, a2, c2, rfl, hb2, hc2, hs2⟩ := hy2.at HN.out hm1
              have ht1 := List.take_succ_eq_append_getElem hl1
              have ht2 := List.take_succ_eq_append_getElem hm1
              obtain ⟨p, hp⟩ : ∃ p, x.lvs[k] = p := ⟨_, rfl⟩
              obtain ⟨q, hq⟩ : ∃ q, y.lvs[k] = q := ⟨_, rfl⟩
              rw [hp] at hc1 ht1 hs1
              rw [hq] at hc2 ht2 hs2
              have kli : (k : Int) < (n : Int) := by omega
              have HT1 := Lib.hid ht1
              have HT2 := Lib.hid ht2
              by_cases he0 : p = q
              · have HE := Lib.hid (decide_eq_true he0)
                have HX := Lib.hid he0
                clear ht1 ht2 hp hq he0
                go_wp2_with (first | (with_reducible refine wpl rfl (dQ 2 rfl ?_); with_reducible refine (Stp.box 2 rfl rfl rfl H ?_); clear H; intro g2 w1 H; simp only [pS]; simp only [pE, nC, pS] at H) | (with_reducible refine wpl rfl (dQ 3 rfl ?_); with_reducible refine (Stp.box 3 rfl rfl rfl H ?_); clear H; intro g3 w1 H; simp only [pS]; simp only [pE, nC, pS] at H) | (with_reducible refine wpl rfl (ldQ (ty := 37) rfl ?_); first | (with_reducible refine (Stp.ldo rfl agg37 rfl H (by assumption) (by assumption) ?_); simp only [pS]) | (with_reducible refine (Stp.ldc rfl agg37 rfl H mR cE ?_); simp only [pS])) | (with_reducible refine wpl rfl (ldQ (ty := 38) rfl ?_); first | (with_reducible refine (Stp.ldo rfl agg38 rfl H (by assumption) (by assumption) ?_); simp only [pS]) | (with_reducible refine (Stp.ldc rfl agg38 rfl H mR cE ?_); simp only [pS])) | (with_reducible refine wpl rfl (ldQ (ty := 39) rfl ?_); first | (with_reducible refine (Stp.ldo rfl agg39 rfl H (by assumption) (by assumption) ?_); simp only [pS]) | (with_reducible refine (Stp.ldc rfl agg39 rfl H mR cE ?_); simp only [pS])))
                refine rg_begin 12 rfl (S := fun W => St _ _ W [row 41 g3 #[.int .u64 (y.id : Int), .slice mb y.mem.length md, .slice (some ⟨b2, o2, none⟩) n ld, .slice db y.ldr.length dd], row 41 g2 #[.int .u64 (x.id : Int), .slice ma x.mem.length mc, .slice (some ⟨b1, o1, none⟩) n lc, .slice da x.ldr.length dc]]) (by kernel_rfl) (H.drew.sub sU) ?_
                replace H := H.drew
                have HS := H
                refine rg_take (i := 0) rfl kR kR kR (Yld.o rfl) (H.sub sU) ?_; simp only [pS]
                first | (refine rg_take (i := 1) rfl kR kR kR (Yld.ldo rfl rfl agg39 rfl (by assumption) (by assumption)) (H.sub sU) ?_; simp only [pS]) | (refine rg_take (i := 1) rfl kR kR kR (Yld.ldc rfl rfl agg39 rfl mR cE) (H.sub sU) ?_; simp only [pS])
                refine rg_take (i := 2) rfl kR kR kR (Yld.move rfl rfl) (H.sub sU) ?_; simp only [pS, pE]
                refine rg_take (i := 3) rfl kR kR kR (Yld.o rfl) (H.sub sU) ?_; simp only [pS]
                first | (refine rg_take (i := 4) rfl kR kR kR (Yld.ldo rfl rfl agg38 rfl (by assumption) (by assumption)) (H.sub sU) ?_; simp only [pS]) | (refine rg_take (i := 4) rfl kR kR kR (Yld.ldc rfl rfl agg38 rfl mR cE) (H.sub sU) ?_; simp only [pS])
                refine rg_take (i := 5) rfl kR kR kR (Yld.o rfl) (H.sub sU) ?_; simp only [pS]
                first | (refine rg_take (i := 6) rfl kR kR kR (Yld.ldo rfl rfl agg39 rfl (by assumption) (by assumption)) (H.sub sU) ?_; simp only [pS]) | (refine rg_take (i := 6) rfl kR kR kR (Yld.ldc rfl rfl agg39 rfl mR cE) (H.sub sU) ?_; simp only [pS])
                refine rg_take (i := 7) rfl kR kR kR (Yld.move rfl rfl) (H.sub sU) ?_; simp only [pS, pE]
                refine rg_take (i := 8) rfl kR kR kR (Yld.o rfl) (H.sub sU) ?_; simp only [pS]
                first | (refine rg_take (i := 9) rfl kR kR kR (Yld.ldo rfl rfl agg38 rfl (by assumption) (by assumption)) (H.sub sU) ?_; simp only [pS]) | (refine rg_take (i := 9) rfl kR kR kR (Yld.ldc rfl rfl agg38 rfl mR cE) (H.sub sU) ?_; simp only [pS])
                refine rg_one (i := 10) (by kernel_rfl) rfl rfl (fun K hK => ?_)
                refine wp_callf rfl ent48 (rpsame_ok _ _ p q _ (hs1.sl.grow H.below) (hs2.sl.grow H.below)) rfl (fun v w1 hr => ?_)
                obtain ⟨rfl, hb1⟩ := hr
                replace H := H.grow hb1
                clear hb1
                rw [HE.out]
                clear HS
                have HS := H
                refine hK.out _ _ (H.sub sU) ?_
                clear hK K
                simp only [pS]
                refine rg_take (i := 11) rfl kR kR kR (Yld.o rfl) (H.sub sU) ?_; simp only [pS]
                refine rg_done (by kernel_rfl) ?_
                go_wp2_with (first | (with_reducible refine wpl rfl (dQ 2 rfl ?_); with_reducible refine (Stp.box 2 rfl rfl rfl H ?_); clear H; intro g2 w1 H; simp only [pS]; simp only [pE, nC, pS] at H) | (with_reducible refine wpl rfl (dQ 3 rfl ?_); with_reducible refine (Stp.box 3 rfl rfl rfl H ?_); clear H; intro g3 w1 H; simp only [pS]; simp only [pE, nC, pS] at H) | (with_reducible refine wpl rfl (ldQ (ty := 37) rfl ?_); first | (with_reducible refine (Stp.ldo rfl agg37 rfl H (by assumption) (by assumption) ?_); simp only [pS]) | (with_reducible refine (Stp.ldc rfl agg37 rfl H mR cE ?_); simp only [pS])) | (with_reducible refine wpl rfl (ldQ (ty := 38) rfl ?_); first | (with_reducible refine (Stp.ldo rfl agg38 rfl H (by assumption) (by assumption) ?_); simp only [pS]) | (with_reducible refine (Stp.ldc rfl agg38 rfl H mR cE ?_); simp only [pS])) | (with_reducible refine wpl rfl (ldQ (ty := 39) rfl ?_); first | (with_reducible refine (Stp.ldo rfl agg39 rfl H (by assumption) (by assumption) ?_); simp only [pS]) | (with_reducible refine (Stp.ldc rfl agg39 rfl H mR cE ?_); simp only [pS])))
                go_roundw
                case rel => exact ⟨k + 1, by omega, by go_num, Lib.hid (by rw [HT1.out, HT2.out, HT.out, HX.out]), H⟩
                case measure => simp [intOf]; omega
              · have hnn : ¬ x.lvs = y.lvs := fun e => he0 (by rw [← hp, ← hq]; simp only [e])
                have HV : Hid (vSame x y = false) := Lib.hid (by rw [HV0.out]; exact decide_eq_false hnn)
                have HE := Lib.hid (decide_eq_false he0)
                clear ht1 ht2 hp hq hnn he0
                go_wp2_with (first | (with_reducible refine wpl rfl (dQ 2 rfl ?_); with_reducible refine (Stp.box 2 rfl rfl rfl H ?_); clear H; intro g2 w1 H; simp only [pS]; simp only [pE, nC, pS] at H) | (with_reducible refine wpl rfl (dQ 3 rfl ?_); with_reducible refine (Stp.box 3 rfl rfl rfl H ?_); clear H; intro g3 w1 H; simp only [pS]; simp only [pE, nC, pS] at H) | (with_reducible refine wpl rfl (ldQ (ty := 37) rfl ?_); first | (with_reducible refine (Stp.ldo rfl agg37 rfl H (by assumption) (by assumption) ?_); simp only [pS]) | (with_reducible refine (Stp.ldc rfl agg37 rfl H mR cE ?_); simp only [pS])) | (with_reducible refine wpl rfl (ldQ (ty := 38) rfl ?_); first | (with_reducible refine (Stp.ldo rfl agg38 rfl H (by assumption) (by assumption) ?_); simp only [pS]) | (with_reducible refine (Stp.ldc rfl agg38 rfl H mR cE ?_); simp only [pS])) | (with_reducible refine wpl rfl (ldQ (ty := 39) rfl ?_); first | (with_reducible refine (Stp.ldo rfl agg39 rfl H (by assumption) (by assumption) ?_); simp only [pS]) | (with_reducible refine (Stp.ldc rfl agg39 rfl H mR cE ?_); simp only [pS])))
                refine rg_begin 12 rfl (S := fun W => St _ _ W [row 41 g3 #[.int .u64 (y.id : Int), .slice mb y.mem.length md, .slice (some ⟨b2, o2, none⟩) n ld, .slice db y.ldr.length dd], row 41 g2 #[.int .u64 (x.id : Int), .slice ma x.mem.length mc, .slice (some ⟨b1, o1, none⟩) n lc, .slice da x.ldr.length dc]]) (by kernel_rfl) (H.drew.sub sU) ?_
                replace H := H.drew
                have HS := H
                refine rg_take (i := 0) rfl kR kR kR (Yld.o rfl) (H.sub sU) ?_; simp only [pS]
                first | (refine rg_take (i := 1) rfl kR kR kR (Yld.ldo rfl rfl agg39 rfl (by assumption) (by assumption)) (H.sub sU) ?_; simp only [pS]) | (refine rg_take (i := 1) rfl kR kR kR (Yld.ldc rfl rfl agg39 rfl mR cE) (H.sub sU) ?_; simp only [pS])
                refine rg_take (i := 2) rfl kR kR kR (Yld.move rfl rfl) (H.sub sU) ?_; simp only [pS, pE]
                refine rg_take (i := 3) rfl kR kR kR (Yld.o rfl) (H.sub sU) ?_; simp only [pS]
                first | (refine rg_take (i := 4) rfl kR kR kR (Yld.ldo rfl rfl agg38 rfl (by assumption) (by assumption)) (H.sub sU) ?_; simp only [pS]) | (refine rg_take (i := 4) rfl kR kR kR (Yld.ldc rfl rfl agg38 rfl mR cE) (H.sub sU) ?_; simp only [pS])
                refine rg_take (i := 5) rfl kR kR kR (Yld.o rfl) (H.sub sU) ?_; simp only [pS]
                first | (refine rg_take (i := 6) rfl kR kR kR (Yld.ldo rfl rfl agg39 rfl (by assumption) (by assumption)) (H.sub sU) ?_; simp only [pS]) | (refine rg_take (i := 6) rfl kR kR kR (Yld.ldc rfl rfl agg39 rfl mR cE) (H.sub sU) ?_; simp only [pS])
                refine rg_take (i := 7) rfl kR kR kR (Yld.move rfl rfl) (H.sub sU) ?_; simp only [pS, pE]
                refine rg_take (i := 8) rfl kR kR kR (Yld.o rfl) (H.sub sU) ?_; simp only [pS]
                first | (refine rg_take (i := 9) rfl kR kR kR (Yld.ldo rfl rfl agg38 rfl (by assumption) (by assumption)) (H.sub sU) ?_; simp only [pS]) | (refine rg_take (i := 9) rfl kR kR kR (Yld.ldc rfl rfl agg38 rfl mR cE) (H.sub sU) ?_; simp only [pS])
                refine rg_one (i := 10) (by kernel_rfl) rfl rfl (fun K hK => ?_)
                refine wp_callf rfl ent48 (rpsame_ok _ _ p q _ (hs1.sl.grow H.below) (hs2.sl.grow H.below)) rfl (fun v w1 hr => ?_)
                obtain ⟨rfl, hb1⟩ := hr
                replace H := H.grow hb1
                clear hb1
                rw [HE.out]
                clear HS
                have HS := H
                refine hK.out _ _ (H.sub sU) ?_
                clear hK K
                simp only [pS]
                refine rg_take (i := 11) rfl kR kR kR (Yld.o rfl) (H.sub sU) ?_; simp only [pS]
                refine rg_done (by kernel_rfl) ?_
                go_wp2_with (first | (with_reducible refine wpl rfl (dQ 2 rfl ?_); with_reducible refine (Stp.box 2 rfl rfl rfl H ?_); clear H; intro g2 w1 H; simp only [pS]; simp only [pE, nC, pS] at H) | (with_reducible refine wpl rfl (dQ 3 rfl ?_); with_reducible refine (Stp.box 3 rfl rfl rfl H ?_); clear H; intro g3 w1 H; simp only [pS]; simp only [pE, nC, pS] at H) | (with_reducible refine wpl rfl (ldQ (ty := 37) rfl ?_); first | (with_reducible refine (Stp.ldo rfl agg37 rfl H (by assumption) (by assumption) ?_); simp only [pS]) | (with_reducible refine (Stp.ldc rfl agg37 rfl H mR cE ?_); simp only [pS])) | (with_reducible refine wpl rfl (ldQ (ty := 38) rfl ?_); first | (with_reducible refine (Stp.ldo rfl agg38 rfl H (by assumption) (by assumption) ?_); simp only [pS]) | (with_reducible refine (Stp.ldc rfl agg38 rfl H mR cE ?_); simp only [pS])) | (with_reducible refine wpl rfl (ldQ (ty := 39) rfl ?_); first | (with_reducible refine (Stp.ldo rfl agg39 rfl H (by assumption) (by assumption) ?_); simp only [pS]) | (with_reducible refine (Stp.ldc rfl agg39 rfl H mR cE ?_); simp only [pS])))
                go_ret
                exact ⟨_, rfl, by rw [HV.out]; rfl, H.below⟩
            · obtain rfl : k = n := by omega
              have HV : Hid (vSame x y = true) := Lib.hid (by
                rw [HV0.out]
                refine decide_eq_true ?_
                have := HT.out
                rw [List.take_of_length_le (by rw [HL.out]; omega), List.take_of_length_le (by rw [HN.out]; omega)] at this
                exact this)
              go_wp2_with (first | (with_reducible refine wpl rfl (dQ 2 rfl ?_); with_reducible refine (Stp.box 2 rfl rfl rfl H ?_); clear H; intro g2 w1 H; simp only [pS]; simp only [pE, nC, pS] at H) | (with_reducible refine wpl rfl (dQ 3 rfl ?_); with_reducible refine (Stp.box 3 rfl rfl rfl H ?_); clear H; intro g3 w1 H; simp only [pS]; simp only [pE, nC, pS] at H) | (with_reducible refine wpl rfl (ldQ (ty := 37) rfl ?_); first | (with_reducible refine (Stp.ldo rfl agg37 rfl H (by assumption) (by assumption) ?_); simp only [pS]) | (with_reducible refine (Stp.ldc rfl agg37 rfl H mR cE ?_); simp only [pS])) | (with_reducible refine wpl rfl (ldQ (ty := 38) rfl ?_); first | (with_reducible refine (Stp.ldo rfl agg38 rfl H (by assumption) (by assumption) ?_); simp only [pS]) | (with_reducible refine (Stp.ldc rfl agg38 rfl H mR cE ?_); simp only [pS])) | (with_reducible refine wpl rfl (ldQ (ty := 39) rfl ?_); first | (with_reducible refine (Stp.ldo rfl agg39 rfl H (by assumption) (by assumption) ?_); simp only [pS]) | (with_reducible refine (Stp.ldc rfl agg39 rfl H mR cE ?_); simp only [pS])))
              go_ret
              exact ⟨_, rfl, by rw [HV.out]; rfl, H.below⟩
        · have hnn : ¬ x.lvs = y.lvs := fun e => hlen (by rw [e])
          have HV : Hid (vSame x y = false) := Lib.hid (by rw [HV0.out]; exact decide_eq_false hnn)
          have i4 : ((x.lvs.length : Int) != (y.lvs.length : Int)) = true := by simp; omega
          clear hnn hlen
          go_enter Try.func33, Try.ntmps33
          go_wp2_with (first | (go_at_call 48; (first | ((with_reducible refine (rpsame_ok _ _ x.mem y.mem _ (hx1.sl.grow H.below) (hy1.sl.grow H.below)).mono ?_); rintro e w1 ⟨v, rfl, hr⟩; obtain ⟨rfl, hb1⟩ := hr; replace H := H.grow hb1; clear hb1; rw [E1.out]) | ((with_reducible refine (rpsame_ok _ _ x.ldr y.ldr _ (hx3.sl.grow H.below) (hy3.sl.grow H.below)).mono ?_); rintro e w1 ⟨v, rfl, hr⟩; obtain ⟨rfl, hb1⟩ := hr; replace H := H.grow hb1; clear hb1; rw [E3.out]))) | (with_reducible refine wpl rfl (dQ 2 rfl ?_); with_reducible refine (Stp.box 2 rfl rfl rfl H ?_); clear H; intro g2 w1 H; simp only [pS]; simp only [pE, nC, pS] at H) | (with_reducible refine wpl rfl (dQ 3 rfl ?_); with_reducible refine (Stp.box 3 rfl rfl rfl H ?_); clear H; intro g3 w1 H; simp only [pS]; simp only [pE, nC, pS] at H) | (with_reducible refine wpl rfl (ldQ (ty := 37) rfl ?_); first | (with_reducible refine (Stp.ldo rfl agg37 rfl H (by assumption) (by assumption) ?_); simp only [pS]) | (with_reducible refine (Stp.ldc rfl agg37 rfl H mR cE ?_); simp only [pS])) | (with_reducible refine wpl rfl (ldQ (ty := 38) rfl ?_); first | (with_reducible refine (Stp.ldo rfl agg38 rfl H (by assumption) (by assumption) ?_); simp only [pS]) | (with_reducible refine (Stp.ldc rfl agg38 rfl H mR cE ?_); simp only [pS])) | (with_reducible refine wpl rfl (ldQ (ty := 39) rfl ?_); first | (with_reducible refine (Stp.ldo rfl agg39 rfl H (by assumption) (by assumption) ?_); simp only [pS]) | (with_reducible refine (Stp.ldc rfl agg39 rfl H mR cE ?_); simp only [pS])))
          go_ret
          exact ⟨_, rfl, by rw [HV.out]; rfl, H.below⟩
      · have E3 := Lib.hid (decide_eq_false g3)
        have HV : Hid (vSame x y = false) := Lib.hid (by simp [vSame, g3])
        clear g0 g1 g3
        go_enter Try.func33, Try.ntmps33
        go_wp2_with (first | (go_at_call 48; (first | ((with_reducible refine (rpsame_ok _ _ x.mem y.mem _ (hx1.sl.grow H.below) (hy1.sl.grow H.below)).mono ?_); rintro e w1 ⟨v, rfl, hr⟩; obtain ⟨rfl, hb1⟩ := hr; replace H := H.grow hb1; clear hb1; rw [E1.out]) | ((with_reducible refine (rpsame_ok _ _ x.ldr y.ldr _ (hx3.sl.grow H.below) (hy3.sl.grow H.below)).mono ?_); rintro e w1 ⟨v, rfl, hr⟩; obtain ⟨rfl, hb1⟩ := hr; replace H := H.grow hb1; clear hb1; rw [E3.out]))) | (with_reducible refine wpl rfl (dQ 2 rfl ?_); with_reducible refine (Stp.box 2 rfl rfl rfl H ?_); clear H; intro g2 w1 H; simp only [pS]; simp only [pE, nC, pS] at H) | (with_reducible refine wpl rfl (dQ 3 rfl ?_); with_reducible refine (Stp.box 3 rfl rfl rfl H ?_); clear H; intro g3 w1 H; simp only [pS]; simp only [pE, nC, pS] at H) | (with_reducible refine wpl rfl (ldQ (ty := 37) rfl ?_); first | (with_reducible refine (Stp.ldo rfl agg37 rfl H (by assumption) (by assumption) ?_); simp only [pS]) | (with_reducible refine (Stp.ldc rfl agg37 rfl H mR cE ?_); simp only [pS])) | (with_reducible refine wpl rfl (ldQ (ty := 38) rfl ?_); first | (with_reducible refine (Stp.ldo rfl agg38 rfl H (by assumption) (by assumption) ?_); simp only [pS]) | (with_reducible refine (Stp.ldc rfl agg38 rfl H mR cE ?_); simp only [pS])) | (with_reducible refine wpl rfl (ldQ (ty := 39) rfl ?_); first | (with_reducible refine (Stp.ldo rfl agg39 rfl H (by assumption) (by assumption) ?_); simp only [pS]) | (with_reducible refine (Stp.ldc rfl agg39 rfl H mR cE ?_); simp only [pS])))
        go_ret
        exact ⟨_, rfl, by rw [HV.out]; rfl, H.below⟩
    · have E1 := Lib.hid (decide_eq_false g1)
      have HV : Hid (vSame x y = false) := Lib.hid (by simp [vSame, g1])
      clear g0 g1
      go_enter Try.func33, Try.ntmps33
      go_wp2_with (first | (go_at_call 48; (first | ((with_reducible refine (rpsame_ok _ _ x.mem y.mem _ (hx1.sl.grow H.below) (hy1.sl.grow H.below)).mono ?_); rintro e w1 ⟨v, rfl, hr⟩; obtain ⟨rfl, hb1⟩ := hr; replace H := H.grow hb1; clear hb1; rw [E1.out]) | ((with_reducible refine (rpsame_ok _ _ x.ldr y.ldr _ (hx3.sl.grow H.below) (hy3.sl.grow H.below)).mono ?_); rintro e w1 ⟨v, rfl, hr⟩; obtain ⟨rfl, hb1⟩ := hr; replace H := H.grow hb1; clear hb1; rw [E3.out]))) | (with_reducible refine wpl rfl (dQ 2 rfl ?_); with_reducible refine (Stp.box 2 rfl rfl rfl H ?_); clear H; intro g2 w1 H; simp only [pS]; simp only [pE, nC, pS] at H) | (with_reducible refine wpl rfl (dQ 3 rfl ?_); with_reducible refine (Stp.box 3 rfl rfl rfl H ?_); clear H; intro g3 w1 H; simp only [pS]; simp only [pE, nC, pS] at H) | (with_reducible refine wpl rfl (ldQ (ty := 37) rfl ?_); first | (with_reducible refine (Stp.ldo rfl agg37 rfl H (by assumption) (by assumption) ?_); simp only [pS]) | (with_reducible refine (Stp.ldc rfl agg37 rfl H mR cE ?_); simp only [pS])) | (with_reducible refine wpl rfl (ldQ (ty := 38) rfl ?_); first | (with_reducible refine (Stp.ldo rfl agg38 rfl H (by assumption) (by assumption) ?_); simp only [pS]) | (with_reducible refine (Stp.ldc rfl agg38 rfl H mR cE ?_); simp only [pS])) | (with_reducible refine wpl rfl (ldQ (ty := 39) rfl ?_); first | (with_reducible refine (Stp.ldo rfl agg39 rfl H (by assumption) (by assumption) ?_); simp only [pS]) | (with_reducible refine (Stp.ldc rfl agg39 rfl H mR cE ?_); simp only [pS])))
      go_ret
      exact ⟨_, rfl, by rw [HV.out]; rfl, H.below⟩
  · have i0 : ((x.id : Int) != (y.id : Int)) = true := by simp; omega
    have HV : Hid (vSame x y = false) := Lib.hid (by simp [vSame, g0])
    clear g0
    go_enter Try.func33, Try.ntmps33
    go_wp2_with (first | (go_at_call 48; (first | ((with_reducible refine (rpsame_ok _ _ x.mem y.mem _ (hx1.sl.grow H.below) (hy1.sl.grow H.below)).mono ?_); rintro e w1 ⟨v, rfl, hr⟩; obtain ⟨rfl, hb1⟩ := hr; replace H := H.grow hb1; clear hb1; rw [E1.out]) | ((with_reducible refine (rpsame_ok _ _ x.ldr y.ldr _ (hx3.sl.grow H.below) (hy3.sl.grow H.below)).mono ?_); rintro e w1 ⟨v, rfl, hr⟩; obtain ⟨rfl, hb1⟩ := hr; replace H := H.grow hb1; clear hb1; rw [E3.out]))) | (with_reducible refine wpl rfl (dQ 2 rfl ?_); with_reducible refine (Stp.box 2 rfl rfl rfl H ?_); clear H; intro g2 w1 H; simp only [pS]; simp only [pE, nC, pS] at H) | (with_reducible refine wpl rfl (dQ 3 rfl ?_); with_reducible refine (Stp.box 3 rfl rfl rfl H ?_); clear H; intro g3 w1 H; simp only [pS]; simp only [pE, nC, pS] at H) | (with_reducible refine wpl rfl (ldQ (ty := 37) rfl ?_); first | (with_reducible refine (Stp.ldo rfl agg37 rfl H (by assumption) (by assumption) ?_); simp only [pS]) | (with_reducible refine (Stp.ldc rfl agg37 rfl H mR cE ?_); simp only [pS])) | (with_reducible refine wpl rfl (ldQ (ty := 38) rfl ?_); first | (with_reducible refine (Stp.ldo rfl agg38 rfl H (by assumption) (by assumption) ?_); simp only [pS]) | (with_reducible refine (Stp.ldc rfl agg38 rfl H mR cE ?_); simp only [pS])) | (with_reducible refine wpl rfl (ldQ (ty := 39) rfl ?_); first | (with_reducible refine (Stp.ldo rfl agg39 rfl H (by assumption) (by assumption) ?_); simp only [pS]) | (with_reducible refine (Stp.ldc rfl agg39 rfl H mR cE ?_); simp only [pS])))
    go_ret
    exact ⟨_, rfl, by rw [HV.out]; rfl, H.below⟩
end Go.Proofs.Ytbepaafgcbgmfaa

namespace Go.Proofs.Ytbepaafgcbgmfaa
open Go.ChangeShapes Go.WideShapes Go.ChangeAt Go.RowKit
set_option linter.unusedVariables false
set_option linter.unusedSimpArgs false
section
variable {P : Program} {ops : Array Oper} {Q : Exit → Act → World → Prop} {S S' : World → Prop}
/-- From here on more is kept. -/
theorem rg_more (hs : ∀ w, S' w → S w) : ∀ (fuel : Nat) (listed : Array Bool) (a : Act) (w : World), wpAnyH P .any ops Q S' fuel listed a w → wpAnyH P .any ops Q S fuel listed a w
  | 0, _, _, _, h => h
  | fuel + 1, _, _, _, h => ⟨h.1, fun i hi => wpOp_mono (fun a' w' h' => ⟨hs _ h'.1, rg_more hs fuel _ a' w' h'.2⟩) (h.2 i hi)⟩
theorem rg_on {fuel : Nat} {listed : Array Bool} {a : Act} {w : World} (S' : World → Prop) (hs : ∀ w, S' w → S w) (h : wpAnyH P .any ops Q S' fuel listed a w) : wpAnyH P .any ops Q S fuel listed a w := rg_more hs _ _ _ _ h
end
/-! ### Two resources as one, apart -/
def sep (r s : Res) : Res := (fun g => r.1 g ∨ s.1 g, fun w => Sound r w ∧ Sound s w ∧ ∀ g, r.1 g → ¬ s.1 g)
theorem Sound.heap {r : Res} {w1 w2 : World} (h : Sound r w1) (hb : ∀ g, r.1 g → w2.heap[g]? = w1.heap[g]?) : Sound r w2 :=
  ⟨h.loc w1 w2 hb h.here, fun g hg => by
    have h1 := h.lt g hg
    have h2 := hb g hg
    rw [Array.getElem?_eq_getElem h1] at h2
    exact (Array.getElem?_eq_some_iff.1 h2).1, h.loc⟩
theorem sep_loc (r s : Res) : Loc (sep r s) := fun w1 w2 hb h => ⟨h.1.heap (fun g hg => hb g (.inl hg)), h.2.1.heap (fun g hg => hb g (.inr hg)), h.2.2⟩
theorem St.sep {B : Nat} {w0 w : World} {L : List Res} {r s : Res} (H : St B w0 w (r :: s :: L)) : St B w0 w (sep r s :: L) := by
  have hr := H.sound r List.mem_cons_self
  have hs := H.sound s (List.mem_cons_of_mem _ List.mem_cons_self)
  obtain ⟨ha, hp⟩ := List.pairwise_cons.1 H.apart
  obtain ⟨hb, hq⟩ := List.pairwise_cons.1 hp
  refine ⟨H.below, H.size, ?_, ?_, List.pairwise_cons.2 ⟨fun x hx g hg => ?_, hq⟩⟩
  · intro x hx
    rcases List.mem_cons.1 hx with rfl | hx
    · exact ⟨⟨hr, hs, ha s List.mem_cons_self⟩, fun g hg => hg.elim (hr.lt g) (hs.lt g), sep_loc _ _⟩
    · exact H.sound x (List.mem_cons_of_mem _ (List.mem_cons_of_mem _ hx))
  · intro x hx
    rcases List.mem_cons.1 hx with rfl | hx
    · exact fun g hg => hg.elim (H.base r List.mem_cons_self g) (H.base s (List.mem_cons_of_mem _ List.mem_cons_self) g)
    · exact H.base x (List.mem_cons_of_mem _ (List.mem_cons_of_mem _ hx))
  · exact hg.elim (ha x (List.mem_cons_of_mem _ hx) g) (hb x hx g)
theorem St.part {B : Nat} {w0 w : World} {L : List Res} {r s : Res} (H : St B w0 w (Go.Proofs.Ytbepaafgcbgmfaa.sep r s :: L)) : St B w0 w (r :: s :: L) := by
  obtain ⟨h1, h2, h3⟩ := (H.sound _ List.mem_cons_self).here
  have hb := H.base _ List.mem_cons_self
  obtain ⟨ha, hp⟩ := List.pairwise_cons.1 H.apart
  refine ⟨H.below, H.size, ?_, ?_, List.pairwise_cons.2 ⟨?_, List.pairwise_cons.2 ⟨fun x hx g hg => ha x hx g (.inr hg), hp⟩⟩⟩
  · intro x hx
    rcases List.mem_cons.1 hx with rfl | hx
    · exact h1
    · rcases List.mem_cons.1 hx with rfl | hx
      · exact h2
      · exact H.sound x (List.mem_cons_of_mem _ hx)
  · intro x hx g hg
    rcases List.mem_cons.1 hx with rfl | hx
    · exact hb g (.inl hg)
    · rcases List.mem_cons.1 hx with rfl | hx
      · exact hb g (.inr hg)
      · exact H.base x (List.mem_cons_of_mem _ hx) g hg
  · intro x hx g hg
    rcases List.mem_cons.1 hx with rfl | hx
    · exact h3 g hg
    · exact ha x hx g (.inl hg)
/-! ### Elements, one by one -/
theorem collect {α : Type} (P : Nat → α → Prop) : ∀ (n : Nat), (∀ i, i < n → ∃ a, P i a) → ∃ l : List α, l.length = n ∧ ∀ i (hi : i < l.length), P i l[i]
  | 0, _ => ⟨[], rfl, fun i hi => absurd hi (Nat.not_lt_zero _)⟩
  | n + 1, h => by
    obtain ⟨l, hl, hP⟩ := collect P n (fun i hi => h i (by omega))
    obtain ⟨a, ha⟩ := h n (by omega)
    refine ⟨l ++ [a], by simp [hl], fun i hi => ?_⟩
    by_cases hin : i < l.length
    · rw [List.getElem_append_left hin]; exact hP i hin
    · have : i = l.length := by simp at hi; omega
      subst this
      rw [List.getElem_append_right (Nat.le_refl _)]
      simpa [hl] using ha
end Go.Proofs.Ytbepaafgcbgmfaa
