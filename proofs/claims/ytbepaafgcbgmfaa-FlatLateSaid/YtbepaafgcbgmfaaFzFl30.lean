/- The statement FlatOrder of layer 29 (flat): the law's walk; the bounds stand in it. -/
import Derived.Test.YtbepaafgcbgmfaaFz23
import Derived.Test.YtbepaafgcbgmfaaFz27
import Derived.Test.YtbepaafgcbgmfaaFzFl24
import Derived.Test.YtbepaafgcbgmfaaFz28
namespace Go.Proofs.Ytbepaafgcbgmfaa
open Go.ChangeShapes Go.WideShapes Go.ChangeAt Go.RowKit Go.Maps Go.Deep
set_option linter.unusedVariables false
set_option linter.unusedSimpArgs false
set_option linter.unusedSectionVars false
set_option maxRecDepth 100000
set_option maxHeartbeats 4000000
theorem gV_smF {x : Vw} (h : gV x = false) : smV x := by
  unfold gV at h
  simp only [Bool.or_eq_false_iff, decide_eq_false_iff_not, List.any_eq_false] at h
  obtain ⟨⟨⟨h2, h3⟩, h4⟩, h5⟩ := h
  exact ⟨by omega, by omega, fun l hl => by have := h5 l hl; simp at this; omega, by omega⟩
theorem gF_out {ls : List Lv} {m : Nat} (h : gF ls m = false) : ls.length ≤ 12 ∧ m ≤ 60 ∧ ∀ x ∈ ls, x.l.length ≤ 60 ∧ ∀ e ∈ x.l, smV e.1.x := by
  unfold gF at h
  simp only [Bool.or_eq_false_iff, decide_eq_false_iff_not, List.any_eq_false] at h
  obtain ⟨h1, h2, h3⟩ := h
  refine ⟨by omega, by omega, fun x hx => ?_⟩
  have h4 := h3 x hx
  unfold gL1 at h4
  simp only [Bool.not_eq_true, Bool.or_eq_false_iff, decide_eq_false_iff_not, List.any_eq_false] at h4
  refine ⟨by omega, fun e he => ?_⟩
  have h5 := h4.2 e he
  unfold gE at h5
  simp only [Bool.not_eq_true, Bool.or_eq_false_iff] at h5
  exact gV_smF h5.1
theorem LvO.w {w : World} {x : Lv} (h : LvO w x) (hl : x.l.length ≤ 60) (hs : ∀ e ∈ x.l, smV e.1.x) : LvW w x := ⟨h.l, h.cap, by omega, h.p1, h.p2, h.ev, h.wf, hs⟩
theorem ord_ev {ls : List Lv} {id : Nat} {w : World} (h : ∀ x ∈ ls, ∀ e ∈ x.l, EvG w e) : ∀ e ∈ ordH id (tellL ls), EvG w e := ordH_sub id (EvG w) _ [] (fun e he => absurd he List.not_mem_nil) (tellL_sub h)
theorem ord_wf {ls : List Lv} {id : Nat} (h : ∀ x ∈ ls, ∀ e ∈ x.l, wfE e) : ∀ e ∈ ordH id (tellL ls), wfE e := ordH_sub id wfE _ [] (fun e he => absurd he List.not_mem_nil) (tellL_sub h)
section
variable {H : Type} {enc : TypeId × Value → H}
theorem open_u64 {W : World} {base : Nat} {v : Value} {d : DataW H} {p : List MemPlace} (hv : Value.okWide Try.prog W .any base 37 v) (h : DataW.Trod enc Try.prog W 0 (fun _ => true) true 37 v d p) : ∃ n : Nat, v = .int .u64 (n : Int) ∧ n < 18446744073709551616 := by
  obtain ⟨k2, rfl, _, _, w0⟩ := open_int Try.underlying37 hv h
  have b0 := bounds_u64 w0
  exact ⟨k2.toNat, by rw [show ((k2.toNat : Nat) : Int) = k2 by omega], by omega⟩
end
theorem all4_told {ls : List Lv} {p : Eh → Prop} (h : ∀ x ∈ ls, ∀ e ∈ x.l, p e) (d : Sq) (hd : d ∈ all4 ls) : ∀ e ∈ d.2.2.2, p e := by
  obtain ⟨x, hx, hd⟩ := List.mem_flatMap.1 hd
  obtain ⟨es, hes, rfl⟩ := List.mem_map.1 hd
  intro e he
  exact h x hx e (staysH_sub x.l es hes e (List.mem_filter.1 he).1)
theorem all4_plain {ls : List Lv} {d : Sq} (hd : d ∈ all4 ls) : ∃ s ∈ allP (ls.map plL), s.x.id = d.2.1.1.x.id ∧ s.told = evD d.2.2.2 := by
  obtain ⟨x, hx, hd⟩ := List.mem_flatMap.1 hd
  obtain ⟨es, hes, rfl⟩ := List.mem_map.1 hd
  have h1 : tellE es ∈ (lifeH x.p x.l).map idT := by rw [life_idT]; exact List.mem_map.2 ⟨es, hes, rfl⟩
  obtain ⟨d', hd', e⟩ := List.mem_map.1 h1
  refine ⟨pdS d', List.mem_flatMap.2 ⟨plL x, List.mem_map.2 ⟨x, hx, rfl⟩, by rw [← life_map]; exact List.mem_map.2 ⟨d', hd', rfl⟩⟩, ?_, ?_⟩
  · exact congrArg Prod.fst e
  · have := congrArg Prod.snd e
    exact congrArg evD this
attribute [local irreducible] gF ordH tellL staysH checkP
theorem law_forder (ls : List Lv) (la : Option Addr) (lc : Nat) (sn : List Sn) (sa : Option Addr) (sc : Nat) (id : Nat) (w : World) (hlc : ls.length ≤ lc) (hsc : sn.length ≤ sc) (hl : Sl w 3 ls.length (.slice la ls.length lc) (elL ls)) (hlw : ∀ x ∈ ls, LvO w x) (hs : Sl w 6 sn.length (.slice sa sn.length sc) (elN sn)) (hsw : ∀ x ∈ sn, SnW w x) :
    Calls Try.prog 6 #[.slice la ls.length lc, .slice sa sn.length sc, .int .u64 (id : Int)] w (Ret fun v w' => v = .bool true ∧ Below w.heap.size w w') := by
  have H := St.init w
  have HLW := Lib.hid hlw
  have HSW := Lib.hid hsw
  obtain ⟨n, hn⟩ : ∃ n, ls.length = n := ⟨_, rfl⟩
  obtain ⟨m, hm⟩ : ∃ m, sn.length = m := ⟨_, rfl⟩
  have HN := Lib.hid hn
  have HM := Lib.hid hm
  obtain ⟨e, he⟩ : ∃ e, gF ls m = e := ⟨_, rfl⟩
  have HG := Lib.hid he
  rw [hn] at hl hlc ⊢
  rw [hm] at hs hsc ⊢
  obtain ⟨_, _, _, hmm, _⟩ := (show ∃ a c, _ from hs)
  unfold maxLen at hmm
  clear hlw hsw
  cases e
  case true =>
    clear he hn hm
    go_enter Try.func6, Try.ntmps6
    go_wp2_with (first | (go_at_call 9; (with_reducible refine (great29_is ls la lc n HN.out sa sc m hmm _ HG.out _ (hl.grow H.below) (fun x hx => (HLW.out x hx).grow H.below)).mono ?_); rintro e w1 ⟨v, rfl, hr⟩; obtain ⟨rfl, hb1⟩ := hr; replace H := H.grow hb1; clear hb1) | (go_at_call 10; (with_reducible refine (aw29_ok _).mono ?_); rintro e w1 ⟨v, rfl, hr⟩; obtain ⟨rfl, hb1⟩ := hr; replace H := H.grow hb1; clear hb1) | (with_reducible refine wpl rfl (ldQ (ty := 37) rfl ?_); first | (with_reducible refine (Stp.ldo rfl agg37 rfl H (by assumption) (by assumption) ?_); simp only [pS]) | (with_reducible refine (Stp.ldc rfl agg37 rfl H mR cE ?_); simp only [pS])) | (with_reducible refine wpl rfl (ldQ (ty := 22) rfl ?_); first | (with_reducible refine (Stp.ldo rfl agg22 rfl H (by assumption) (by assumption) ?_); simp only [pS]) | (with_reducible refine (Stp.ldc rfl agg22 rfl H mR cE ?_); simp only [pS])))
    go_ret
    exact ⟨_, rfl, rfl, H.below⟩
  have hgo := gF_out he
  rw [hn] at hgo
  obtain ⟨hn12, hm60, hgx⟩ := hgo
  have hnb : n ≤ 1000 := by omega
  have hnB : n ≤ 1000000 := by omega
  have hmB : m ≤ 1000000 := by omega
  have HLE : Hid (∀ x ∈ ls, x.l.length ≤ 1000) := Lib.hid (fun x hx => by have := (hgx x hx).1; omega)
  have HLV : Hid (∀ x ∈ ls, LvW w x) := Lib.hid (fun x hx => (HLW.out x hx).w (hgx x hx).1 (hgx x hx).2)
  have HEV : Hid (∀ e ∈ ordH id (tellL ls), EvG w e) := Lib.hid (ord_ev (fun x hx => (HLW.out x hx).ev))
  have HWF : Hid (∀ e ∈ ordH id (tellL ls), wfE e) := Lib.hid (ord_wf (fun x hx => (HLW.out x hx).wf))
  clear he hn hm hgx
  obtain ⟨z, hz⟩ : ∃ z, checkP (ls.map plL) (sn.map psS) = z := ⟨_, rfl⟩
  have HZ := Lib.hid hz
  clear hz
  by_cases hz0 : z ≠ 0
  · have hzi : ((z : Int) != 0) = true := by simp; omega
    clear hz0
    go_enter Try.func6, Try.ntmps6
    go_wp2_with (first | (go_at_call 9; (with_reducible refine (great29_is ls la lc n HN.out sa sc m hmm _ HG.out _ (hl.grow H.below) (fun x hx => (HLW.out x hx).grow H.below)).mono ?_); rintro e w1 ⟨v, rfl, hr⟩; obtain ⟨rfl, hb1⟩ := hr; replace H := H.grow hb1; clear hb1) | (go_at_call 16; (with_reducible refine (chk_is ls la lc n HN.out sn sa sc m HM.out z HZ.out _ (hl.grow H.below) (fun x hx => (HLV.out x hx).grow H.below) hnB (hs.grow H.below) (fun x hx => (HSW.out x hx).grow H.below) hmB).mono ?_); rintro e w1 ⟨v, rfl, hr⟩; obtain ⟨rfl, hb1⟩ := hr; replace H := H.grow hb1; clear hb1) | (go_at_call 10; (with_reducible refine (aw29_ok _).mono ?_); rintro e w1 ⟨v, rfl, hr⟩; obtain ⟨rfl, hb1⟩ := hr; replace H := H.grow hb1; clear hb1) | (with_reducible refine wpl rfl (ldQ (ty := 37) rfl ?_); first | (with_reducible refine (Stp.ldo rfl agg37 rfl H (by assumption) (by assumption) ?_); simp only [pS]) | (with_reducible refine (Stp.ldc rfl agg37 rfl H mR cE ?_); simp only [pS])) | (with_reducible refine wpl rfl (ldQ (ty := 22) rfl ?_); first | (with_reducible refine (Stp.ldo rfl agg22 rfl H (by assumption) (by assumption) ?_); simp only [pS]) | (with_reducible refine (Stp.ldc rfl agg22 rfl H mR cE ?_); simp only [pS])))
    go_ret
    exact ⟨_, rfl, rfl, H.below⟩
  replace hz0 : z = 0 := by omega
  have HZ0 := Lib.hid hz0
  have hzi : ((z : Int) != 0) = false := by simp; omega
  clear hz0
  go_enter Try.func6, Try.ntmps6
  go_upto_region 5 with (first | (go_at_call 9; (with_reducible refine (great29_is ls la lc n HN.out sa sc m hmm _ HG.out _ (hl.grow H.below) (fun x hx => (HLW.out x hx).grow H.below)).mono ?_); rintro e w1 ⟨v, rfl, hr⟩; obtain ⟨rfl, hb1⟩ := hr; replace H := H.grow hb1; clear hb1) | (go_at_call 16; (with_reducible refine (chk_is ls la lc n HN.out sn sa sc m HM.out z HZ.out _ (hl.grow H.below) (fun x hx => (HLV.out x hx).grow H.below) hnB (hs.grow H.below) (fun x hx => (HSW.out x hx).grow H.below) hmB).mono ?_); rintro e w1 ⟨v, rfl, hr⟩; obtain ⟨rfl, hb1⟩ := hr; replace H := H.grow hb1; clear hb1) | (go_at_call 18; (with_reducible refine (order_ok29 ls la lc n id HN.out hnb _ (hl.grow H.below) (fun x hx => (HLW.out x hx).grow H.below) HLE.out).mono ?_); rintro e w1 ⟨v, rfl, hr⟩; obtain ⟨⟨oa, oc, A, rfl, hA, hin⟩, hb1⟩ := hr; replace H := H.grow hb1; have HA := Lib.hid hA; have HIN := Lib.hid hin; clear hb1 hA hin) | (go_at_call 12; (with_reducible refine (stays29_ok ls la lc n HN.out hnb _ (hl.grow H.below) (fun x hx => (HLW.out x hx).grow H.below) HLE.out).mono ?_); rintro e wS ⟨v, rfl, hr⟩; obtain ⟨⟨R, ra, rc, G2, rfl, hR, hG, hRG⟩, hb1⟩ := hr; replace HIN := Lib.hid (HIN.out.grow hb1); have HR := Lib.hid hR; have HSL := hRG.1.sl; have HR2 := Lib.hid hRG.2; have HBS := Lib.hid (H.below.trans (hb1.mono H.below.size)); clear H; have H := St.init wS; obtain ⟨n1, hn1⟩ : ∃ n1, R.length = n1 := ⟨_, rfl⟩; have HN1 := Lib.hid hn1; rw [hn1] at HSL ⊢; clear hb1 hR hG hRG hn1) | (with_reducible refine wpl rfl (ldQ (ty := 37) rfl ?_); first | (with_reducible refine (Stp.ldo rfl agg37 rfl H (by assumption) (by assumption) ?_); simp only [pS]) | (with_reducible refine (Stp.ldc rfl agg37 rfl H mR cE ?_); simp only [pS])) | (with_reducible refine wpl rfl (ldQ (ty := 22) rfl ?_); first | (with_reducible refine (Stp.ldo rfl agg22 rfl H (by assumption) (by assumption) ?_); simp only [pS]) | (with_reducible refine (Stp.ldc rfl agg22 rfl H mR cE ?_); simp only [pS])))
  have hAc : A ≤ oc := by have h : (ordH id (tellL ls)).length ≤ oc := HIN.out.2; rw [HA.out] at h; exact h
  have HQM : Hid (∀ y ∈ R, ryd y ∈ all4 ls) := Lib.hid (fun y hy => by rw [← HR.out]; exact List.mem_map.2 ⟨y, hy, rfl⟩)
  obtain ⟨_, _, _, hmc, _⟩ := (show ∃ a c, _ from HSL)
  unfold maxLen at hmc
  go_wp2_with (first | (with_reducible refine wpl rfl (ldQ (ty := 37) rfl ?_); first | (with_reducible refine (Stp.ldo rfl agg37 rfl H (by assumption) (by assumption) ?_); simp only [pS]) | (with_reducible refine (Stp.ldc rfl agg37 rfl H mR cE ?_); simp only [pS])) | (with_reducible refine wpl rfl (ldQ (ty := 22) rfl ?_); first | (with_reducible refine (Stp.ldo rfl agg22 rfl H (by assumption) (by assumption) ?_); simp only [pS]) | (with_reducible refine (Stp.ldc rfl agg22 rfl H mR cE ?_); simp only [pS])))
  go_loopw [9] (fun i wr => ∃ q : Nat, q ≤ n1 ∧ i = .int .i64 q ∧ St wS.heap.size wS wr []) (fun i _ => n1 - (intOf i).toNat)
  case atStart => exact ⟨0, Nat.zero_le _, rfl, H⟩
  case round =>
    clear H
    obtain ⟨q, hq, rfl, H⟩ := hrel
    by_cases hlt : q < n1
    · have hl2 : q < R.length := by rw [HN1.out]; exact hlt
      obtain ⟨b2, o2, rfl, hb2⟩ := HSL.addr (by omega)
      have hc2 := HSL.cell hlt
      rw [elR_at hl2] at hc2
      have hmy := List.getElem_mem hl2
      obtain ⟨y, hy⟩ : ∃ y, R[q] = y := ⟨_, rfl⟩
      rw [hy] at hc2 hmy
      have HYT : Hid (Sl wS 9 y.y.told.length (.slice y.y.ta y.y.told.length y.y.tc) (elE y.y.told)) := Lib.hid ((HR2.out y hmy).2.slE rfl)
      have hmq := HQM.out y hmy
      have HEY : Hid (∀ e ∈ y.y.told, EvG w e) := Lib.hid (all4_told (fun x hx => (HLW.out x hx).ev) _ hmq)
      have HWY : Hid (∀ e ∈ y.y.told, wfE e) := Lib.hid (all4_told (fun x hx => (HLW.out x hx).wf) _ hmq)
      have hid1 : wS.cell? ⟨b2, o2 + q * 11 + 2, none⟩ = some (.int .u64 (y.y.e.1.x.id : Int)) := hc2 2 (by omega)
      have htd1 : wS.cell? ⟨b2, o2 + q * 11 + 7, none⟩ = some (.slice y.y.ta y.y.told.length y.y.tc) := hc2 7 (by omega)
      have kli : (q : Int) < (n1 : Int) := by omega
      clear hmy hy hl2 hc2
      by_cases hid : y.y.e.1.x.id = id
      · have hii : ((y.y.e.1.x.id : Int) == (id : Int)) = true := by simp [hid]
        have HBG : Hid (begD (evD y.y.told) (evD (ordH id (tellL ls))) = true) := Lib.hid (by
          obtain ⟨s, hs1, hs2, hs3⟩ := all4_plain hmq
          have h1 := order_law (HZ.out.trans HZ0.out) hs1 (hs2.trans hid)
          rw [hs3] at h1
          rw [ordH_plain]; exact h1)
        clear hid hmq
        go_wp2_with (first | (go_at_call 14; (with_reducible refine (begins_n y.y.ta oa y.y.tc oc y.y.told (ordH id (tellL ls)) rfl HA.out true HBG.out hAc _ (HYT.out.grow H.below) ((HIN.out.slE HA.out).grow H.below) (fun e he => (HEY.out e he).grow (HBS.out.trans (H.below.mono HBS.out.size))) (fun e he => (HEV.out e he).grow (HBS.out.trans (H.below.mono HBS.out.size))) HWY.out HWF.out).mono ?_); rintro e w1 ⟨v, rfl, hr⟩; obtain ⟨rfl, hb1⟩ := hr; replace H := H.grow hb1; clear hb1) | (with_reducible refine wpl rfl (ldQ (ty := 37) rfl ?_); first | (with_reducible refine (Stp.ldo rfl agg37 rfl H (by assumption) (by assumption) ?_); simp only [pS]) | (with_reducible refine (Stp.ldc rfl agg37 rfl H mR cE ?_); simp only [pS])) | (with_reducible refine wpl rfl (ldQ (ty := 22) rfl ?_); first | (with_reducible refine (Stp.ldo rfl agg22 rfl H (by assumption) (by assumption) ?_); simp only [pS]) | (with_reducible refine (Stp.ldc rfl agg22 rfl H mR cE ?_); simp only [pS])))
        go_roundw
        case rel => exact ⟨q + 1, by omega, by go_num, H⟩
        case measure => simp [intOf]; omega
      · have hii : ((y.y.e.1.x.id : Int) == (id : Int)) = false := by simp; omega
        clear hid hmq
        go_wp2_with (first | (with_reducible refine wpl rfl (ldQ (ty := 37) rfl ?_); first | (with_reducible refine (Stp.ldo rfl agg37 rfl H (by assumption) (by assumption) ?_); simp only [pS]) | (with_reducible refine (Stp.ldc rfl agg37 rfl H mR cE ?_); simp only [pS])) | (with_reducible refine wpl rfl (ldQ (ty := 22) rfl ?_); first | (with_reducible refine (Stp.ldo rfl agg22 rfl H (by assumption) (by assumption) ?_); simp only [pS]) | (with_reducible refine (Stp.ldc rfl agg22 rfl H mR cE ?_); simp only [pS])))
        go_roundw
        case rel => exact ⟨q + 1, by omega, by go_num, H⟩
        case measure => simp [intOf]; omega
    · obtain rfl : q = n1 := by omega
      go_wp2_with (first | (go_at_call 10; (with_reducible refine (aw29_ok _).mono ?_); rintro e w1 ⟨v, rfl, hr⟩; obtain ⟨rfl, hb1⟩ := hr; replace H := H.grow hb1; clear hb1) | (with_reducible refine wpl rfl (ldQ (ty := 37) rfl ?_); first | (with_reducible refine (Stp.ldo rfl agg37 rfl H (by assumption) (by assumption) ?_); simp only [pS]) | (with_reducible refine (Stp.ldc rfl agg37 rfl H mR cE ?_); simp only [pS])) | (with_reducible refine wpl rfl (ldQ (ty := 22) rfl ?_); first | (with_reducible refine (Stp.ldo rfl agg22 rfl H (by assumption) (by assumption) ?_); simp only [pS]) | (with_reducible refine (Stp.ldc rfl agg22 rfl H mR cE ?_); simp only [pS])))
      go_ret
      exact ⟨_, rfl, rfl, HBS.out.trans (H.below.mono HBS.out.size)⟩
set_option maxRecDepth 100000 in
theorem flatOrder_lifted (os : Os) (started : os.Started) (H : Type) (enc : TypeId × Value → H) :
    ReturnsInHanded {} Try.checked os 6 .any (Rows.flatOrderSpec.pre6 enc Try.prog Try.f6 Rows.flatOrderRow.domain false) (Rows.flatOrderSpec.post enc Try.prog Try.f6 false true false false) := by
  refine law_lifted (C := Try.checked) own started (by kernel_rfl) Try.func6 laidOut rfl Try.underlying4 rfl (by kernel_rfl) (fun ds hd => ?_)
    (ChangeSpec.witness6 (enc := enc) (C := Try.checked) false ⟨#[], #[.slice none 0 0, .slice none 0 0, .int .u64 0], []⟩ 8 (by kernel_rfl) (by kernel_rfl) (by kernel_rfl) (by kernel_rfl)) ?_
  · match ds, hd with
    | [d0, d1, d2], _ => exact ⟨rfl, rfl, rfl⟩
  intro W base args ds p hval hA
  rw [Try.params6] at hA hval
  obtain ⟨v0, vs0, d0, ds0, p0, q0, hargs, rfl, rfl, h0, r0⟩ := trodAll_cons hA
  obtain ⟨v1, vs1, d1, ds1, p1, q1, rfl, rfl, rfl, h1, r1⟩ := trodAll_cons r0
  obtain ⟨v2, vs2, d2, ds2, p2, q2, rfl, rfl, rfl, h2, r2⟩ := trodAll_cons r1
  obtain ⟨rfl, rfl, rfl⟩ := trodAll_nil r2
  obtain rfl : args = #[v0, v1, v2] := by cases args; simp_all
  obtain ⟨l0, a0, c0, rfl, hc0, hs0, hw0⟩ := open_ls (hval 0 30 v0 rfl rfl) h0
  obtain ⟨l1, a1, c1, rfl, hc1, hs1, hw1⟩ := open_sns (hval 1 44 v1 rfl rfl) h1
  obtain ⟨n2, rfl, hn2⟩ := open_u64 (hval 2 37 v2 rfl rfl) h2
  exact law_forder l0 a0 c0 l1 a1 c1 n2 W hc0 hc1 hs0 hw0 hs1 hw1
theorem flatOrder_over : Rows.flatOrderRow.holds Try.pinned (OpenSpec.ofChange Rows.flatOrderSpec) :=
  OpenClaim.holds_of_wide 6 Try.f6 rfl rfl rfl rfl rfl rfl rfl ⟨rfl, rfl, rfl, rfl, rfl⟩ rfl rfl rfl rfl rfl (by kernel_rfl) Try.func6 (by kernel_rfl)
    (of_decide_eq_true (by kernel_rfl)) (by unfold Func.isWrapper; first | (rw [if_pos (by decide +kernel)]; kernel_rfl) | (rw [if_neg (by decide +kernel)]; exact ⟨rfl, rfl⟩))
    (fun os started H enc _ => flatOrder_lifted os started H enc)
theorem flatOrder_holds : Rows.FlatOrderSaid := flatOrder_over
#print axioms flatOrder_holds
end Go.Proofs.Ytbepaafgcbgmfaa
