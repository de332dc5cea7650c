/- Layer 19's laws' script: commands that came in, opened; is there more than is looked at? No condition. -/
import Derived.Test.YtjghcmejmdllbaaSta8
import Derived.Test.YtjghcmejmdllbaaSta5
namespace Go.Proofs.Ytjghcmejmdllbaa
open Go.ChangeShapes Go.WideShapes Go.ChangeAt Go.RowKit Go.Maps
set_option linter.unusedVariables false
set_option linter.unusedSimpArgs false
set_option linter.unusedSectionVars false
set_option maxRecDepth 100000
set_option maxHeartbeats 4000000
/-- What any command that came in has. -/
structure wfK (W : World) (p : Cm × Hd) : Prop where
  c : wfC p.1
  x : CmG (Old W) W (.slice p.2.ba p.1.data.length p.2.bc) (.slice p.2.ma p.1.v.mem.length p.2.mc) (.slice p.2.la p.1.v.lvs.length p.2.lc) (.slice p.2.da p.1.v.ldr.length p.2.dc) p.1
  cap : p.1.data.length ≤ p.2.bc
theorem wfK.grow {w w' : World} {p : Cm × Hd} (h : wfK w p) (hb : Below w.heap.size w w') : wfK w' p := ⟨h.c, (h.x.grow hb).mono (fun g hg => Nat.lt_of_lt_of_le hg hb.size), h.cap⟩
section
variable {H : Type} {enc : TypeId × Value → H}
theorem cells_cmk {fuel : Nat} {W : World} {cs : List Value} {y : DataW H × List MemPlace} (hf : DataW.trod enc Try.prog W 0 (fun _ => true) true fuel 43 cs = some y) :
    ∃ p : Cm × Hd, cs = (cmH p.1 p.2).toList ∧ wfK W p := by
  obtain ⟨xs, n, _, _, hl, hx, hfl⟩ := DataW.trod_struct Try.underlying43 hf
  have hC43 : Try.prog.cellsOf 43 = 10 := by kernel_rfl
  have hC3 : Try.prog.cellsOf 3 = 1 := by kernel_rfl
  have hC22 : Try.prog.cellsOf 22 = 1 := by kernel_rfl
  have hC36 : Try.prog.cellsOf 36 = 2 := by kernel_rfl
  have hC37 : Try.prog.cellsOf 37 = 1 := by kernel_rfl
  have hC26 : Try.prog.cellsOf 26 = 4 := by kernel_rfl
  rw [hC43] at hl
  match cs, hl with
  | [c0, c1, c2, c3, c4, c5, c6, c7, c8, c9], _ =>
    match xs, hx with
    | [x0, x1, x2, x3, x4, x5], _ =>
      have h0 := hfl 0 _ rfl
      have h1 := hfl 1 _ rfl
      have h2 := hfl 2 _ rfl
      have h3 := hfl 3 _ rfl
      have h4 := hfl 4 _ rfl
      have h5 := hfl 5 _ rfl
      simp only [List.getElem_toArray, List.getElem_cons_zero, List.getElem_cons_succ, hC3, hC22, hC36, hC37, hC26, List.drop_zero, List.drop_succ_cons, List.take_succ_cons, List.take_zero, List.getElem?_cons_zero, List.getElem?_cons_succ] at h0 h1 h2 h3 h4 h5
      obtain ⟨k0, e0, _, w0⟩ := DataW.trod_int Try.underlying3 h0
      obtain ⟨p, q, e1, hp, hq⟩ := cells_pid h1
      obtain ⟨k2, e2, _, w2⟩ := DataW.trod_int Try.underlying22 h2
      obtain ⟨k3, e3, _, w3⟩ := DataW.trod_int Try.underlying22 h3
      obtain ⟨ba, bc, l, e4, hcap, hb, sb⟩ := cells_bs h4
      obtain ⟨v, ma, la, da, mc, lc, dc, e5, hv, sv⟩ := cells_vw h5
      have b2 := bounds_u64 w2
      have b3 := bounds_u64 w3
      simp only [vwC, List.toList_toArray, List.cons.injEq, and_true] at e0 e1 e2 e3 e4 e5
      obtain ⟨rfl, rfl⟩ := e1
      obtain ⟨rfl, rfl, rfl, rfl⟩ := e5
      subst e0 e2 e3 e4
      refine ⟨(⟨k0, (p, q), k2.toNat, k3.toNat, l, v⟩, ⟨ba, ma, la, da, bc, mc, lc, dc⟩), ?_, ⟨⟨hp, hq, by simp only; omega, by simp only; omega, hb, hv⟩, ⟨SlG.of_sl sb, sv⟩, hcap⟩⟩
      simp only [cmH, cmC]
      rw [show ((k2.toNat : Nat) : Int) = k2 by omega, show ((k3.toNat : Nat) : Int) = k3 by omega]
/-- Commands that came in. -/
theorem open_cms {W : World} {base : Nat} {v : Value} {d : DataW H} {p : List MemPlace} (hv : Value.okWide Try.prog W .any base 27 v) (h : DataW.Trod enc Try.prog W 0 (fun _ => true) true 27 v d p) :
    ∃ (l : List (Cm × Hd)) (va : Option Addr) (vc : Nat), v = .slice va l.length vc ∧ Sl W 10 l.length (.slice va l.length vc) (elK l) ∧ ∀ a ∈ l, wfK W a := by
  obtain ⟨n, E, hs, hE⟩ := open_sl Try.underlying27 (by kernel_rfl : Try.prog.cellsOf 43 = 10) (by omega) hv h
  obtain ⟨l, rfl, hl⟩ := collect (fun i (a : Cm × Hd) => E i = cmH a.1 a.2 ∧ wfK W a) n (fun i hi => by
    obtain ⟨_, fuel, y, hf⟩ := hE i hi
    obtain ⟨a, e, hw⟩ := cells_cmk hf
    exact ⟨a, Array.toList_inj.1 e, hw⟩)
  obtain ⟨va, vc, rfl, hm, hc⟩ := hs
  refine ⟨l, va, vc, rfl, ⟨va, vc, rfl, hm, fun h0 => ?_⟩, fun a ha => ?_⟩
  · obtain ⟨b, off, e, hb, hh⟩ := hc h0
    exact ⟨b, off, e, hb, fun i hi j hj => by rw [hh i hi j hj, (hl i hi).1]; simp [elK, hi]⟩
  · obtain ⟨i, hi, rfl⟩ := List.getElem_of_mem ha
    exact (hl i hi).2
end
theorem any_take {α : Type} {l : List α} {p : α → Bool} {n k : Nat} (h : (l.take n).any p = false) (hk : k < l.length) (hn : k < n) : p l[k] = false := by
  rw [List.any_eq_false] at h
  have := h l[k] (List.mem_iff_getElem.2 ⟨k, by rw [List.length_take]; omega, by rw [List.getElem_take]⟩)
  simpa using this
theorem gC_sm {c : Cm} (h : gC c = false) : smC c := by
  unfold gC at h
  simp only [Bool.or_eq_false_iff, decide_eq_false_iff_not] at h
  exact ⟨by omega, gV_sm h.2⟩
theorem elK_at {l : List (Cm × Hd)} {k : Nat} (h : k < l.length) : elK l k = cmH l[k].1 l[k].2 := by simp [elK, h]
def gS (x : Vw) (l : List (Cm × Hd)) : Bool := ((l.take 80).any fun a => gC a.1) || gV x
attribute [local irreducible] gC gV
theorem great19_n (x : Vw) (ma la da : Option Addr) (mc lc dc : Nat) (va : Option Addr) (vc : Nat) (l : List (Cm × Hd)) (n : Nat) (hn : l.length = n) (w : World) (hs : Sl w 10 n (.slice va n vc) (elK l)) (hx : ∀ a ∈ l, wfK w a) (hv : VwG (Old w) w (.slice ma x.mem.length mc) (.slice la x.lvs.length lc) (.slice da x.ldr.length dc) x) :
    Calls Try.prog 12 #[.agg (vwC x ma la da mc lc dc), .slice va n vc] w (Ret fun v w' => v = .bool (gS x l) ∧ Below w.heap.size w w') := by
  have H := St.init w
  have HN := Lib.hid hn
  have HXX := Lib.hid hx
  obtain ⟨_, _, _, hm, _⟩ := id hs
  unfold maxLen at hm
  obtain ⟨ev, hev⟩ : ∃ e, gV x = e := ⟨_, rfl⟩
  have HEV := Lib.hid hev
  clear hn hx hev
  simp only [vwC]
  go_enter Try.func12, Try.ntmps12
  go_wp2_with (first | (with_reducible refine wpl rfl (Stp.box 2 rfl rfl rfl H ?_); clear H; intro g2 w1 H; simp only [pS]; simp only [pE, nC, pS] at H) | (with_reducible refine wpl rfl (Stp.ldr rfl agg43 size43 rfl H mR sZ ?_); simp only [pS]) | (with_reducible refine wpl rfl (Stp.ldl rfl agg43 size43 rfl H mR (by simp) ?_); simp only [pS]; simp only [List.drop_succ_cons, List.drop_zero, List.take_succ_cons, List.take_zero]) | (with_reducible refine wpl rfl (Stp.ldor rfl agg43 size43 rfl H (by assumption) sZ (by assumption) ?_); simp only [pS]) | (with_reducible refine wpl rfl (Stp.ldr rfl agg26 size26 rfl H mR sZ ?_); simp only [pS]) | (with_reducible refine wpl rfl (Stp.ldl rfl agg26 size26 rfl H mR (by simp) ?_); simp only [pS]; simp only [List.drop_succ_cons, List.drop_zero, List.take_succ_cons, List.take_zero]) | (with_reducible refine wpl rfl (Stp.ldor rfl agg26 size26 rfl H (by assumption) sZ (by assumption) ?_); simp only [pS]))
  go_loopw [5] (fun i wr => ∃ k : Nat, k ≤ n ∧ k ≤ 80 ∧ i = .int .i64 k ∧ Hid ((l.take k).any (fun a => gC a.1) = false) ∧ St w.heap.size w wr [row 26 g2 #[.int .u64 (x.id : Int), .slice ma x.mem.length mc, .slice la x.lvs.length lc, .slice da x.ldr.length dc]]) (fun i _ => 80 - (intOf i).toNat)
  case atStart => exact ⟨0, Nat.zero_le _, Nat.zero_le _, rfl, Lib.hid (by simp), H⟩
  case round =>
    clear H
    obtain ⟨k, hk, hk40, rfl, HT, H⟩ := hrel
    by_cases hlt : k < n
    · have kli : (k : Int) < (n : Int) := by omega
      by_cases h40 : k < 80
      · have k40i : (k : Int) < 80 := by omega
        have hl1 : k < l.length := by rw [HN.out]; exact hlt
        obtain ⟨b1, o1, rfl, hb1⟩ := hs.addr (by omega)
        have hc1 := hs.cell hlt
        rw [elK_at hl1] at hc1
        have hs1 := List.take_succ_eq_append_getElem hl1
        have hmm := List.getElem_mem hl1
        obtain ⟨⟨c, e⟩, ha⟩ : ∃ a, l[k] = a := ⟨_, rfl⟩
        rw [ha] at hc1 hs1 hmm
        have HX := Lib.hid (HXX.out _ hmm).x
        have HS1 := Lib.hid hs1
        simp only [cmH, cmC] at hc1
        clear hs1 ha
        cases he : gC c
        · have HE := Lib.hid he
          clear he hmm hl1
          go_wp2_with (first | (go_at_call 58; (with_reducible refine (rcgreat_is c e.ba e.ma e.la e.da e.bc e.mc e.lc e.dc _ _ HE.out (HX.out.grow H.below)).mono ?_); rintro e w1 ⟨v, rfl, hr⟩; obtain ⟨rfl, hb1⟩ := hr; replace H := H.grow hb1; clear hb1) | (with_reducible refine wpl rfl (Stp.box 2 rfl rfl rfl H ?_); clear H; intro g2 w1 H; simp only [pS]; simp only [pE, nC, pS] at H) | (with_reducible refine wpl rfl (Stp.ldr rfl agg43 size43 rfl H mR sZ ?_); simp only [pS]) | (with_reducible refine wpl rfl (Stp.ldl rfl agg43 size43 rfl H mR (by simp) ?_); simp only [pS]; simp only [List.drop_succ_cons, List.drop_zero, List.take_succ_cons, List.take_zero]) | (with_reducible refine wpl rfl (Stp.ldor rfl agg43 size43 rfl H (by assumption) sZ (by assumption) ?_); simp only [pS]) | (with_reducible refine wpl rfl (Stp.ldr rfl agg26 size26 rfl H mR sZ ?_); simp only [pS]) | (with_reducible refine wpl rfl (Stp.ldl rfl agg26 size26 rfl H mR (by simp) ?_); simp only [pS]; simp only [List.drop_succ_cons, List.drop_zero, List.take_succ_cons, List.take_zero]) | (with_reducible refine wpl rfl (Stp.ldor rfl agg26 size26 rfl H (by assumption) sZ (by assumption) ?_); simp only [pS]))
          go_roundw
          case rel => exact ⟨k + 1, by omega, by omega, by go_num, Lib.hid (by rw [HS1.out, List.any_append, HT.out]; simp [HE.out]), H⟩
          case measure => simp [intOf]; omega
        · have HE := Lib.hid he
          have HV : Hid (gS x l = true) := Lib.hid (by
            unfold gS
            rw [List.any_eq_true.2 ⟨(c, e), (by
              have h2 : (c, e) ∈ l.take (k + 1) := by rw [HS1.out]; simp
              exact List.take_subset_take_left l (show k + 1 ≤ 80 by omega) h2), HE.out⟩]
            rfl)
          clear he hmm hl1
          go_wp2_with (first | (go_at_call 58; (with_reducible refine (rcgreat_is c e.ba e.ma e.la e.da e.bc e.mc e.lc e.dc _ _ HE.out (HX.out.grow H.below)).mono ?_); rintro e w1 ⟨v, rfl, hr⟩; obtain ⟨rfl, hb1⟩ := hr; replace H := H.grow hb1; clear hb1) | (with_reducible refine wpl rfl (Stp.box 2 rfl rfl rfl H ?_); clear H; intro g2 w1 H; simp only [pS]; simp only [pE, nC, pS] at H) | (with_reducible refine wpl rfl (Stp.ldr rfl agg43 size43 rfl H mR sZ ?_); simp only [pS]) | (with_reducible refine wpl rfl (Stp.ldl rfl agg43 size43 rfl H mR (by simp) ?_); simp only [pS]; simp only [List.drop_succ_cons, List.drop_zero, List.take_succ_cons, List.take_zero]) | (with_reducible refine wpl rfl (Stp.ldor rfl agg43 size43 rfl H (by assumption) sZ (by assumption) ?_); simp only [pS]) | (with_reducible refine wpl rfl (Stp.ldr rfl agg26 size26 rfl H mR sZ ?_); simp only [pS]) | (with_reducible refine wpl rfl (Stp.ldl rfl agg26 size26 rfl H mR (by simp) ?_); simp only [pS]; simp only [List.drop_succ_cons, List.drop_zero, List.take_succ_cons, List.take_zero]) | (with_reducible refine wpl rfl (Stp.ldor rfl agg26 size26 rfl H (by assumption) sZ (by assumption) ?_); simp only [pS]))
          go_ret
          exact ⟨_, rfl, by rw [HV.out]; rfl, H.below⟩
      · obtain rfl : k = 80 := by omega
        have k40i : ¬ ((80 : Nat) : Int) < 80 := by omega
        have HV : Hid (gS x l = ev) := Lib.hid (by unfold gS; rw [HT.out, HEV.out]; rfl)
        go_wp2_with (first | (go_at_call 27; (with_reducible refine (rgreat_is x ma la da mc lc dc _ _ HEV.out (hv.grow H.below)).mono ?_); rintro e w1 ⟨v, rfl, hr⟩; obtain ⟨rfl, hb1⟩ := hr; replace H := H.grow hb1; clear hb1) | (with_reducible refine wpl rfl (Stp.box 2 rfl rfl rfl H ?_); clear H; intro g2 w1 H; simp only [pS]; simp only [pE, nC, pS] at H) | (with_reducible refine wpl rfl (Stp.ldr rfl agg43 size43 rfl H mR sZ ?_); simp only [pS]) | (with_reducible refine wpl rfl (Stp.ldl rfl agg43 size43 rfl H mR (by simp) ?_); simp only [pS]; simp only [List.drop_succ_cons, List.drop_zero, List.take_succ_cons, List.take_zero]) | (with_reducible refine wpl rfl (Stp.ldor rfl agg43 size43 rfl H (by assumption) sZ (by assumption) ?_); simp only [pS]) | (with_reducible refine wpl rfl (Stp.ldr rfl agg26 size26 rfl H mR sZ ?_); simp only [pS]) | (with_reducible refine wpl rfl (Stp.ldl rfl agg26 size26 rfl H mR (by simp) ?_); simp only [pS]; simp only [List.drop_succ_cons, List.drop_zero, List.take_succ_cons, List.take_zero]) | (with_reducible refine wpl rfl (Stp.ldor rfl agg26 size26 rfl H (by assumption) sZ (by assumption) ?_); simp only [pS]))
        go_ret
        exact ⟨_, rfl, by rw [HV.out]; rfl, H.below⟩
    · obtain rfl : k = n := by omega
      have HV : Hid (gS x l = ev) := Lib.hid (by
        have := HT.out
        unfold gS
        rw [List.take_of_length_le (by rw [HN.out]; omega)] at this ⊢
        rw [this, HEV.out]; rfl)
      go_wp2_with (first | (go_at_call 27; (with_reducible refine (rgreat_is x ma la da mc lc dc _ _ HEV.out (hv.grow H.below)).mono ?_); rintro e w1 ⟨v, rfl, hr⟩; obtain ⟨rfl, hb1⟩ := hr; replace H := H.grow hb1; clear hb1) | (with_reducible refine wpl rfl (Stp.box 2 rfl rfl rfl H ?_); clear H; intro g2 w1 H; simp only [pS]; simp only [pE, nC, pS] at H) | (with_reducible refine wpl rfl (Stp.ldr rfl agg43 size43 rfl H mR sZ ?_); simp only [pS]) | (with_reducible refine wpl rfl (Stp.ldl rfl agg43 size43 rfl H mR (by simp) ?_); simp only [pS]; simp only [List.drop_succ_cons, List.drop_zero, List.take_succ_cons, List.take_zero]) | (with_reducible refine wpl rfl (Stp.ldor rfl agg43 size43 rfl H (by assumption) sZ (by assumption) ?_); simp only [pS]) | (with_reducible refine wpl rfl (Stp.ldr rfl agg26 size26 rfl H mR sZ ?_); simp only [pS]) | (with_reducible refine wpl rfl (Stp.ldl rfl agg26 size26 rfl H mR (by simp) ?_); simp only [pS]; simp only [List.drop_succ_cons, List.drop_zero, List.take_succ_cons, List.take_zero]) | (with_reducible refine wpl rfl (Stp.ldor rfl agg26 size26 rfl H (by assumption) sZ (by assumption) ?_); simp only [pS]))
      go_ret
      exact ⟨_, rfl, by rw [HV.out]; rfl, H.below⟩
end Go.Proofs.Ytjghcmejmdllbaa
