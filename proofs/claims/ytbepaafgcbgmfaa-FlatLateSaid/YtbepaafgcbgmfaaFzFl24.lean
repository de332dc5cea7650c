/- The statement FlatStays of layer 29 (flat): the law's walk; the bounds stand in it. -/
import Derived.Test.YtbepaafgcbgmfaaFz23
import Derived.Test.YtbepaafgcbgmfaaFz25
import Derived.Test.YtbepaafgcbgmfaaFz27
namespace Go.Proofs.Ytbepaafgcbgmfaa
open Go.ChangeShapes Go.WideShapes Go.ChangeAt Go.RowKit Go.Maps Go.Deep
set_option linter.unusedVariables false
set_option linter.unusedSimpArgs false
set_option linter.unusedSectionVars false
set_option maxRecDepth 100000
set_option maxHeartbeats 4000000
theorem two_lives {w : World} {g n m : Nat} {a b : List Eh} {aa ab : Option Addr} {ca cb : Nat} (hn : a.length = n) (hm : b.length = m) (h : rowAt w g = some #[.int .u16 0, .int .u32 0, .slice aa n ca, .int .u16 0, .int .u32 0, .slice ab m cb]) : Sl w 3 2 (.slice (some ⟨g, 0, none⟩) 2 2) (elL [⟨(0, 0), a, aa, ca⟩, ⟨(0, 0), b, ab, cb⟩]) := by
  subst hn hm
  refine Sl.of_row h (by decide) (fun i hi j hj => ?_)
  have hi' : i = 0 ∨ i = 1 := by omega
  have hj' : j = 0 ∨ j = 1 ∨ j = 2 := by omega
  rcases hi' with rfl | rfl <;> rcases hj' with rfl | rfl | rfl <;> rfl
theorem one_life {w : World} {g n : Nat} {a : List Eh} {aa : Option Addr} {ca : Nat} (hn : a.length = n) (h : rowAt w g = some #[.int .u16 0, .int .u32 0, .slice aa n ca]) : Sl w 3 1 (.slice (some ⟨g, 0, none⟩) 1 1) (elL [⟨(0, 0), a, aa, ca⟩]) := by
  subst hn
  refine Sl.of_row h (by decide) (fun i hi j hj => ?_)
  obtain rfl : i = 0 := by omega
  have hj' : j = 0 ∨ j = 1 ∨ j = 2 := by omega
  rcases hj' with rfl | rfl | rfl <;> rfl
theorem two_o {w : World} {x y : Lv} (hx : LvO w x) (hy : LvO w y) : ∀ z ∈ [x, y], LvO w z := by
  intro z hz
  simp only [List.mem_cons, List.not_mem_nil, or_false] at hz
  rcases hz with rfl | rfl
  · exact hx
  · exact hy
theorem one_o {w : World} {x : Lv} (hx : LvO w x) : ∀ z ∈ [x], LvO w z := by
  intro z hz
  obtain rfl := List.mem_singleton.1 hz
  exact hx
theorem one_n {a : List Eh} {aa : Option Addr} {ca n : Nat} (hn : a.length = n) (h : n ≤ 1000) : ∀ z ∈ [(⟨(0, 0), a, aa, ca⟩ : Lv)], z.l.length ≤ 1000 := by
  intro z hz
  obtain rfl := List.mem_singleton.1 hz
  show a.length ≤ 1000
  omega
theorem stays_n (va : Value) (l : List Eh) (n : Nat) (hn : l.length = n) (w : World) (hs : Sl w 9 n va (elE l)) (hl : n ≤ 1000) : Calls Try.prog 11 #[va] w (Ret fun v w' => StaysP w w' v (staysH l) ∧ Below w.heap.size w w') := by
  subst hn; exact stays_ok va l w hs hl
theorem begins_n (aa ab : Option Addr) (ca cb : Nat) (a b : List Eh) {n m : Nat} (hn : a.length = n) (hm : b.length = m) (r0 : Bool) (hr0 : begD (evD a) (evD b) = r0) (hcap : m ≤ cb) (w : World) (ha : Sl w 9 n (.slice aa n ca) (elE a)) (hb : Sl w 9 m (.slice ab m cb) (elE b)) (hea : ∀ e ∈ a, EvG w e) (heb : ∀ e ∈ b, EvG w e) (hwa : ∀ e ∈ a, wfE e) (hwb : ∀ e ∈ b, wfE e) :
    Calls Try.prog 14 #[.slice aa n ca, .slice ab m cb] w (Ret fun v w' => v = .bool r0 ∧ Below w.heap.size w w') := by
  subst hn hm; exact begins_is aa ab ca cb a b r0 hr0 hcap w ha hb hea heb hwa hwb
theorem nil_sl {w : World} {size c : Nat} {E : Nat → Array Value} : Sl w size 0 (.slice none 0 c) E := ⟨none, c, rfl, by decide, fun h => absurd h (Nat.lt_irrefl _)⟩
theorem all4_one (a : List Eh) (aa : Option Addr) (ca : Nat) : all4 [⟨(0, 0), a, aa, ca⟩] = life4 (0, 0) a := by unfold all4; simp
theorem len_same {I : List Inn} {R : List Ry} {a : List Eh} {aa : Option Addr} {ca : Nat} (hI : I.map (·.es) = staysH a) (hR : R.map ryd = all4 [⟨(0, 0), a, aa, ca⟩]) : R.length = I.length := by
  have h1 := congrArg List.length hI
  have h2 := congrArg List.length hR
  rw [all4_one] at h2
  unfold life4 at h2
  simp only [List.length_map] at h1 h2
  omega
theorem all_same {I : List Inn} {R : List Ry} {a : List Eh} {aa : Option Addr} {ca : Nat} (hI : I.map (·.es) = staysH a) (hR : R.map ryd = all4 [⟨(0, 0), a, aa, ca⟩]) {k : Nat} (h1 : k < I.length) (h2 : k < R.length) : R[k].y.all = I[k].es := by
  have e1 : (I.map (·.es))[k]? = some I[k].es := by rw [List.getElem?_map, List.getElem?_eq_getElem h1]; rfl
  have e2 : (R.map ryd)[k]? = some (ryd R[k]) := by rw [List.getElem?_map, List.getElem?_eq_getElem h2]; rfl
  rw [hI] at e1
  rw [hR, all4_one] at e2
  unfold life4 at e2
  rw [List.getElem?_map, e1] at e2
  simp only [Option.map_some, Option.some.injEq] at e2
  have := congrArg (fun z : Sq => z.2.2.1) e2
  exact this.symm
attribute [local irreducible] staysH gF
theorem law_fstays (a b : List Eh) (aa ab : Option Addr) (ca cb : Nat) (w : World) (hca : a.length ≤ ca) (hcb : b.length ≤ cb) (ha : Sl w 9 a.length (.slice aa a.length ca) (elE a)) (hb : Sl w 9 b.length (.slice ab b.length cb) (elE b)) (hea : ∀ e ∈ a, EvG w e) (heb : ∀ e ∈ b, EvG w e) (hwa : ∀ e ∈ a, wfE e) (hwb : ∀ e ∈ b, wfE e) :
    Calls Try.prog 3 #[.slice aa a.length ca, .slice ab b.length cb] w (Ret fun v w' => v = .bool true ∧ Below w.heap.size w w') := by
  have H := St.init w
  have HOA : Hid (LvO w ⟨(0, 0), a, aa, ca⟩) := Lib.hid ⟨ha, hca, (show 0 < 65536 from by decide), (show 0 < 4294967296 from by decide), hea, hwa⟩
  have HOB : Hid (LvO w ⟨(0, 0), b, ab, cb⟩) := Lib.hid ⟨hb, hcb, (show 0 < 65536 from by decide), (show 0 < 4294967296 from by decide), heb, hwb⟩
  have HEA0 := Lib.hid hea
  have HEB0 := Lib.hid heb
  have HWA0 := Lib.hid hwa
  have HWB0 := Lib.hid hwb
  obtain ⟨n, hn⟩ : ∃ n, a.length = n := ⟨_, rfl⟩
  obtain ⟨m, hm⟩ : ∃ m, b.length = m := ⟨_, rfl⟩
  have HNA := Lib.hid hn
  have HNB := Lib.hid hm
  obtain ⟨e, he⟩ : ∃ e, gF [⟨(0, 0), a, aa, ca⟩, ⟨(0, 0), b, ab, cb⟩] 0 = e := ⟨_, rfl⟩
  have HG := Lib.hid he
  rw [hn] at ha hca ⊢
  rw [hm] at hb hcb ⊢
  clear hea heb hwa hwb hn hm
  cases e
  case true =>
    clear he
    go_enter Try.func3, Try.ntmps3
    go_wp2_with (first | (with_reducible refine wpl rfl (dQ 9 rfl ?_); with_reducible refine (Stp.build (v := (.agg #[.int .u16 0, .int .u32 0, .slice aa n ca])) 9 rfl rfl (fun W => by kernel_rfl) ?_); simp only [pS]) | (with_reducible refine wpl rfl (dQ 11 rfl ?_); with_reducible refine (Stp.build (v := (.agg #[.int .u16 0, .int .u32 0, .slice ab m cb])) 11 rfl rfl (fun W => by kernel_rfl) ?_); simp only [pS]) | (with_reducible refine wpl rfl (dQ 12 rfl ?_); with_reducible refine (Stp.bsl (e := 29) (cs := #[.int .u16 0, .int .u32 0, .slice aa n ca, .int .u16 0, .int .u32 0, .slice ab m cb]) 12 rfl rfl (fun W => by kernel_rfl) H ?_); clear H; intro g12 w1 H; simp only [pS]) | (go_at_call 9; (with_reducible refine (great29_is [⟨(0, 0), a, aa, ca⟩, ⟨(0, 0), b, ab, cb⟩] _ _ 2 rfl none 0 0 (by omega) _ HG.out _ (two_lives HNA.out HNB.out (H.getRow (t := 29) mE)) (two_o (HOA.out.grow H.below) (HOB.out.grow H.below))).mono ?_); rintro e w1 ⟨v, rfl, hr⟩; obtain ⟨rfl, hb1⟩ := hr; replace H := H.grow hb1; clear hb1) | (go_at_call 10; (with_reducible refine (aw29_ok _).mono ?_); rintro e w1 ⟨v, rfl, hr⟩; obtain ⟨rfl, hb1⟩ := hr; replace H := H.grow hb1; clear hb1))
    go_ret
    exact ⟨_, rfl, rfl, H.below⟩
  have hn1 : n ≤ 1000 := by
    unfold gF at he
    simp only [List.any_cons, Bool.or_eq_false_iff] at he
    have h2 := he.2.2.1
    unfold gL1 at h2
    simp only [Bool.or_eq_false_iff, decide_eq_false_iff_not] at h2
    have h3 := h2.1
    rw [HNA.out] at h3
    omega
  clear he
  go_enter Try.func3, Try.ntmps3
  go_upto_region 5 with (first | (with_reducible refine wpl rfl (dQ 9 rfl ?_); with_reducible refine (Stp.build (v := (.agg #[.int .u16 0, .int .u32 0, .slice aa n ca])) 9 rfl rfl (fun W => by kernel_rfl) ?_); simp only [pS]) | (with_reducible refine wpl rfl (dQ 11 rfl ?_); with_reducible refine (Stp.build (v := (.agg #[.int .u16 0, .int .u32 0, .slice ab m cb])) 11 rfl rfl (fun W => by kernel_rfl) ?_); simp only [pS]) | (with_reducible refine wpl rfl (dQ 12 rfl ?_); with_reducible refine (Stp.bsl (e := 29) (cs := #[.int .u16 0, .int .u32 0, .slice aa n ca, .int .u16 0, .int .u32 0, .slice ab m cb]) 12 rfl rfl (fun W => by kernel_rfl) H ?_); clear H; intro g12 w1 H; simp only [pS]) | (go_at_call 9; (with_reducible refine (great29_is [⟨(0, 0), a, aa, ca⟩, ⟨(0, 0), b, ab, cb⟩] _ _ 2 rfl none 0 0 (by omega) _ HG.out _ (two_lives HNA.out HNB.out (H.getRow (t := 29) mE)) (two_o (HOA.out.grow H.below) (HOB.out.grow H.below))).mono ?_); rintro e w1 ⟨v, rfl, hr⟩; obtain ⟨rfl, hb1⟩ := hr; replace H := H.grow hb1; clear hb1) | (go_at_call 11; (with_reducible refine (stays_n _ a n HNA.out _ (ha.grow H.below) hn1).mono ?_); rintro e wS ⟨v, rfl, hr⟩; obtain ⟨⟨I, oa, oc, G, rfl, hI, hG, hIG⟩, hb1⟩ := hr; replace H := H.new hb1 (innr_sound hG hIG) (fun g hg => (hG g hg).1); have HI := Lib.hid hI; obtain ⟨c0, hc0⟩ : ∃ c0, I.length = c0 := ⟨_, rfl⟩; have HC := Lib.hid hc0; rw [hc0]; clear hb1 hI hG hIG hc0) | (with_reducible refine wpl rfl (dQ 18 rfl ?_); with_reducible refine (Stp.build (v := (.agg #[.int .u16 0, .int .u32 0, .slice aa n ca])) 18 rfl rfl (fun W => by kernel_rfl) ?_); simp only [pS]) | (with_reducible refine wpl rfl (dQ 19 rfl ?_); with_reducible refine (Stp.bsl (e := 29) (cs := #[.int .u16 0, .int .u32 0, .slice aa n ca]) 19 rfl rfl (fun W => by kernel_rfl) H ?_); clear H; intro g19 w1 H; simp only [pS]) | (go_at_call 12; (with_reducible refine (stays29_ok [⟨(0, 0), a, aa, ca⟩] _ _ 1 rfl (by omega) _ (one_life HNA.out (H.getRow (t := 29) mE)) (one_o (HOA.out.grow H.below)) (one_n HNA.out hn1)).mono ?_); rintro e wS ⟨v, rfl, hr⟩; obtain ⟨⟨R, ra, rc, G2, rfl, hR, hG, hRG⟩, hb1⟩ := hr; replace H := H.new hb1 (rsr_sound hG hRG) (fun g hg => (hG g hg).1); have HR := Lib.hid hR; have hRC : R.length = c0 := (len_same HI.out hR).trans HC.out; have HRC := Lib.hid hRC; rw [hRC]; clear hb1 hR hG hRG hRC))
  have hI : InnG G wS (.slice oa I.length oc) I := H.get (r := InnG.res G _ I) mE
  have hRG : RsG G2 wS (.slice ra R.length rc) R := H.get (r := rsr G2 _ R) mE
  have HBS := Lib.hid H.below
  clear H
  have H := St.init wS
  have hS1' := hI.1.sl
  have hS2' := hRG.1.sl
  rw [HC.out] at hS1'
  rw [HRC.out] at hS2'
  have HI2 := Lib.hid hI.2
  have HR2 := Lib.hid hRG.2
  have HIL : Hid (staysH a = I.map (·.es)) := Lib.hid HI.out.symm
  clear hI hRG
  have hcc : ((c0 : Int) != (c0 : Int)) = false := by simp
  obtain ⟨_, _, _, hmc, _⟩ := id hS1'
  unfold maxLen at hmc
  go_wp2_with fail
  go_loopw [7] (fun i wr => ∃ k : Nat, k ≤ c0 ∧ i = .int .i64 k ∧ St wS.heap.size wS wr []) (fun i _ => c0 - (intOf i).toNat)
  case atStart => exact ⟨0, Nat.zero_le _, rfl, H⟩
  case round =>
    clear H
    obtain ⟨k, hk, rfl, H⟩ := hrel
    by_cases hlt : k < c0
    · have kli : (k : Int) < (c0 : Int) := by omega
      have h1 : k < I.length := by rw [HC.out]; exact hlt
      have h2 : k < R.length := by rw [HRC.out]; exact hlt
      obtain ⟨b1, o1, rfl, hb1⟩ := hS1'.addr (by omega)
      obtain ⟨b2, o2, rfl, hb2⟩ := hS2'.addr (by omega)
      have hc1 := hS1'.cell hlt 0 (by omega)
      have hc2 := hS2'.cell hlt 6 (by omega)
      rw [getD_at h1, Nat.mul_one, Nat.add_zero] at hc1
      rw [elR_at h2] at hc2
      have hm1 := List.getElem_mem h1
      have hm2 := List.getElem_mem h2
      have hes := all_same HI.out HR.out h1 h2
      obtain ⟨⟨es, ia, ic⟩, hy⟩ : ∃ y, I[k] = y := ⟨_, rfl⟩
      obtain ⟨⟨⟨q1, q2, al, xa, xc, tq, ta, tc, q3⟩, q4, q5⟩, hz⟩ : ∃ y, R[k] = y := ⟨_, rfl⟩
      rw [hy] at hc1 hm1 hes
      rw [hz] at hc2 hm2 hes
      simp only at hes
      subst hes
      have hS1 := (HI2.out _ hm1).1.sl
      have hS2 := (HR2.out _ hm2).1.1.sl
      simp only [hv] at hc1 hS1 hS2
      obtain ⟨le, hle⟩ : ∃ le, al.length = le := ⟨_, rfl⟩
      have HE1 := Lib.hid hle
      have hc2' : wS.cell? ⟨b2, o2 + k * 11 + 6, none⟩ = some (.slice xa al.length xc) := hc2
      rw [hle] at hS1 hS2 hc1 hc2'
      have hc1' : wS.cell? ⟨b1, o1 + k, none⟩ = some (.slice ia le ic) := by rw [hc1]; rfl
      have HT : Hid (decide (evD al = evD al) = true) := Lib.hid (decide_eq_true rfl)
      have HSUB : Hid (∀ e ∈ al, e ∈ a) := Lib.hid (staysH_sub a al (by rw [HIL.out]; exact List.mem_map.2 ⟨_, hm1, rfl⟩))
      have HEA : Hid (∀ e ∈ al, EvG w e) := Lib.hid (fun e he => HEA0.out e (HSUB.out e he))
      have HWA : Hid (∀ e ∈ al, wfE e) := Lib.hid (fun e he => HWA0.out e (HSUB.out e he))
      clear hc1 hc2 hm1 hm2 hy hz h1 h2 hle
      go_wp2_with fail
      refine rg_begin 11 rfl (S := fun W => St _ _ W ([] : List Res)) (by kernel_rfl) (H.drew.sub sU) ?_
      replace H := H.drew
      have HS := H
      refine rg_take (i := 0) rfl kR kR kR (Yld.move rfl rfl) (H.sub sU) ?_; simp only [pS, pE]
      refine rg_take (i := 1) rfl kR kR kR (Yld.move rfl rfl) (H.sub sU) ?_; simp only [pS, pE]
      refine rg_take (i := 2) rfl kR kR kR (Yld.o rfl) (H.sub sU) ?_; simp only [pS]
      first | (refine rg_take (i := 3) rfl kR kR kR (Yld.ldo rfl rfl agg22 rfl (by assumption) (by assumption)) (H.sub sU) ?_; simp only [pS]) | (refine rg_take (i := 3) rfl kR kR kR (Yld.ldc rfl rfl agg22 rfl mR cE) (H.sub sU) ?_; simp only [pS])
      refine rg_take (i := 4) rfl kR kR kR (Yld.move rfl rfl) (H.sub sU) ?_; simp only [pS, pE]
      refine rg_take (i := 5) rfl kR kR kR (Yld.move rfl rfl) (H.sub sU) ?_; simp only [pS, pE]
      refine rg_take (i := 6) rfl kR kR kR (Yld.o rfl) (H.sub sU) ?_; simp only [pS]
      refine rg_take (i := 7) rfl kR kR kR (Yld.o rfl) (H.sub sU) ?_; simp only [pS]
      first | (refine rg_take (i := 8) rfl kR kR kR (Yld.ldo rfl rfl agg22 rfl (by assumption) (by assumption)) (H.sub sU) ?_; simp only [pS]) | (refine rg_take (i := 8) rfl kR kR kR (Yld.ldc rfl rfl agg22 rfl mR cE) (H.sub sU) ?_; simp only [pS])
      refine rg_one (i := 9) (by kernel_rfl) rfl rfl (fun K hK => ?_)
      refine wp_callf rfl ent13 (rsevs_is ia xa ic xc al al HE1.out HE1.out true (decide_eq_true rfl) _ (hS1.grow H.below) (hS2.grow H.below) (fun e he => (HEA.out e he).grow (HBS.out.trans (H.below.mono HBS.out.size))) (fun e he => (HEA.out e he).grow (HBS.out.trans (H.below.mono HBS.out.size))) HWA.out HWA.out) rfl (fun v w1 hr => ?_)
      obtain ⟨rfl, hb1⟩ := hr
      replace H := H.grow hb1
      clear hb1
      clear HS
      have HS := H
      refine hK.out _ _ (H.sub sU) ?_
      clear hK K
      simp only [pS]
      refine rg_take (i := 10) rfl kR kR kR (Yld.o rfl) (H.sub sU) ?_; simp only [pS]
      refine rg_done (by kernel_rfl) ?_
      go_wp2_with fail
      go_roundw
      case rel => exact ⟨k + 1, by omega, by go_num, H.sub sU⟩
      case measure => simp [intOf]; omega
    · obtain rfl : k = c0 := by omega
      obtain ⟨r, hr⟩ : ∃ r, begD (evD a) (evD b) = r := ⟨_, rfl⟩
      have HR0 := Lib.hid hr
      have HAA : Hid (begD (evD a) (evD a) = true) := Lib.hid (by rw [begD_iff]; exact List.prefix_refl _)
      have HNIL : Hid (begD (evD []) (evD a) = true) := Lib.hid (by rw [begD_iff]; exact List.nil_prefix)
      have hrr : (r == r) = true := by simp
      clear hr
      go_wp2_with (first | (go_at_call 14; (with_reducible refine (begins_n aa ab ca cb a b HNA.out HNB.out r HR0.out hcb _ (ha.grow (HBS.out.trans (H.below.mono HBS.out.size))) (hb.grow (HBS.out.trans (H.below.mono HBS.out.size))) (fun e he => (HEA0.out e he).grow (HBS.out.trans (H.below.mono HBS.out.size))) (fun e he => (HEB0.out e he).grow (HBS.out.trans (H.below.mono HBS.out.size))) HWA0.out HWB0.out).mono ?_); rintro e w1 ⟨v, rfl, hr⟩; obtain ⟨rfl, hb1⟩ := hr; replace H := H.grow hb1; clear hb1) | (go_at_call 14; (with_reducible refine (begins_n (n := 0) none aa 0 ca [] a List.length_nil HNA.out true HNIL.out hca _ nil_sl (ha.grow (HBS.out.trans (H.below.mono HBS.out.size))) (fun e he => absurd he List.not_mem_nil) (fun e he => (HEA0.out e he).grow (HBS.out.trans (H.below.mono HBS.out.size))) (fun e he => absurd he List.not_mem_nil) HWA0.out).mono ?_); rintro e w1 ⟨v, rfl, hr⟩; obtain ⟨rfl, hb1⟩ := hr; replace H := H.grow hb1; clear hb1) | (go_at_call 14; (with_reducible refine (begins_n aa aa ca ca a a HNA.out HNA.out true HAA.out hca _ (ha.grow (HBS.out.trans (H.below.mono HBS.out.size))) (ha.grow (HBS.out.trans (H.below.mono HBS.out.size))) (fun e he => (HEA0.out e he).grow (HBS.out.trans (H.below.mono HBS.out.size))) (fun e he => (HEA0.out e he).grow (HBS.out.trans (H.below.mono HBS.out.size))) HWA0.out HWA0.out).mono ?_); rintro e w1 ⟨v, rfl, hr⟩; obtain ⟨rfl, hb1⟩ := hr; replace H := H.grow hb1; clear hb1) | (go_at_call 15; (with_reducible refine (rbegins_is aa ab ca cb a b HNA.out HNB.out r HR0.out hcb _ (ha.grow (HBS.out.trans (H.below.mono HBS.out.size))) (hb.grow (HBS.out.trans (H.below.mono HBS.out.size))) (fun e he => (HEA0.out e he).grow (HBS.out.trans (H.below.mono HBS.out.size))) (fun e he => (HEB0.out e he).grow (HBS.out.trans (H.below.mono HBS.out.size))) HWA0.out HWB0.out).mono ?_); rintro e w1 ⟨v, rfl, hr⟩; obtain ⟨rfl, hb1⟩ := hr; replace H := H.grow hb1; clear hb1) | (go_at_call 10; (with_reducible refine (aw29_ok _).mono ?_); rintro e w1 ⟨v, rfl, hr⟩; obtain ⟨rfl, hb1⟩ := hr; replace H := H.grow hb1; clear hb1))
      go_ret
      exact ⟨_, rfl, rfl, HBS.out.trans (H.below.mono HBS.out.size)⟩
set_option maxRecDepth 100000 in
theorem flatStays_lifted (os : Os) (started : os.Started) (H : Type) (enc : TypeId × Value → H) :
    ReturnsInHanded {} Try.checked os 3 .any (Rows.flatStaysSpec.pre6 enc Try.prog Try.f3 Rows.flatStaysRow.domain false) (Rows.flatStaysSpec.post enc Try.prog Try.f3 false true false false) := by
  refine law_lifted (C := Try.checked) own started (by kernel_rfl) Try.func3 laidOut rfl Try.underlying4 rfl (by kernel_rfl) (fun ds hd => ?_)
    (ChangeSpec.witness6 (enc := enc) (C := Try.checked) false ⟨#[], #[.slice none 0 0, .slice none 0 0], []⟩ 8 (by kernel_rfl) (by kernel_rfl) (by kernel_rfl) (by kernel_rfl)) ?_
  · match ds, hd with
    | [d0, d1], _ => exact ⟨rfl, rfl, rfl⟩
  intro W base args ds p hval hA
  rw [Try.params3] at hA hval
  obtain ⟨v0, vs0, d0, ds0, p0, q0, hargs, rfl, rfl, h0, r0⟩ := trodAll_cons hA
  obtain ⟨v1, vs1, d1, ds1, p1, q1, rfl, rfl, rfl, h1, r1⟩ := trodAll_cons r0
  obtain ⟨rfl, rfl, rfl⟩ := trodAll_nil r1
  obtain rfl : args = #[v0, v1] := by cases args; simp_all
  obtain ⟨l0, a0, c0, rfl, hc0, hs0, he0, hw0⟩ := open_es (hval 0 22 v0 rfl rfl) h0
  obtain ⟨l1, a1, c1, rfl, hc1, hs1, he1, hw1⟩ := open_es (hval 1 22 v1 rfl rfl) h1
  exact law_fstays l0 l1 a0 a1 c0 c1 W hc0 hc1 hs0 hs1 he0 he1 hw0 hw1
theorem flatStays_over : Rows.flatStaysRow.holds Try.pinned (OpenSpec.ofChange Rows.flatStaysSpec) :=
  OpenClaim.holds_of_wide 3 Try.f3 rfl rfl rfl rfl rfl rfl rfl ⟨rfl, rfl, rfl, rfl, rfl⟩ rfl rfl rfl rfl rfl (by kernel_rfl) Try.func3 (by kernel_rfl)
    (of_decide_eq_true (by kernel_rfl)) (by unfold Func.isWrapper; first | (rw [if_pos (by decide +kernel)]; kernel_rfl) | (rw [if_neg (by decide +kernel)]; exact ⟨rfl, rfl⟩))
    (fun os started H enc _ => flatStays_lifted os started H enc)
theorem flatStays_holds : Rows.FlatStaysSaid := flatStays_over
#print axioms flatStays_holds
end Go.Proofs.Ytbepaafgcbgmfaa
