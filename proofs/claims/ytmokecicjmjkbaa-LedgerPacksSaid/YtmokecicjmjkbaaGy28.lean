/- Layer 18's laws' script: acts in memory, opened; is there more than is looked at? No condition. The statement LedgerPacks of layer 18 (ledger): the law's walk; the bounds stand in it. -/
import Derived.Test.YtmokecicjmjkbaaGy22
import Derived.Test.YtmokecicjmjkbaaGy24
import Derived.Test.YtmokecicjmjkbaaGy26
import Derived.Test.YtmokecicjmjkbaaGy27
namespace Go.Proofs.Ytmokecicjmjkbaa
open Go.ChangeShapes Go.WideShapes Go.ChangeAt Go.RowKit Go.Maps
set_option linter.unusedVariables false
set_option linter.unusedSimpArgs false
set_option maxRecDepth 100000
set_option maxHeartbeats 4000000
structure Lk where
  kind : Int
  n0 : Int
  sl : Nat
  near : Bool
  c : Cm
  h : Hd
def lk0 : Lk := ⟨0, 0, 0, false, cm0, ⟨none, none, none, none, 0, 0, 0, 0⟩⟩
abbrev lkC (a : Lk) : Array Value := #[.int .i64 a.kind, .int .i64 a.n0, .int .u64 (a.sl : Int), .bool a.near, .int .i64 a.c.kind, .int .u16 (a.c.fr.1 : Int), .int .u32 (a.c.fr.2 : Int), .int .u64 (a.c.num : Int), .int .u64 (a.c.vw : Int), .slice a.h.ba a.c.data.length a.h.bc, .int .u64 (a.c.v.id : Int), .slice a.h.ma a.c.v.mem.length a.h.mc, .slice a.h.la a.c.v.lvs.length a.h.lc, .slice a.h.da a.c.v.ldr.length a.h.dc]
structure wfL (W : World) (a : Lk) : Prop where
  sl : a.sl < 18446744073709551616
  c : wfC a.c
  x : CmG (Old W) W (.slice a.h.ba a.c.data.length a.h.bc) (.slice a.h.ma a.c.v.mem.length a.h.mc) (.slice a.h.la a.c.v.lvs.length a.h.lc) (.slice a.h.da a.c.v.ldr.length a.h.dc) a.c
theorem wfL.grow {w w' : World} {a : Lk} (h : wfL w a) (hb : Below w.heap.size w w') : wfL w' a := ⟨h.sl, h.c, (h.x.grow hb).mono (fun g hg => Nat.lt_of_lt_of_le hg hb.size)⟩
def elL (l : List Lk) (i : Nat) : Array Value := lkC (l.getD i lk0)
section
variable {H : Type} {enc : TypeId × Value → H}
theorem cells_lk {fuel : Nat} {W : World} {cs : List Value} {y : DataW H × List MemPlace} (hf : DataW.trod enc Try.prog W 0 (fun _ => true) true fuel 68 cs = some y) :
    ∃ a : Lk, cs = (lkC a).toList ∧ wfL W a := by
  obtain ⟨xs, n, _, _, hl, hx, hfl⟩ := DataW.trod_struct Try.underlying68 hf
  have hC68 : Try.prog.cellsOf 68 = 14 := by kernel_rfl
  have hC3 : Try.prog.cellsOf 3 = 1 := by kernel_rfl
  have hC26 : Try.prog.cellsOf 26 = 1 := by kernel_rfl
  have hC4 : Try.prog.cellsOf 4 = 1 := by kernel_rfl
  have hC36 : Try.prog.cellsOf 36 = 10 := by kernel_rfl
  rw [hC68] at hl
  match cs, hl with
  | [c0, c1, c2, c3, c4, c5, c6, c7, c8, c9, c10, c11, c12, c13], _ =>
    match xs, hx with
    | [x0, x1, x2, x3, x4], _ =>
      have h0 := hfl 0 _ rfl
      have h1 := hfl 1 _ rfl
      have h2 := hfl 2 _ rfl
      have h3 := hfl 3 _ rfl
      have h4 := hfl 4 _ rfl
      simp only [List.getElem_toArray, List.getElem_cons_zero, List.getElem_cons_succ, hC3, hC26, hC4, hC36, List.drop_zero, List.drop_succ_cons, List.take_succ_cons, List.take_zero, List.getElem?_cons_zero, List.getElem?_cons_succ] at h0 h1 h2 h3 h4
      obtain ⟨k0, e0, _, w0⟩ := DataW.trod_int Try.underlying3 h0
      obtain ⟨k1, e1, _, w1⟩ := DataW.trod_int Try.underlying3 h1
      obtain ⟨k2, e2, _, w2⟩ := DataW.trod_int Try.underlying26 h2
      obtain ⟨tv, e3, _⟩ := DataW.trod_bool Try.underlying4 h3
      obtain ⟨c, ba, ma, la, da, bc, mc, lc, dc, e4, hw, hc⟩ := cells_cm h4
      have b2 := bounds_u64 w2
      simp only [cmC, List.cons.injEq, and_true] at e0 e1 e2 e3 e4
      obtain ⟨rfl, rfl, rfl, rfl, rfl, rfl, rfl, rfl, rfl, rfl⟩ := e4
      subst e0 e1 e2 e3
      refine ⟨⟨k0, k1, k2.toNat, tv, c, ⟨ba, ma, la, da, bc, mc, lc, dc⟩⟩, ?_, ⟨by simp only; omega, hw, hc⟩⟩
      simp only [lkC]
      rw [show ((k2.toNat : Nat) : Int) = k2 by omega]
/-- Acts that came in. -/
theorem open_lks {W : World} {base : Nat} {v : Value} {d : DataW H} {p : List MemPlace} (hv : Value.okWide Try.prog W .any base 60 v) (h : DataW.Trod enc Try.prog W 0 (fun _ => true) true 60 v d p) :
    ∃ (l : List Lk) (va : Option Addr) (vc : Nat), v = .slice va l.length vc ∧ Sl W 14 l.length (.slice va l.length vc) (elL l) ∧ ∀ a ∈ l, wfL W a := by
  obtain ⟨n, E, hs, hE⟩ := open_sl Try.underlying60 (by kernel_rfl : Try.prog.cellsOf 68 = 14) (by omega) hv h
  obtain ⟨l, rfl, hl⟩ := collect (fun i (a : Lk) => E i = lkC a ∧ wfL W a) n (fun i hi => by
    obtain ⟨_, fuel, y, hf⟩ := hE i hi
    obtain ⟨a, e, hw⟩ := cells_lk hf
    exact ⟨a, Array.toList_inj.1 e, hw⟩)
  obtain ⟨va, vc, rfl, hm, hc⟩ := hs
  refine ⟨l, va, vc, rfl, ⟨va, vc, rfl, hm, fun h0 => ?_⟩, fun a ha => ?_⟩
  · obtain ⟨b, off, e, hb, hh⟩ := hc h0
    exact ⟨b, off, e, hb, fun i hi j hj => by rw [hh i hi j hj, (hl i hi).1]; unfold elL; rw [getD_at hi]⟩
  · obtain ⟨i, hi, rfl⟩ := List.getElem_of_mem ha
    exact (hl i hi).2
end
theorem any_take {α : Type} {l : List α} {p : α → Bool} {n k : Nat} (h : (l.take n).any p = false) (hk : k < l.length) (hn : k < n) : p l[k] = false := by
  rw [List.any_eq_false] at h
  have := h l[k] (List.mem_iff_getElem.2 ⟨k, by rw [List.length_take]; omega, by rw [List.getElem_take]⟩)
  simpa using this
theorem gC_sm {c : Cm} (h : gC c = false) : smC c := by
  unfold gC gV at h
  simp only [Bool.or_eq_false_iff, decide_eq_false_iff_not, List.any_eq_false] at h
  obtain ⟨h1, ⟨⟨h2, h3⟩, h4⟩, h5⟩ := h
  exact ⟨by omega, ⟨by omega, by omega, fun l hl => by have := h5 l hl; simp at this; omega, by omega⟩⟩
attribute [local irreducible] gC
theorem great18_n (va : Option Addr) (vc : Nat) (l : List Lk) (n : Nat) (hn : l.length = n) (w : World) (hs : Sl w 14 n (.slice va n vc) (elL l)) (hx : ∀ a ∈ l, wfL w a) :
    Calls Try.prog 28 #[.slice va n vc] w (Ret fun v w' => v = .bool ((l.take 40).any fun a => gC a.c) ∧ Below w.heap.size w w') := by
  have H := St.init w
  have HN := Lib.hid hn
  have HXX := Lib.hid hx
  obtain ⟨_, _, _, hm, _⟩ := id hs
  unfold maxLen at hm
  clear hn hx
  go_enter Try.func28, Try.ntmps28
  go_wp2_with (first | (with_reducible refine wpl rfl (ldQ (ty := 36) rfl ?_); first | (with_reducible refine (Stp.ldor rfl agg36 size36 rfl H (by assumption) sZ (by assumption) ?_); simp only [pS]) | (with_reducible refine (Stp.ldr rfl agg36 size36 rfl H mR sZ ?_); simp only [pS]) | (with_reducible refine (Stp.ldl rfl agg36 size36 rfl H mR (by simp) ?_); simp only [pS]; simp only [List.drop_succ_cons, List.drop_zero, List.take_succ_cons, List.take_zero])))
  go_loopw [3] (fun i wr => ∃ k : Nat, k ≤ n ∧ k ≤ 40 ∧ i = .int .i64 k ∧ Hid ((l.take k).any (fun a => gC a.c) = false) ∧ St w.heap.size w wr []) (fun i _ => 40 - (intOf i).toNat)
  case atStart => exact ⟨0, Nat.zero_le _, Nat.zero_le _, rfl, Lib.hid (by simp), H⟩
  case round =>
    clear H
    obtain ⟨k, hk, hk40, rfl, HT, H⟩ := hrel
    by_cases hlt : k < n
    · have kli : (k : Int) < (n : Int) := by omega
      by_cases h40 : k < 40
      · have k40i : (k : Int) < 40 := by omega
        have hl1 : k < l.length := by rw [HN.out]; exact hlt
        obtain ⟨b1, o1, rfl, hb1⟩ := hs.addr (by omega)
        have hc1 := hs.cell hlt
        unfold elL at hc1
        rw [getD_at hl1] at hc1
        have hs1 := List.take_succ_eq_append_getElem hl1
        have hmm := List.getElem_mem hl1
        obtain ⟨a, ha⟩ : ∃ a, l[k] = a := ⟨_, rfl⟩
        rw [ha] at hc1 hs1 hmm
        have hcc : ∀ j, j < 10 → w.cell? ⟨b1, o1 + k * 14 + 4 + j, none⟩ = (cmH a.c a.h)[j]? := fun j hj => by
          have h5 := hc1 (4 + j) (by omega)
          rw [← Nat.add_assoc] at h5
          rw [h5]
          have hj' : j = 0 ∨ j = 1 ∨ j = 2 ∨ j = 3 ∨ j = 4 ∨ j = 5 ∨ j = 6 ∨ j = 7 ∨ j = 8 ∨ j = 9 := by omega
          rcases hj' with rfl | rfl | rfl | rfl | rfl | rfl | rfl | rfl | rfl | rfl <;> rfl
        have HX := Lib.hid (HXX.out a hmm).x
        have HS1 := Lib.hid hs1
        simp only [cmH, cmC] at hcc
        clear hc1 hs1 ha
        cases he : gC a.c
        · have HE := Lib.hid he
          clear he hmm hl1
          go_wp2_with (first | (go_at_call 18; (with_reducible refine (rcgreat_is a.c a.h.ba a.h.ma a.h.la a.h.da a.h.bc a.h.mc a.h.lc a.h.dc _ _ HE.out (HX.out.grow H.below)).mono ?_); rintro e w1 ⟨v, rfl, hr⟩; obtain ⟨rfl, hb1⟩ := hr; replace H := H.grow hb1; clear hb1) | (with_reducible refine wpl rfl (ldQ (ty := 36) rfl ?_); first | (with_reducible refine (Stp.ldor rfl agg36 size36 rfl H (by assumption) sZ (by assumption) ?_); simp only [pS]) | (with_reducible refine (Stp.ldr rfl agg36 size36 rfl H mR sZ ?_); simp only [pS]) | (with_reducible refine (Stp.ldl rfl agg36 size36 rfl H mR (by simp) ?_); simp only [pS]; simp only [List.drop_succ_cons, List.drop_zero, List.take_succ_cons, List.take_zero])))
          go_roundw
          case rel => exact ⟨k + 1, by omega, by omega, by go_num, Lib.hid (by rw [HS1.out, List.any_append, HT.out]; simp [HE.out]), H⟩
          case measure => simp [intOf]; omega
        · have HE := Lib.hid he
          have HV : Hid ((l.take 40).any (fun a => gC a.c) = true) := Lib.hid (List.any_eq_true.2 ⟨a, (by
            have h2 : a ∈ l.take (k + 1) := by rw [HS1.out]; simp
            exact List.take_subset_take_left l (show k + 1 ≤ 40 by omega) h2), HE.out⟩)
          clear he hmm hl1
          go_wp2_with (first | (go_at_call 18; (with_reducible refine (rcgreat_is a.c a.h.ba a.h.ma a.h.la a.h.da a.h.bc a.h.mc a.h.lc a.h.dc _ _ HE.out (HX.out.grow H.below)).mono ?_); rintro e w1 ⟨v, rfl, hr⟩; obtain ⟨rfl, hb1⟩ := hr; replace H := H.grow hb1; clear hb1) | (with_reducible refine wpl rfl (ldQ (ty := 36) rfl ?_); first | (with_reducible refine (Stp.ldor rfl agg36 size36 rfl H (by assumption) sZ (by assumption) ?_); simp only [pS]) | (with_reducible refine (Stp.ldr rfl agg36 size36 rfl H mR sZ ?_); simp only [pS]) | (with_reducible refine (Stp.ldl rfl agg36 size36 rfl H mR (by simp) ?_); simp only [pS]; simp only [List.drop_succ_cons, List.drop_zero, List.take_succ_cons, List.take_zero])))
          go_ret
          exact ⟨_, rfl, by rw [HV.out]; rfl, H.below⟩
      · obtain rfl : k = 40 := by omega
        have k40i : ¬ ((40 : Nat) : Int) < 40 := by omega
        go_wp2_with (first | (with_reducible refine wpl rfl (ldQ (ty := 36) rfl ?_); first | (with_reducible refine (Stp.ldor rfl agg36 size36 rfl H (by assumption) sZ (by assumption) ?_); simp only [pS]) | (with_reducible refine (Stp.ldr rfl agg36 size36 rfl H mR sZ ?_); simp only [pS]) | (with_reducible refine (Stp.ldl rfl agg36 size36 rfl H mR (by simp) ?_); simp only [pS]; simp only [List.drop_succ_cons, List.drop_zero, List.take_succ_cons, List.take_zero])))
        go_ret
        exact ⟨_, rfl, by rw [HT.out]; rfl, H.below⟩
    · obtain rfl : k = n := by omega
      have HV : Hid ((l.take 40).any (fun a => gC a.c) = false) := Lib.hid (by
        have := HT.out
        rw [List.take_of_length_le (by rw [HN.out]; omega)] at this ⊢
        exact this)
      go_wp2_with (first | (with_reducible refine wpl rfl (ldQ (ty := 36) rfl ?_); first | (with_reducible refine (Stp.ldor rfl agg36 size36 rfl H (by assumption) sZ (by assumption) ?_); simp only [pS]) | (with_reducible refine (Stp.ldr rfl agg36 size36 rfl H mR sZ ?_); simp only [pS]) | (with_reducible refine (Stp.ldl rfl agg36 size36 rfl H mR (by simp) ?_); simp only [pS]; simp only [List.drop_succ_cons, List.drop_zero, List.take_succ_cons, List.take_zero])))
      go_ret
      exact ⟨_, rfl, by rw [HV.out]; rfl, H.below⟩
end Go.Proofs.Ytmokecicjmjkbaa
namespace Go.Proofs.Ytmokecicjmjkbaa
open Go.ChangeShapes Go.WideShapes Go.ChangeAt Go.RowKit Go.Maps
set_option linter.unusedVariables false
set_option linter.unusedSimpArgs false
set_option maxRecDepth 100000
set_option maxHeartbeats 8000000
theorem lnew7_ok {B : Nat} {w0 : World} {L : List Res} (w : World) (H : St B w0 w L) : Calls Try.prog 14 #[.int .u64 7] w (Ret fun v w' => ∃ g0, v = .pointer (some ⟨g0, 0, none⟩) ∧ LdSt B w0 w' g0 7 [] L) := lnew_ok 7 w H
attribute [local irreducible] gC plc lgB lgF cErr
theorem law_lpacks (va : Option Addr) (vc : Nat) (l : List Lk) (sl mo : Nat) (hsl : sl < 18446744073709551616) (hmo8 : mo < 256) (w : World) (hs : Sl w 14 l.length (.slice va l.length vc) (elL l)) (hx : ∀ a ∈ l, wfL w a) :
    Calls Try.prog 12 #[.slice va l.length vc, .int .u64 (sl : Int), .int .u8 (mo : Int)] w (Ret fun v w' => v = .bool true ∧ Below w.heap.size w w') := by
  have H := St.init w
  have HXX := Lib.hid hx
  clear hx
  obtain ⟨e, he⟩ : ∃ e, ((l.take 40).any fun a => gC a.c) = e := ⟨_, rfl⟩
  have HE := Lib.hid he
  obtain ⟨n, hn⟩ : ∃ n, l.length = n := ⟨_, rfl⟩
  have HN := Lib.hid hn
  have hs0 := hs
  rw [hn] at hs0 ⊢
  clear hs hn
  cases e
  case true =>
    clear he
    go_enter Try.func12, Try.ntmps12
    go_wp2_with (first | (go_at_call 28; (with_reducible refine (great18_n va vc l n HN.out _ (hs0.grow H.below) (fun a ha => (HXX.out a ha).grow H.below)).mono ?_); rintro e w1 ⟨v, rfl, hr⟩; obtain ⟨rfl, hb1⟩ := hr; replace H := H.grow hb1; clear hb1; rw [HE.out]) | (go_at_call 13; (with_reducible refine (aw18_ok _).mono ?_); rintro e w1 ⟨v, rfl, hr⟩; obtain ⟨rfl, hb1⟩ := hr; replace H := H.grow hb1; clear hb1))
    go_ret
    exact ⟨_, rfl, rfl, H.below⟩
  obtain ⟨_, _, _, hm, _⟩ := id hs0
  unfold maxLen at hm
  have hmo : mo ≤ 1000 := by omega
  clear he
  go_enter Try.func12, Try.ntmps12
  go_wp2_with (first | (go_at_call 28; (with_reducible refine (great18_n va vc l n HN.out _ (hs0.grow H.below) (fun a ha => (HXX.out a ha).grow H.below)).mono ?_); rintro e w1 ⟨v, rfl, hr⟩; obtain ⟨rfl, hb1⟩ := hr; replace H := H.grow hb1; clear hb1; rw [HE.out]) | (go_at_call 14; (with_reducible refine (lnew7_ok _ H).mono ?_); rintro e w1 ⟨v, rfl, hr⟩; obtain ⟨g0, rfl, ka, kc, G, H2⟩ := hr; clear H; have H := H2; clear H2) | (with_reducible refine wpl rfl (dQ 21 rfl ?_); with_reducible refine (Stp.build (v := (.agg #[.int .u64 7, .slice none 0 0])) 21 rfl rfl (fun W => by kernel_rfl) ?_); simp only [pS]) | (with_reducible refine wpl rfl (dQ 22 rfl ?_); with_reducible refine (Stp.box 22 rfl rfl rfl H ?_); clear H; intro g22 w1 H; simp only [pS]; simp only [pE, nC, pS] at H))
  replace H := H.nilo 116 11
  have HR0 : Hid (LRel w.heap.size w (Old w) 7 8 [] []) := Lib.hid ⟨rfl, rfl, Nat.zero_le _, (by intro p hp; cases hp), (by intro p hp; cases hp), (by intro p hp; cases hp)⟩
  have H3 : St w.heap.size w _ (row 97 g0 #[.int .u64 ((7 : Nat) : Int), .slice ka ([] : List (Cm × Hd)).length kc] :: slo 36 10 (.slice ka ([] : List (Cm × Hd)).length kc) ([] : List (Cm × Hd)).length (kv []) :: cmsr G [] :: row 65 g22 #[.int .u64 ((7 : Nat) : Int), .slice none ([] : List (Cm × Hd)).length 0] :: slo 116 11 (.slice none ([] : List (Cm × Hd)).length 0) ([] : List (Cm × Hd)).length (ov 8 []) :: []) := (((H.pull (r := row 65 g22 _) pU).pull (r := cmsr G _) pU).pull (r := slo 36 10 _ _ _) pU).pull (r := row 97 g0 _) pU
  clear H
  have H := H3
  clear H3
  go_loopw [9] (fun i wr => ∃ (q ap1 s1 : Nat) (ks1 qs1 : List (Cm × Hd)) (xa : Option Addr) (xc : Nat) (ka : Option Addr) (kc : Nat) (G : Nat → Prop), q ≤ n ∧ q ≤ 40 ∧ i = .int .i64 (q : Int) ∧ Hid (LRel w.heap.size w (Old w) ap1 s1 ks1 qs1) ∧ Hid (8 ≤ s1) ∧ Hid (ap1 ≤ 4611686018427387904) ∧ St w.heap.size w wr (row 97 g0 #[.int .u64 (ap1 : Int), .slice ka ks1.length kc] :: slo 36 10 (.slice ka ks1.length kc) ks1.length (kv ks1) :: cmsr G ks1 :: row 65 g22 #[.int .u64 (ap1 : Int), .slice xa qs1.length xc] :: slo 116 11 (.slice xa qs1.length xc) qs1.length (ov s1 qs1) :: [])) (fun i _ => 40 - (intOf i).toNat)
  case atStart => exact ⟨0, 7, 8, [], [], none, 0, ka, kc, G, Nat.zero_le _, Nat.zero_le _, rfl, HR0, Lib.hid (by omega), Lib.hid (by omega), H⟩
  case round =>
    clear H HR0
    obtain ⟨q, ap, s, ks, qs, xa, xc, ka, kc, G, hq, hq40, rfl, HRL, HS8, HAP, H⟩ := hrel
    by_cases hlt : q < n
    · have qli : (q : Int) < (n : Int) := by omega
      by_cases h40 : q < 40
      · have q40i : (q : Int) < 40 := by omega
        have hl1 : q < l.length := by rw [HN.out]; exact hlt
        obtain ⟨b1, o1, rfl, hbl1⟩ := hs0.addr (by omega)
        have hc1 := hs0.cell hlt
        unfold elL at hc1
        rw [getD_at hl1] at hc1
        have hmm := List.getElem_mem hl1
        have hgs := any_take HE.out hl1 h40
        obtain ⟨a, ha⟩ : ∃ a, l[q] = a := ⟨_, rfl⟩
        rw [ha] at hc1 hmm hgs
        have HXA := Lib.hid (HXX.out a hmm)
        have HSM := Lib.hid (gC_sm hgs)
        have HRD : Hid (Rd w.heap.size w [] fun W => CmG (Old w) W (.slice a.h.ba a.c.data.length a.h.bc) (.slice a.h.ma a.c.v.mem.length a.h.mc) (.slice a.h.la a.c.v.lvs.length a.h.lc) (.slice a.h.da a.c.v.ldr.length a.h.dc) a.c) := Lib.hid (fun W hW _ => HXA.out.x.grow hW)
        have hap2 : ap + 2 < 18446744073709551616 := by have := HAP.out; omega
        simp only [lkC] at hc1
        clear hgs hmm ha hl1
        go_wp2_with (first | (go_at_call 29; (with_reducible refine (do18_ok g0 g22 ap s a.sl ks qs xa xc a.kind a.n0 a.near a.c a.h HSM.out HXA.out.c HRD.out HXA.out.sl hap2 HRL.out _ (LRSt.of H)).mono ?_); rintro e w1 ⟨v, rfl, hr⟩; obtain ⟨rfl, ap2, s2, ks2, qs2, xa2, xc2, hrl, hle, hmx, hsle, ka, kc, G, H2⟩ := hr; clear H; have H := H2; clear H2; have HRL2 := Lib.hid hrl; have HMX := Lib.hid hmx; have HSLE := Lib.hid hsle; clear hrl hle hmx hsle) | (with_reducible refine wpl rfl (ldQ (ty := 68) rfl ?_); first | (with_reducible refine (Stp.ldor rfl agg68 size68 rfl H (by assumption) sZ (by assumption) ?_); simp only [pS]) | (with_reducible refine (Stp.ldr rfl agg68 size68 rfl H mR sZ ?_); simp only [pS]) | (with_reducible refine (Stp.ldl rfl agg68 size68 rfl H mR (by simp) ?_); simp only [pS]; simp only [List.drop_succ_cons, List.drop_zero, List.take_succ_cons, List.take_zero])))
        go_roundw
        case rel => exact ⟨q + 1, ap2, s2, ks2, qs2, xa2, xc2, ka, kc, G, by omega, by omega, by go_num, HRL2, Lib.hid (by have := HS8.out; have := HSLE.out; omega), Lib.hid (by have := HMX.out; have := HAP.out; omega), H.sub sU⟩
        case measure => simp [intOf]; omega
      · have q40i : ¬ (q : Int) < 40 := by omega
        obtain ⟨cs, hcs⟩ : ∃ cs, ks.map (·.1) = cs := ⟨_, rfl⟩
        obtain ⟨b, hb⟩ : ∃ b, lgB ap cs = b := ⟨_, rfl⟩
        have hap64 : ap < 18446744073709551616 := by have := HAP.out; omega
        have hap1 : ap + 1 < 18446744073709551616 := by have := HAP.out; omega
        have HB : Hid (lgB ap (ks.map (·.1)) = b) := Lib.hid (by rw [hcs]; exact hb)
        have HBQ : Hid (lgB ap (qs.map (·.1)) = b) := Lib.hid (by rw [← HRL.out.same, hcs]; exact hb)
        have HOK : Hid (∀ p ∈ ks, cErr p.1 = 0 ∧ smC p.1 ∧ wfC p.1) := Lib.hid (fun p hp => ⟨(HRL.out.ok p hp).1, HRL.out.sm p hp, (HRL.out.ok p hp).2⟩)
        have hcok : ∀ c ∈ cs, cErr c = 0 ∧ smC c ∧ wfC c := fun c hc => by
          rw [← hcs] at hc
          obtain ⟨p, hp, rfl⟩ := List.mem_map.1 hc
          exact HOK.out p hp
        have HQK : Hid (∀ p ∈ qs, cErr p.1 = 0 ∧ smC p.1 ∧ wfC p.1) := Lib.hid (fun p hp => hcok _ (by rw [← hcs, HRL.out.same]; exact List.mem_map_of_mem hp))
        have HQL : Hid (qs.length ≤ 64) := Lib.hid (by rw [HRL.out.qlen]; exact HRL.out.len)
        have HQS : Hid (s + qs.length = ap + 1) := Lib.hid (by rw [HRL.out.qlen]; exact HRL.out.sum)
        have hcl : cs.length = ks.length := by rw [← hcs, List.length_map]
        have hrl64 := HRL.out.len
        have hrsum := HRL.out.sum
        have hbl0 : b.length ≤ 90000 := by rw [← hb]; exact lgB_len (by omega) (fun c hc => (hcok c hc).1)
        have hbl : b.length ≤ 100000 := by omega
        have HBX : Hid (∀ x ∈ b, x < 256) := Lib.hid (by rw [← hb]; exact lgB_lt (fun c hc => (hcok c hc).2.2))
        have HUF : Hid (lgF b = ((ap, cs), 0)) := Lib.hid (by rw [← hb]; exact lgF_back (by have := HAP.out; omega) (by omega) (by have := HS8.out; omega) (fun c hc => ⟨(hcok c hc).1, (hcok c hc).2.2⟩))
        have HCOK := Lib.hid hcok
        have HCS := Lib.hid hcs
        have HBB := Lib.hid hb
        have HFA0 : Hid (ks.length ≤ ap + 1) := Lib.hid (by omega)
        have HFB0 : Hid (ks.length ≤ 1000000) := Lib.hid (by omega)
        have HFS0 : Hid (ap + 1 - ks.length = s) := Lib.hid (by omega)
        obtain ⟨r, hr0, hr80⟩ : ∃ r : Nat, (sl : Int).tmod 80 = (r : Int) ∧ r < 80 := ⟨sl % 80, by rw [Int.tmod_eq_emod_of_nonneg (by omega)]; omega, by omega⟩
        obtain ⟨s9, hs90⟩ : ∃ s9, s + r = s9 := ⟨_, rfl⟩
        have hss : s ≤ s9 := by omega
        have hs9 : s9 < 18446744073709551616 := by have := HAP.out; omega
        have wss : IntKind.u64.wrap ((s : Int) + (r : Int)) = (s9 : Int) := by rw [wrap_u64_in _ (by omega) (by have := HAP.out; omega)]; omega
        have wmo : IntKind.i64.wrap (mo : Int) = (mo : Int) := by rw [IntKind.wrap_i64]; omega
        obtain ⟨us, hus⟩ : ∃ us, (qs.drop (s9 - s)).take mo = us := ⟨_, rfl⟩
        have HUS := Lib.hid hus
        clear hcs hb hcok hcl hrl64 hrsum hbl0 hs90 hus
        go_upto_region 10 with (first | (go_at_call 44; (with_reducible refine (lpack_ok g0 ap ks b hap64 HRL.out.len HOK.out HB.out _ (H.ldw (g0 := g0) (ap := ap) (ks := ks) (ka := ka) (kc := kc) (G := G) mE mE mE)).mono ?_); rintro e w1 ⟨v, rfl, hr⟩; obtain ⟨⟨am, cm, rfl⟩, ho, hb1⟩ := hr; replace H := H.new hb1 (slc_sound ho) (fun g hg => (ho.lt g hg).1); clear hb1 ho) | (go_at_call 42; (with_reducible refine (lunpackY_ok _ b hbl HBX.out ap cs HUF.out _ (own_slk (H.getSlc (xs := bv b) (v := .slice am b.length cm) mE) rfl (by omega)) H).mono ?_); rintro e w1 ⟨v, rfl, hr⟩; obtain ⟨k1, g1, rfl, hks, ka1, kc1, G1, H2⟩ := hr; clear H; have H := H2; clear H2; have HK1 := Lib.hid hks; clear hks))
        have hk1l : k1.length = ks.length := by
          have h1 := congrArg List.length (HK1.out.trans HCS.out.symm)
          rw [List.length_map, List.length_map] at h1
          exact h1
        have HB1 : Hid (lgB ap (k1.map (·.1)) = b) := Lib.hid (by rw [HK1.out]; exact HBB.out)
        have HOK1 : Hid (∀ p ∈ k1, cErr p.1 = 0 ∧ smC p.1 ∧ wfC p.1) := Lib.hid (fun p hp => HCOK.out _ (by rw [← HK1.out]; exact List.mem_map_of_mem hp))
        have HL1 : Hid (k1.length ≤ 64) := Lib.hid (by rw [hk1l]; exact HRL.out.len)
        have HFA1 : Hid (k1.length ≤ ap + 1) := Lib.hid (by rw [hk1l]; exact HFA0.out)
        have HFB1 : Hid (k1.length ≤ 1000000) := Lib.hid (by rw [hk1l]; exact HFB0.out)
        have HFS1 : Hid (ap + 1 - k1.length = s) := Lib.hid (by rw [hk1l]; exact HFS0.out)
        have haa : ((ap : Int) != (ap : Int)) = false := by simp
        have hsa : ((s : Int) != (s : Int)) = false := by simp
        clear hk1l
        go_upto_region 12 with (first | (go_at_call 45; (with_reducible refine (rlpack_ok (G1 := Old w) g22 ap s qs b hap64 HQL.out HQK.out HBQ.out _ (H.xlw (G1 := Old w) (gx := g22) (ap := ap) (s := s) (ks := qs) (xa := xa) (xc := xc) mE mE (fun p hp => (HRL.out.rd p hp).at H (List.nil_sublist _)))).mono ?_); rintro e w1 ⟨v, rfl, hr⟩; obtain ⟨⟨ax, cx, rfl⟩, ho, hb1⟩ := hr; replace H := H.new hb1 (slc_sound ho) (fun g hg => (ho.lt g hg).1); clear hb1 ho) | (go_at_call 17; (with_reducible refine (same_ok _ _ b b _ (own_slk (H.getSlc (xs := bv b) (v := .slice am b.length cm) mE) rfl (by omega)) (own_slk (H.getSlc (xs := bv b) (v := .slice ax b.length cx) mE) rfl (by omega))).mono ?_); rintro e w1 ⟨v, rfl, hr⟩; obtain ⟨rfl, hb1⟩ := hr; replace H := H.grow hb1; clear hb1; rw [beq_self_eq_true]) | (go_at_call 31; (with_reducible refine (lApplied_ok g1 ap k1.length kc1 ka1 _ (H.getHeap mE)).mono ?_); rintro e w1 ⟨v, rfl, hr⟩; obtain ⟨rfl, hb1⟩ := hr; replace H := H.grow hb1; clear hb1) | (go_at_call 31; (with_reducible refine (lApplied_ok g0 ap ks.length kc ka _ (H.getHeap mE)).mono ?_); rintro e w1 ⟨v, rfl, hr⟩; obtain ⟨rfl, hb1⟩ := hr; replace H := H.grow hb1; clear hb1) | (go_at_call 32; (with_reducible refine (lFrom_ok g1 ap k1.length kc1 ka1 hap1 HFA1.out HFB1.out _ (H.getHeap mE)).mono ?_); rintro e w1 ⟨v, rfl, hr⟩; rw [HFS1.out] at hr; obtain ⟨rfl, hb1⟩ := hr; replace H := H.grow hb1; clear hb1) | (go_at_call 32; (with_reducible refine (lFrom_ok g0 ap ks.length kc ka hap1 HFA0.out HFB0.out _ (H.getHeap mE)).mono ?_); rintro e w1 ⟨v, rfl, hr⟩; rw [HFS0.out] at hr; obtain ⟨rfl, hb1⟩ := hr; replace H := H.grow hb1; clear hb1) | (go_at_call 44; (with_reducible refine (lpack_ok g1 ap k1 b hap64 HL1.out HOK1.out HB1.out _ (H.ldw (g0 := g1) (ap := ap) (ks := k1) (ka := ka1) (kc := kc1) (G := G1) mE mE mE)).mono ?_); rintro e w1 ⟨v, rfl, hr⟩; obtain ⟨⟨ay, cy, rfl⟩, ho, hb1⟩ := hr; replace H := H.new hb1 (slc_sound ho) (fun g hg => (ho.lt g hg).1); clear hb1 ho) | (go_at_call 17; (with_reducible refine (same_ok _ _ b b _ (own_slk (H.getSlc (xs := bv b) (v := .slice ay b.length cy) mE) rfl (by omega)) (own_slk (H.getSlc (xs := bv b) (v := .slice am b.length cm) mE) rfl (by omega))).mono ?_); rintro e w1 ⟨v, rfl, hr⟩; obtain ⟨rfl, hb1⟩ := hr; replace H := H.grow hb1; clear hb1; rw [beq_self_eq_true]))
        go_upto_region 14 with (first | (go_at_call 32; (with_reducible refine (lFrom_ok g0 ap ks.length kc ka hap1 HFA0.out HFB0.out _ (H.getHeap mE)).mono ?_); rintro e w1 ⟨v, rfl, hr⟩; rw [HFS0.out] at hr; obtain ⟨rfl, hb1⟩ := hr; replace H := H.grow hb1; clear hb1) | (go_at_call 46; (with_reducible refine (ltail_ok g0 ap s9 mo ks hap64 hs9 hmo HRL.out.len HRL.out.sm _ (H.ldw (g0 := g0) (ap := ap) (ks := ks) (ka := ka) (kc := kc) (G := G) mE mE mE)).mono ?_); rintro e w1 ⟨v, rfl, hr⟩; obtain ⟨ts, hts, at1, ct, G3, rfl, H2⟩ := hr; have H3 := H.over H2; clear H H2; have H := H3; clear H3; simp only [List.cons_append, List.nil_append] at H; have HTS := Lib.hid hts.out; clear hts) | (go_at_call 47; (with_reducible refine (rltail_ok (G1 := Old w) g22 ap s s9 mo qs HQS.out hss hs9 hmo HQL.out _ (H.xlw (G1 := Old w) (gx := g22) (ap := ap) (s := s) (ks := qs) (xa := xa) (xc := xc) mE mE (fun p hp => (HRL.out.rd p hp).at H (List.nil_sublist _)))).mono ?_); rintro e w1 ⟨v, rfl, hr⟩; obtain ⟨ax1, cx, hvx, H2⟩ := hr; subst hvx; have H3 := H.over H2; clear H H2; have H := H3; clear H3; simp only [List.cons_append, List.nil_append] at H; rw [HUS.out] at H ⊢))
        have hmp : ts.map (·.1) = us.map (·.1) := by
          rw [HTS.out, tailC_eq (s := s) (by rw [List.length_map]; exact HRL.out.sum) hss, ← HUS.out, HRL.out.same, List.map_take, List.map_drop]
        obtain ⟨m, hm1⟩ : ∃ m, ts.length = m := ⟨_, rfl⟩
        have hm2 : us.length = m := by
          have h1 := congrArg List.length hmp
          rw [List.length_map, List.length_map] at h1
          rw [← h1]; exact hm1
        have hm64 : m ≤ 64 := by
          rw [← hm2, ← HUS.out, List.length_take, List.length_drop]
          have := HQL.out
          omega
        rw [hm1, hm2] at H
        simp only [hm1, hm2]
        have HMP := Lib.hid hmp
        have HM1 := Lib.hid hm1
        have HM2 := Lib.hid hm2
        have hmm : ((m : Int) != (m : Int)) = false := by simp
        have HUR : Hid (∀ p ∈ us, p ∈ qs) := Lib.hid (fun p hp => by rw [← HUS.out] at hp; exact List.mem_of_mem_drop (List.mem_of_mem_take hp))
        clear hmp hm1 hm2
        go_wp2_with fail
        go_loopw [16] (fun i wr => ∃ q9 : Nat, q9 ≤ m ∧ i = .int .i64 (q9 : Int) ∧ St w.heap.size w wr (slo 36 10 (.slice ax1 m cx) m (kv us) :: slo 36 10 (.slice at1 m ct) m (kv ts) :: cmsr G3 ts :: []))  (fun i _ => m - (intOf i).toNat)
        case atStart => exact ⟨0, Nat.zero_le _, rfl, (((H.pull (r := cmsr G3 ts) pU).pull (r := slo 36 10 (.slice at1 m ct) m (kv ts)) pU).pull (r := slo 36 10 (.slice ax1 m cx) m (kv us)) pU).sub sU⟩
        case round =>
          clear H
          obtain ⟨i, hi, rfl, H⟩ := hrel
          by_cases hlt9 : i < m
          · have ili : (i : Int) < (m : Int) := by omega
            obtain ⟨gt, ot, rfl⟩ := H.slo_addr (e := 36) (size := 10) (a := at1) (xs := kv ts) mE (by omega)
            obtain ⟨gu, ou, rfl⟩ := H.slo_addr (e := 36) (size := 10) (a := ax1) (xs := kv us) mE (by omega)
            have h1l : i < ts.length := by rw [HM1.out]; exact hlt9
            have h2l : i < us.length := by rw [HM2.out]; exact hlt9
            have hgt : ts[i]? = some ts[i] := List.getElem?_eq_getElem h1l
            have hgu : us[i]? = some us[i] := List.getElem?_eq_getElem h2l
            have hme : ts[i].1 = us[i].1 := by
              have h9 := congrArg (fun z : List Cm => z[i]?) HMP.out
              simp only [List.getElem?_map, hgt, hgu, Option.map_some, Option.some.injEq] at h9
              exact h9
            have hmt : ts[i] ∈ ts := List.getElem_mem h1l
            have hmu : us[i] ∈ us := List.getElem_mem h2l
            obtain ⟨p1, hp1⟩ : ∃ p, ts[i] = p := ⟨_, rfl⟩
            obtain ⟨p2, hp2⟩ : ∃ p, us[i] = p := ⟨_, rfl⟩
            rw [hp1] at hgt hme hmt
            rw [hp2] at hgu hme hmu
            obtain ⟨u, h1⟩ := p1
            obtain ⟨u2, h2⟩ := p2
            simp only at hme
            subst hme
            have HT1 := Lib.hid (kv_get ts i _ hgt)
            have HT2 := Lib.hid (kv_get us i _ hgu)
            have HRQ := Lib.hid (HRL.out.rd _ (HUR.out _ hmu))
            have HMT := Lib.hid hmt
            have HUU : Hid (cSame u u = true) := Lib.hid (cSame_iff.2 rfl)
            clear hgt hgu hmt hmu hp1 hp2 h1l h2l
            go_wp2_with fail
            refine rg_begin 10 rfl (S := fun W => St _ _ W (slo 36 10 (.slice (some ⟨gu, ou, none⟩) m cx) m (kv us) :: slo 36 10 (.slice (some ⟨gt, ot, none⟩) m ct) m (kv ts) :: cmsr G3 ts :: [])) (by kernel_rfl) (H.drew.sub sU) ?_
            replace H := H.drew
            have HS := H
            refine rg_take (i := 0) rfl kR kR kR (Yld.move rfl rfl) (H.sub sU) ?_; simp only [pS, pE]
            refine rg_take (i := 1) rfl kR kR kR (Yld.move rfl rfl) (H.sub sU) ?_; simp only [pS, pE]
            refine rg_take (i := 2) rfl kR kR kR (Yld.o rfl) (H.sub sU) ?_; simp only [pS]
            refine rg_take (i := 3) rfl kR kR kR (Yld.loa (cs := #[.int .i64 u.kind, .int .u16 (u.fr.1 : Int), .int .u32 (u.fr.2 : Int), .int .u64 (u.num : Int), .int .u64 (u.vw : Int), .slice h1.ba u.data.length h1.bc, .int .u64 (u.v.id : Int), .slice h1.ma u.v.mem.length h1.mc, .slice h1.la u.v.lvs.length h1.lc, .slice h1.da u.v.ldr.length h1.dc]) (d := i * 10) rfl rfl agg36 size36 rfl mE HT1.out rfl) (H.sub sU) ?_; simp only [pS, pE]
            refine rg_take (i := 4) rfl kR kR kR (Yld.move rfl rfl) (H.sub sU) ?_; simp only [pS, pE]
            refine rg_take (i := 5) rfl kR kR kR (Yld.move rfl rfl) (H.sub sU) ?_; simp only [pS, pE]
            refine rg_take (i := 6) rfl kR kR kR (Yld.o rfl) (H.sub sU) ?_; simp only [pS]
            refine rg_take (i := 7) rfl kR kR kR (Yld.loa (cs := #[.int .i64 u.kind, .int .u16 (u.fr.1 : Int), .int .u32 (u.fr.2 : Int), .int .u64 (u.num : Int), .int .u64 (u.vw : Int), .slice h2.ba u.data.length h2.bc, .int .u64 (u.v.id : Int), .slice h2.ma u.v.mem.length h2.mc, .slice h2.la u.v.lvs.length h2.lc, .slice h2.da u.v.ldr.length h2.dc]) (d := i * 10) rfl rfl agg36 size36 rfl mE HT2.out rfl) (H.sub sU) ?_; simp only [pS, pE]
            refine rg_one (i := 8) (by kernel_rfl) rfl rfl (fun K hK => ?_)
            refine wp_callf rfl ent26 (rcsame_is u u h1.ba h1.ma h1.la h1.da h2.ba h2.ma h2.la h2.da h1.bc h1.mc h1.lc h1.dc h2.bc h2.mc h2.lc h2.dc _ true HUU.out ((H.getCms (G := G3) (ks := ts) mE) _ HMT.out) (HRQ.out.at H (List.nil_sublist _))) rfl (fun v w1 hr => ?_)
            obtain ⟨rfl, hb1⟩ := hr
            replace H := H.grow hb1
            clear hb1
            clear HS
            have HS := H
            refine hK.out _ _ (H.sub sU) ?_
            clear hK K
            simp only [pS]
            refine rg_take (i := 9) rfl kR kR kR (Yld.o rfl) (H.sub sU) ?_; simp only [pS]
            refine rg_done (by kernel_rfl) ?_
            go_wp2_with fail
            go_roundw
            case rel => exact ⟨i + 1, by omega, by go_num, H⟩
            case measure => simp [intOf]; omega
          · have ili : ¬ (i : Int) < (m : Int) := by omega
            go_wp2_with (first | (go_at_call 13; (with_reducible refine (aw18_ok _).mono ?_); rintro e w1 ⟨v, rfl, hr⟩; obtain ⟨rfl, hb1⟩ := hr; replace H := H.grow hb1; clear hb1))
            go_ret
            exact ⟨_, rfl, rfl, H.below⟩
    · have qli : ¬ (q : Int) < (n : Int) := by omega
      obtain ⟨cs, hcs⟩ : ∃ cs, ks.map (·.1) = cs := ⟨_, rfl⟩
      obtain ⟨b, hb⟩ : ∃ b, lgB ap cs = b := ⟨_, rfl⟩
      have hap64 : ap < 18446744073709551616 := by have := HAP.out; omega
      have hap1 : ap + 1 < 18446744073709551616 := by have := HAP.out; omega
      have HB : Hid (lgB ap (ks.map (·.1)) = b) := Lib.hid (by rw [hcs]; exact hb)
      have HBQ : Hid (lgB ap (qs.map (·.1)) = b) := Lib.hid (by rw [← HRL.out.same, hcs]; exact hb)
      have HOK : Hid (∀ p ∈ ks, cErr p.1 = 0 ∧ smC p.1 ∧ wfC p.1) := Lib.hid (fun p hp => ⟨(HRL.out.ok p hp).1, HRL.out.sm p hp, (HRL.out.ok p hp).2⟩)
      have hcok : ∀ c ∈ cs, cErr c = 0 ∧ smC c ∧ wfC c := fun c hc => by
        rw [← hcs] at hc
        obtain ⟨p, hp, rfl⟩ := List.mem_map.1 hc
        exact HOK.out p hp
      have HQK : Hid (∀ p ∈ qs, cErr p.1 = 0 ∧ smC p.1 ∧ wfC p.1) := Lib.hid (fun p hp => hcok _ (by rw [← hcs, HRL.out.same]; exact List.mem_map_of_mem hp))
      have HQL : Hid (qs.length ≤ 64) := Lib.hid (by rw [HRL.out.qlen]; exact HRL.out.len)
      have HQS : Hid (s + qs.length = ap + 1) := Lib.hid (by rw [HRL.out.qlen]; exact HRL.out.sum)
      have hcl : cs.length = ks.length := by rw [← hcs, List.length_map]
      have hrl64 := HRL.out.len
      have hrsum := HRL.out.sum
      have hbl0 : b.length ≤ 90000 := by rw [← hb]; exact lgB_len (by omega) (fun c hc => (hcok c hc).1)
      have hbl : b.length ≤ 100000 := by omega
      have HBX : Hid (∀ x ∈ b, x < 256) := Lib.hid (by rw [← hb]; exact lgB_lt (fun c hc => (hcok c hc).2.2))
      have HUF : Hid (lgF b = ((ap, cs), 0)) := Lib.hid (by rw [← hb]; exact lgF_back (by have := HAP.out; omega) (by omega) (by have := HS8.out; omega) (fun c hc => ⟨(hcok c hc).1, (hcok c hc).2.2⟩))
      have HCOK := Lib.hid hcok
      have HCS := Lib.hid hcs
      have HBB := Lib.hid hb
      have HFA0 : Hid (ks.length ≤ ap + 1) := Lib.hid (by omega)
      have HFB0 : Hid (ks.length ≤ 1000000) := Lib.hid (by omega)
      have HFS0 : Hid (ap + 1 - ks.length = s) := Lib.hid (by omega)
      obtain ⟨r, hr0, hr80⟩ : ∃ r : Nat, (sl : Int).tmod 80 = (r : Int) ∧ r < 80 := ⟨sl % 80, by rw [Int.tmod_eq_emod_of_nonneg (by omega)]; omega, by omega⟩
      obtain ⟨s9, hs90⟩ : ∃ s9, s + r = s9 := ⟨_, rfl⟩
      have hss : s ≤ s9 := by omega
      have hs9 : s9 < 18446744073709551616 := by have := HAP.out; omega
      have wss : IntKind.u64.wrap ((s : Int) + (r : Int)) = (s9 : Int) := by rw [wrap_u64_in _ (by omega) (by have := HAP.out; omega)]; omega
      have wmo : IntKind.i64.wrap (mo : Int) = (mo : Int) := by rw [IntKind.wrap_i64]; omega
      obtain ⟨us, hus⟩ : ∃ us, (qs.drop (s9 - s)).take mo = us := ⟨_, rfl⟩
      have HUS := Lib.hid hus
      clear hcs hb hcok hcl hrl64 hrsum hbl0 hs90 hus
      go_upto_region 10 with (first | (go_at_call 44; (with_reducible refine (lpack_ok g0 ap ks b hap64 HRL.out.len HOK.out HB.out _ (H.ldw (g0 := g0) (ap := ap) (ks := ks) (ka := ka) (kc := kc) (G := G) mE mE mE)).mono ?_); rintro e w1 ⟨v, rfl, hr⟩; obtain ⟨⟨am, cm, rfl⟩, ho, hb1⟩ := hr; replace H := H.new hb1 (slc_sound ho) (fun g hg => (ho.lt g hg).1); clear hb1 ho) | (go_at_call 42; (with_reducible refine (lunpackY_ok _ b hbl HBX.out ap cs HUF.out _ (own_slk (H.getSlc (xs := bv b) (v := .slice am b.length cm) mE) rfl (by omega)) H).mono ?_); rintro e w1 ⟨v, rfl, hr⟩; obtain ⟨k1, g1, rfl, hks, ka1, kc1, G1, H2⟩ := hr; clear H; have H := H2; clear H2; have HK1 := Lib.hid hks; clear hks))
      have hk1l : k1.length = ks.length := by
        have h1 := congrArg List.length (HK1.out.trans HCS.out.symm)
        rw [List.length_map, List.length_map] at h1
        exact h1
      have HB1 : Hid (lgB ap (k1.map (·.1)) = b) := Lib.hid (by rw [HK1.out]; exact HBB.out)
      have HOK1 : Hid (∀ p ∈ k1, cErr p.1 = 0 ∧ smC p.1 ∧ wfC p.1) := Lib.hid (fun p hp => HCOK.out _ (by rw [← HK1.out]; exact List.mem_map_of_mem hp))
      have HL1 : Hid (k1.length ≤ 64) := Lib.hid (by rw [hk1l]; exact HRL.out.len)
      have HFA1 : Hid (k1.length ≤ ap + 1) := Lib.hid (by rw [hk1l]; exact HFA0.out)
      have HFB1 : Hid (k1.length ≤ 1000000) := Lib.hid (by rw [hk1l]; exact HFB0.out)
      have HFS1 : Hid (ap + 1 - k1.length = s) := Lib.hid (by rw [hk1l]; exact HFS0.out)
      have haa : ((ap : Int) != (ap : Int)) = false := by simp
      have hsa : ((s : Int) != (s : Int)) = false := by simp
      clear hk1l
      go_upto_region 12 with (first | (go_at_call 45; (with_reducible refine (rlpack_ok (G1 := Old w) g22 ap s qs b hap64 HQL.out HQK.out HBQ.out _ (H.xlw (G1 := Old w) (gx := g22) (ap := ap) (s := s) (ks := qs) (xa := xa) (xc := xc) mE mE (fun p hp => (HRL.out.rd p hp).at H (List.nil_sublist _)))).mono ?_); rintro e w1 ⟨v, rfl, hr⟩; obtain ⟨⟨ax, cx, rfl⟩, ho, hb1⟩ := hr; replace H := H.new hb1 (slc_sound ho) (fun g hg => (ho.lt g hg).1); clear hb1 ho) | (go_at_call 17; (with_reducible refine (same_ok _ _ b b _ (own_slk (H.getSlc (xs := bv b) (v := .slice am b.length cm) mE) rfl (by omega)) (own_slk (H.getSlc (xs := bv b) (v := .slice ax b.length cx) mE) rfl (by omega))).mono ?_); rintro e w1 ⟨v, rfl, hr⟩; obtain ⟨rfl, hb1⟩ := hr; replace H := H.grow hb1; clear hb1; rw [beq_self_eq_true]) | (go_at_call 31; (with_reducible refine (lApplied_ok g1 ap k1.length kc1 ka1 _ (H.getHeap mE)).mono ?_); rintro e w1 ⟨v, rfl, hr⟩; obtain ⟨rfl, hb1⟩ := hr; replace H := H.grow hb1; clear hb1) | (go_at_call 31; (with_reducible refine (lApplied_ok g0 ap ks.length kc ka _ (H.getHeap mE)).mono ?_); rintro e w1 ⟨v, rfl, hr⟩; obtain ⟨rfl, hb1⟩ := hr; replace H := H.grow hb1; clear hb1) | (go_at_call 32; (with_reducible refine (lFrom_ok g1 ap k1.length kc1 ka1 hap1 HFA1.out HFB1.out _ (H.getHeap mE)).mono ?_); rintro e w1 ⟨v, rfl, hr⟩; rw [HFS1.out] at hr; obtain ⟨rfl, hb1⟩ := hr; replace H := H.grow hb1; clear hb1) | (go_at_call 32; (with_reducible refine (lFrom_ok g0 ap ks.length kc ka hap1 HFA0.out HFB0.out _ (H.getHeap mE)).mono ?_); rintro e w1 ⟨v, rfl, hr⟩; rw [HFS0.out] at hr; obtain ⟨rfl, hb1⟩ := hr; replace H := H.grow hb1; clear hb1) | (go_at_call 44; (with_reducible refine (lpack_ok g1 ap k1 b hap64 HL1.out HOK1.out HB1.out _ (H.ldw (g0 := g1) (ap := ap) (ks := k1) (ka := ka1) (kc := kc1) (G := G1) mE mE mE)).mono ?_); rintro e w1 ⟨v, rfl, hr⟩; obtain ⟨⟨ay, cy, rfl⟩, ho, hb1⟩ := hr; replace H := H.new hb1 (slc_sound ho) (fun g hg => (ho.lt g hg).1); clear hb1 ho) | (go_at_call 17; (with_reducible refine (same_ok _ _ b b _ (own_slk (H.getSlc (xs := bv b) (v := .slice ay b.length cy) mE) rfl (by omega)) (own_slk (H.getSlc (xs := bv b) (v := .slice am b.length cm) mE) rfl (by omega))).mono ?_); rintro e w1 ⟨v, rfl, hr⟩; obtain ⟨rfl, hb1⟩ := hr; replace H := H.grow hb1; clear hb1; rw [beq_self_eq_true]))
      go_upto_region 14 with (first | (go_at_call 32; (with_reducible refine (lFrom_ok g0 ap ks.length kc ka hap1 HFA0.out HFB0.out _ (H.getHeap mE)).mono ?_); rintro e w1 ⟨v, rfl, hr⟩; rw [HFS0.out] at hr; obtain ⟨rfl, hb1⟩ := hr; replace H := H.grow hb1; clear hb1) | (go_at_call 46; (with_reducible refine (ltail_ok g0 ap s9 mo ks hap64 hs9 hmo HRL.out.len HRL.out.sm _ (H.ldw (g0 := g0) (ap := ap) (ks := ks) (ka := ka) (kc := kc) (G := G) mE mE mE)).mono ?_); rintro e w1 ⟨v, rfl, hr⟩; obtain ⟨ts, hts, at1, ct, G3, rfl, H2⟩ := hr; have H3 := H.over H2; clear H H2; have H := H3; clear H3; simp only [List.cons_append, List.nil_append] at H; have HTS := Lib.hid hts.out; clear hts) | (go_at_call 47; (with_reducible refine (rltail_ok (G1 := Old w) g22 ap s s9 mo qs HQS.out hss hs9 hmo HQL.out _ (H.xlw (G1 := Old w) (gx := g22) (ap := ap) (s := s) (ks := qs) (xa := xa) (xc := xc) mE mE (fun p hp => (HRL.out.rd p hp).at H (List.nil_sublist _)))).mono ?_); rintro e w1 ⟨v, rfl, hr⟩; obtain ⟨ax1, cx, hvx, H2⟩ := hr; subst hvx; have H3 := H.over H2; clear H H2; have H := H3; clear H3; simp only [List.cons_append, List.nil_append] at H; rw [HUS.out] at H ⊢))
      have hmp : ts.map (·.1) = us.map (·.1) := by
        rw [HTS.out, tailC_eq (s := s) (by rw [List.length_map]; exact HRL.out.sum) hss, ← HUS.out, HRL.out.same, List.map_take, List.map_drop]
      obtain ⟨m, hm1⟩ : ∃ m, ts.length = m := ⟨_, rfl⟩
      have hm2 : us.length = m := by
        have h1 := congrArg List.length hmp
        rw [List.length_map, List.length_map] at h1
        rw [← h1]; exact hm1
      have hm64 : m ≤ 64 := by
        rw [← hm2, ← HUS.out, List.length_take, List.length_drop]
        have := HQL.out
        omega
      rw [hm1, hm2] at H
      simp only [hm1, hm2]
      have HMP := Lib.hid hmp
      have HM1 := Lib.hid hm1
      have HM2 := Lib.hid hm2
      have hmm : ((m : Int) != (m : Int)) = false := by simp
      have HUR : Hid (∀ p ∈ us, p ∈ qs) := Lib.hid (fun p hp => by rw [← HUS.out] at hp; exact List.mem_of_mem_drop (List.mem_of_mem_take hp))
      clear hmp hm1 hm2
      go_wp2_with fail
      go_loopw [16] (fun i wr => ∃ q9 : Nat, q9 ≤ m ∧ i = .int .i64 (q9 : Int) ∧ St w.heap.size w wr (slo 36 10 (.slice ax1 m cx) m (kv us) :: slo 36 10 (.slice at1 m ct) m (kv ts) :: cmsr G3 ts :: []))  (fun i _ => m - (intOf i).toNat)
      case atStart => exact ⟨0, Nat.zero_le _, rfl, (((H.pull (r := cmsr G3 ts) pU).pull (r := slo 36 10 (.slice at1 m ct) m (kv ts)) pU).pull (r := slo 36 10 (.slice ax1 m cx) m (kv us)) pU).sub sU⟩
      case round =>
        clear H
        obtain ⟨i, hi, rfl, H⟩ := hrel
        by_cases hlt9 : i < m
        · have ili : (i : Int) < (m : Int) := by omega
          obtain ⟨gt, ot, rfl⟩ := H.slo_addr (e := 36) (size := 10) (a := at1) (xs := kv ts) mE (by omega)
          obtain ⟨gu, ou, rfl⟩ := H.slo_addr (e := 36) (size := 10) (a := ax1) (xs := kv us) mE (by omega)
          have h1l : i < ts.length := by rw [HM1.out]; exact hlt9
          have h2l : i < us.length := by rw [HM2.out]; exact hlt9
          have hgt : ts[i]? = some ts[i] := List.getElem?_eq_getElem h1l
          have hgu : us[i]? = some us[i] := List.getElem?_eq_getElem h2l
          have hme : ts[i].1 = us[i].1 := by
            have h9 := congrArg (fun z : List Cm => z[i]?) HMP.out
            simp only [List.getElem?_map, hgt, hgu, Option.map_some, Option.some.injEq] at h9
            exact h9
          have hmt : ts[i] ∈ ts := List.getElem_mem h1l
          have hmu : us[i] ∈ us := List.getElem_mem h2l
          obtain ⟨p1, hp1⟩ : ∃ p, ts[i] = p := ⟨_, rfl⟩
          obtain ⟨p2, hp2⟩ : ∃ p, us[i] = p := ⟨_, rfl⟩
          rw [hp1] at hgt hme hmt
          rw [hp2] at hgu hme hmu
          obtain ⟨u, h1⟩ := p1
          obtain ⟨u2, h2⟩ := p2
          simp only at hme
          subst hme
          have HT1 := Lib.hid (kv_get ts i _ hgt)
          have HT2 := Lib.hid (kv_get us i _ hgu)
          have HRQ := Lib.hid (HRL.out.rd _ (HUR.out _ hmu))
          have HMT := Lib.hid hmt
          have HUU : Hid (cSame u u = true) := Lib.hid (cSame_iff.2 rfl)
          clear hgt hgu hmt hmu hp1 hp2 h1l h2l
          go_wp2_with fail
          refine rg_begin 10 rfl (S := fun W => St _ _ W (slo 36 10 (.slice (some ⟨gu, ou, none⟩) m cx) m (kv us) :: slo 36 10 (.slice (some ⟨gt, ot, none⟩) m ct) m (kv ts) :: cmsr G3 ts :: [])) (by kernel_rfl) (H.drew.sub sU) ?_
          replace H := H.drew
          have HS := H
          refine rg_take (i := 0) rfl kR kR kR (Yld.move rfl rfl) (H.sub sU) ?_; simp only [pS, pE]
          refine rg_take (i := 1) rfl kR kR kR (Yld.move rfl rfl) (H.sub sU) ?_; simp only [pS, pE]
          refine rg_take (i := 2) rfl kR kR kR (Yld.o rfl) (H.sub sU) ?_; simp only [pS]
          refine rg_take (i := 3) rfl kR kR kR (Yld.loa (cs := #[.int .i64 u.kind, .int .u16 (u.fr.1 : Int), .int .u32 (u.fr.2 : Int), .int .u64 (u.num : Int), .int .u64 (u.vw : Int), .slice h1.ba u.data.length h1.bc, .int .u64 (u.v.id : Int), .slice h1.ma u.v.mem.length h1.mc, .slice h1.la u.v.lvs.length h1.lc, .slice h1.da u.v.ldr.length h1.dc]) (d := i * 10) rfl rfl agg36 size36 rfl mE HT1.out rfl) (H.sub sU) ?_; simp only [pS, pE]
          refine rg_take (i := 4) rfl kR kR kR (Yld.move rfl rfl) (H.sub sU) ?_; simp only [pS, pE]
          refine rg_take (i := 5) rfl kR kR kR (Yld.move rfl rfl) (H.sub sU) ?_; simp only [pS, pE]
          refine rg_take (i := 6) rfl kR kR kR (Yld.o rfl) (H.sub sU) ?_; simp only [pS]
          refine rg_take (i := 7) rfl kR kR kR (Yld.loa (cs := #[.int .i64 u.kind, .int .u16 (u.fr.1 : Int), .int .u32 (u.fr.2 : Int), .int .u64 (u.num : Int), .int .u64 (u.vw : Int), .slice h2.ba u.data.length h2.bc, .int .u64 (u.v.id : Int), .slice h2.ma u.v.mem.length h2.mc, .slice h2.la u.v.lvs.length h2.lc, .slice h2.da u.v.ldr.length h2.dc]) (d := i * 10) rfl rfl agg36 size36 rfl mE HT2.out rfl) (H.sub sU) ?_; simp only [pS, pE]
          refine rg_one (i := 8) (by kernel_rfl) rfl rfl (fun K hK => ?_)
          refine wp_callf rfl ent26 (rcsame_is u u h1.ba h1.ma h1.la h1.da h2.ba h2.ma h2.la h2.da h1.bc h1.mc h1.lc h1.dc h2.bc h2.mc h2.lc h2.dc _ true HUU.out ((H.getCms (G := G3) (ks := ts) mE) _ HMT.out) (HRQ.out.at H (List.nil_sublist _))) rfl (fun v w1 hr => ?_)
          obtain ⟨rfl, hb1⟩ := hr
          replace H := H.grow hb1
          clear hb1
          clear HS
          have HS := H
          refine hK.out _ _ (H.sub sU) ?_
          clear hK K
          simp only [pS]
          refine rg_take (i := 9) rfl kR kR kR (Yld.o rfl) (H.sub sU) ?_; simp only [pS]
          refine rg_done (by kernel_rfl) ?_
          go_wp2_with fail
          go_roundw
          case rel => exact ⟨i + 1, by omega, by go_num, H⟩
          case measure => simp [intOf]; omega
        · have ili : ¬ (i : Int) < (m : Int) := by omega
          go_wp2_with (first | (go_at_call 13; (with_reducible refine (aw18_ok _).mono ?_); rintro e w1 ⟨v, rfl, hr⟩; obtain ⟨rfl, hb1⟩ := hr; replace H := H.grow hb1; clear hb1))
          go_ret
          exact ⟨_, rfl, rfl, H.below⟩
set_option maxRecDepth 100000 in
theorem ledgerPacks_lifted (os : Os) (started : os.Started) (H : Type) (enc : TypeId × Value → H) :
    ReturnsInHanded {} Try.checked os 12 .any (Rows.ledgerPacksSpec.pre6 enc Try.prog Try.f12 Rows.ledgerPacksRow.domain false) (Rows.ledgerPacksSpec.post enc Try.prog Try.f12 false true false false) := by
  refine law_lifted (C := Try.checked) own started (by kernel_rfl) Try.func12 laidOut rfl Try.underlying4 rfl (by kernel_rfl) (fun ds hd => ?_)
    (ChangeSpec.witness6 (enc := enc) (C := Try.checked) false ⟨#[], #[.slice none 0 0, .int .u64 0, .int .u8 0], []⟩ 8 (by kernel_rfl) (by kernel_rfl) (by kernel_rfl) (by kernel_rfl)) ?_
  · match ds, hd with
    | [d0, d1, d2], _ => exact ⟨rfl, rfl, rfl⟩
  intro W base args ds p hval hA
  rw [Try.params12] at hA hval
  obtain ⟨v0, vs0, d0, ds0, p0, q0, hargs, rfl, rfl, h0, r0⟩ := trodAll_cons hA
  obtain ⟨v1, vs1, d1, ds1, p1, q1, rfl, rfl, rfl, h1, r1⟩ := trodAll_cons r0
  obtain ⟨v2, vs2, d2, ds2, p2, q2, rfl, rfl, rfl, h2, r2⟩ := trodAll_cons r1
  obtain ⟨rfl, rfl, rfl⟩ := trodAll_nil r2
  obtain rfl : args = #[v0, v1, v2] := by cases args; simp_all
  obtain ⟨l, va, vc, rfl, hs, hx⟩ := open_lks (hval 0 60 v0 rfl rfl) h0
  obtain ⟨si, rfl, _, _, sw⟩ := open_int Try.underlying26 (hval 1 26 v1 rfl rfl) h1
  obtain ⟨s, rfl, sb⟩ : ∃ q : Nat, si = (q : Int) ∧ q < 18446744073709551616 := ⟨si.toNat, by have := bounds_u64 sw; omega, by have := bounds_u64 sw; omega⟩
  obtain ⟨mi, rfl, _, _, mw⟩ := open_int Try.underlying5 (hval 2 5 v2 rfl rfl) h2
  obtain ⟨m, rfl, mb⟩ : ∃ q : Nat, mi = (q : Int) ∧ q < 256 := ⟨mi.toNat, by have := bounds_u8 mw; omega, by have := bounds_u8 mw; omega⟩
  exact law_lpacks va vc l s m sb mb W hs hx
theorem ledgerPacks_over : Rows.ledgerPacksRow.holds Try.pinned (OpenSpec.ofChange Rows.ledgerPacksSpec) :=
  OpenClaim.holds_of_wide 12 Try.f12 rfl rfl rfl rfl rfl rfl rfl ⟨rfl, rfl, rfl, rfl, rfl⟩ rfl rfl rfl rfl rfl (by kernel_rfl) Try.func12 (by kernel_rfl)
    (of_decide_eq_true (by kernel_rfl)) (by unfold Func.isWrapper; first | (rw [if_pos (by decide +kernel)]; kernel_rfl) | (rw [if_neg (by decide +kernel)]; exact ⟨rfl, rfl⟩))
    (fun os started H enc _ => ledgerPacks_lifted os started H enc)
theorem ledgerPacks_holds : Rows.LedgerPacksSaid := ledgerPacks_over
#print axioms ledgerPacks_holds
end Go.Proofs.Ytmokecicjmjkbaa
