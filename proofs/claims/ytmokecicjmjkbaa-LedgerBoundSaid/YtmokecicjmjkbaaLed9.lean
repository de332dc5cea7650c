/- Layer 18's laws' script: acts in memory, opened; is there more than is looked at? No condition. -/
import Derived.Test.YtmokecicjmjkbaaLed8
namespace Go.Proofs.Ytmokecicjmjkbaa
open Go.ChangeShapes Go.WideShapes Go.ChangeAt Go.RowKit Go.Maps
set_option linter.unusedVariables false
set_option linter.unusedSimpArgs false
set_option maxRecDepth 100000
set_option maxHeartbeats 4000000
structure Lk where
  kind : Int
  n0 : Int
  sl : Nat
  near : Bool
  c : Cm
  h : Hd
def lk0 : Lk := ⟨0, 0, 0, false, cm0, ⟨none, none, none, none, 0, 0, 0, 0⟩⟩
abbrev lkC (a : Lk) : Array Value := #[.int .i64 a.kind, .int .i64 a.n0, .int .u64 (a.sl : Int), .bool a.near, .int .i64 a.c.kind, .int .u16 (a.c.fr.1 : Int), .int .u32 (a.c.fr.2 : Int), .int .u64 (a.c.num : Int), .int .u64 (a.c.vw : Int), .slice a.h.ba a.c.data.length a.h.bc, .int .u64 (a.c.v.id : Int), .slice a.h.ma a.c.v.mem.length a.h.mc, .slice a.h.la a.c.v.lvs.length a.h.lc, .slice a.h.da a.c.v.ldr.length a.h.dc]
structure wfL (W : World) (a : Lk) : Prop where
  sl : a.sl < 18446744073709551616
  c : wfC a.c
  x : CmG (Old W) W (.slice a.h.ba a.c.data.length a.h.bc) (.slice a.h.ma a.c.v.mem.length a.h.mc) (.slice a.h.la a.c.v.lvs.length a.h.lc) (.slice a.h.da a.c.v.ldr.length a.h.dc) a.c
theorem wfL.grow {w w' : World} {a : Lk} (h : wfL w a) (hb : Below w.heap.size w w') : wfL w' a := ⟨h.sl, h.c, (h.x.grow hb).mono (fun g hg => Nat.lt_of_lt_of_le hg hb.size)⟩
def elL (l : List Lk) (i : Nat) : Array Value := lkC (l.getD i lk0)
section
variable {H : Type} {enc : TypeId × Value → H}
theorem cells_lk {fuel : Nat} {W : World} {cs : List Value} {y : DataW H × List MemPlace} (hf : DataW.trod enc Try.prog W 0 (fun _ => true) true fuel 68 cs = some y) :
    ∃ a : Lk, cs = (lkC a).toList ∧ wfL W a := by
  obtain ⟨xs, n, _, _, hl, hx, hfl⟩ := DataW.trod_struct Try.underlying68 hf
  have hC68 : Try.prog.cellsOf 68 = 14 := by kernel_rfl
  have hC3 : Try.prog.cellsOf 3 = 1 := by kernel_rfl
  have hC26 : Try.prog.cellsOf 26 = 1 := by kernel_rfl
  have hC4 : Try.prog.cellsOf 4 = 1 := by kernel_rfl
  have hC36 : Try.prog.cellsOf 36 = 10 := by kernel_rfl
  rw [hC68] at hl
  match cs, hl with
  | [c0, c1, c2, c3, c4, c5, c6, c7, c8, c9, c10, c11, c12, c13], _ =>
    match xs, hx with
    | [x0, x1, x2, x3, x4], _ =>
      have h0 := hfl 0 _ rfl
      have h1 := hfl 1 _ rfl
      have h2 := hfl 2 _ rfl
      have h3 := hfl 3 _ rfl
      have h4 := hfl 4 _ rfl
      simp only [List.getElem_toArray, List.getElem_cons_zero, List.getElem_cons_succ, hC3, hC26, hC4, hC36, List.drop_zero, List.drop_succ_cons, List.take_succ_cons, List.take_zero, List.getElem?_cons_zero, List.getElem?_cons_succ] at h0 h1 h2 h3 h4
      obtain ⟨k0, e0, _, w0⟩ := DataW.trod_int Try.underlying3 h0
      obtain ⟨k1, e1, _, w1⟩ := DataW.trod_int Try.underlying3 h1
      obtain ⟨k2, e2, _, w2⟩ := DataW.trod_int Try.underlying26 h2
      obtain ⟨tv, e3, _⟩ := DataW.trod_bool Try.underlying4 h3
      obtain ⟨c, ba, ma, la, da, bc, mc, lc, dc, e4, hw, hc⟩ := cells_cm h4
      have b2 := bounds_u64 w2
      simp only [cmC, List.cons.injEq, and_true] at e0 e1 e2 e3 e4
      obtain ⟨rfl, rfl, rfl, rfl, rfl, rfl, rfl, rfl, rfl, rfl⟩ := e4
      subst e0 e1 e2 e3
      refine ⟨⟨k0, k1, k2.toNat, tv, c, ⟨ba, ma, la, da, bc, mc, lc, dc⟩⟩, ?_, ⟨by simp only; omega, hw, hc⟩⟩
      simp only [lkC]
      rw [show ((k2.toNat : Nat) : Int) = k2 by omega]
/-- Acts that came in. -/
theorem open_lks {W : World} {base : Nat} {v : Value} {d : DataW H} {p : List MemPlace} (hv : Value.okWide Try.prog W .any base 60 v) (h : DataW.Trod enc Try.prog W 0 (fun _ => true) true 60 v d p) :
    ∃ (l : List Lk) (va : Option Addr) (vc : Nat), v = .slice va l.length vc ∧ Sl W 14 l.length (.slice va l.length vc) (elL l) ∧ ∀ a ∈ l, wfL W a := by
  obtain ⟨n, E, hs, hE⟩ := open_sl Try.underlying60 (by kernel_rfl : Try.prog.cellsOf 68 = 14) (by omega) hv h
  obtain ⟨l, rfl, hl⟩ := collect (fun i (a : Lk) => E i = lkC a ∧ wfL W a) n (fun i hi => by
    obtain ⟨_, fuel, y, hf⟩ := hE i hi
    obtain ⟨a, e, hw⟩ := cells_lk hf
    exact ⟨a, Array.toList_inj.1 e, hw⟩)
  obtain ⟨va, vc, rfl, hm, hc⟩ := hs
  refine ⟨l, va, vc, rfl, ⟨va, vc, rfl, hm, fun h0 => ?_⟩, fun a ha => ?_⟩
  · obtain ⟨b, off, e, hb, hh⟩ := hc h0
    exact ⟨b, off, e, hb, fun i hi j hj => by rw [hh i hi j hj, (hl i hi).1]; unfold elL; rw [getD_at hi]⟩
  · obtain ⟨i, hi, rfl⟩ := List.getElem_of_mem ha
    exact (hl i hi).2
end
theorem any_take {α : Type} {l : List α} {p : α → Bool} {n k : Nat} (h : (l.take n).any p = false) (hk : k < l.length) (hn : k < n) : p l[k] = false := by
  rw [List.any_eq_false] at h
  have := h l[k] (List.mem_iff_getElem.2 ⟨k, by rw [List.length_take]; omega, by rw [List.getElem_take]⟩)
  simpa using this
theorem gC_sm {c : Cm} (h : gC c = false) : smC c := by
  unfold gC gV at h
  simp only [Bool.or_eq_false_iff, decide_eq_false_iff_not, List.any_eq_false] at h
  obtain ⟨h1, ⟨⟨h2, h3⟩, h4⟩, h5⟩ := h
  exact ⟨by omega, ⟨by omega, by omega, fun l hl => by have := h5 l hl; simp at this; omega, by omega⟩⟩
attribute [local irreducible] gC
theorem great18_n (va : Option Addr) (vc : Nat) (l : List Lk) (n : Nat) (hn : l.length = n) (w : World) (hs : Sl w 14 n (.slice va n vc) (elL l)) (hx : ∀ a ∈ l, wfL w a) :
    Calls Try.prog 28 #[.slice va n vc] w (Ret fun v w' => v = .bool ((l.take 40).any fun a => gC a.c) ∧ Below w.heap.size w w') := by
  have H := St.init w
  have HN := Lib.hid hn
  have HXX := Lib.hid hx
  obtain ⟨_, _, _, hm, _⟩ := id hs
  unfold maxLen at hm
  clear hn hx
  go_enter Try.func28, Try.ntmps28
  go_wp2_with (first | (with_reducible refine wpl rfl (Stp.ldr rfl agg36 size36 rfl H mR sZ ?_); simp only [pS]) | (with_reducible refine wpl rfl (Stp.ldl rfl agg36 size36 rfl H mR (by simp) ?_); simp only [pS]; simp only [List.drop_succ_cons, List.drop_zero, List.take_succ_cons, List.take_zero]) | (with_reducible refine wpl rfl (Stp.ldor rfl agg36 size36 rfl H (by assumption) sZ (by assumption) ?_); simp only [pS]))
  go_loopw [3] (fun i wr => ∃ k : Nat, k ≤ n ∧ k ≤ 40 ∧ i = .int .i64 k ∧ Hid ((l.take k).any (fun a => gC a.c) = false) ∧ St w.heap.size w wr []) (fun i _ => 40 - (intOf i).toNat)
  case atStart => exact ⟨0, Nat.zero_le _, Nat.zero_le _, rfl, Lib.hid (by simp), H⟩
  case round =>
    clear H
    obtain ⟨k, hk, hk40, rfl, HT, H⟩ := hrel
    by_cases hlt : k < n
    · have kli : (k : Int) < (n : Int) := by omega
      by_cases h40 : k < 40
      · have k40i : (k : Int) < 40 := by omega
        have hl1 : k < l.length := by rw [HN.out]; exact hlt
        obtain ⟨b1, o1, rfl, hb1⟩ := hs.addr (by omega)
        have hc1 := hs.cell hlt
        unfold elL at hc1
        rw [getD_at hl1] at hc1
        have hs1 := List.take_succ_eq_append_getElem hl1
        have hmm := List.getElem_mem hl1
        obtain ⟨a, ha⟩ : ∃ a, l[k] = a := ⟨_, rfl⟩
        rw [ha] at hc1 hs1 hmm
        have hcc : ∀ j, j < 10 → w.cell? ⟨b1, o1 + k * 14 + 4 + j, none⟩ = (cmH a.c a.h)[j]? := fun j hj => by
          have h5 := hc1 (4 + j) (by omega)
          rw [← Nat.add_assoc] at h5
          rw [h5]
          have hj' : j = 0 ∨ j = 1 ∨ j = 2 ∨ j = 3 ∨ j = 4 ∨ j = 5 ∨ j = 6 ∨ j = 7 ∨ j = 8 ∨ j = 9 := by omega
          rcases hj' with rfl | rfl | rfl | rfl | rfl | rfl | rfl | rfl | rfl | rfl <;> rfl
        have HX := Lib.hid (HXX.out a hmm).x
        have HS1 := Lib.hid hs1
        simp only [cmH, cmC] at hcc
        clear hc1 hs1 ha
        cases he : gC a.c
        · have HE := Lib.hid he
          clear he hmm hl1
          go_wp2_with (first | (go_at_call 18; (with_reducible refine (rcgreat_is a.c a.h.ba a.h.ma a.h.la a.h.da a.h.bc a.h.mc a.h.lc a.h.dc _ _ HE.out (HX.out.grow H.below)).mono ?_); rintro e w1 ⟨v, rfl, hr⟩; obtain ⟨rfl, hb1⟩ := hr; replace H := H.grow hb1; clear hb1) | (with_reducible refine wpl rfl (Stp.ldr rfl agg36 size36 rfl H mR sZ ?_); simp only [pS]) | (with_reducible refine wpl rfl (Stp.ldl rfl agg36 size36 rfl H mR (by simp) ?_); simp only [pS]; simp only [List.drop_succ_cons, List.drop_zero, List.take_succ_cons, List.take_zero]) | (with_reducible refine wpl rfl (Stp.ldor rfl agg36 size36 rfl H (by assumption) sZ (by assumption) ?_); simp only [pS]))
          go_roundw
          case rel => exact ⟨k + 1, by omega, by omega, by go_num, Lib.hid (by rw [HS1.out, List.any_append, HT.out]; simp [HE.out]), H⟩
          case measure => simp [intOf]; omega
        · have HE := Lib.hid he
          have HV : Hid ((l.take 40).any (fun a => gC a.c) = true) := Lib.hid (List.any_eq_true.2 ⟨a, (by
            have h2 : a ∈ l.take (k + 1) := by rw [HS1.out]; simp
            exact List.take_subset_take_left l (show k + 1 ≤ 40 by omega) h2), HE.out⟩)
          clear he hmm hl1
          go_wp2_with (first | (go_at_call 18; (with_reducible refine (rcgreat_is a.c a.h.ba a.h.ma a.h.la a.h.da a.h.bc a.h.mc a.h.lc a.h.dc _ _ HE.out (HX.out.grow H.below)).mono ?_); rintro e w1 ⟨v, rfl, hr⟩; obtain ⟨rfl, hb1⟩ := hr; replace H := H.grow hb1; clear hb1) | (with_reducible refine wpl rfl (Stp.ldr rfl agg36 size36 rfl H mR sZ ?_); simp only [pS]) | (with_reducible refine wpl rfl (Stp.ldl rfl agg36 size36 rfl H mR (by simp) ?_); simp only [pS]; simp only [List.drop_succ_cons, List.drop_zero, List.take_succ_cons, List.take_zero]) | (with_reducible refine wpl rfl (Stp.ldor rfl agg36 size36 rfl H (by assumption) sZ (by assumption) ?_); simp only [pS]))
          go_ret
          exact ⟨_, rfl, by rw [HV.out]; rfl, H.below⟩
      · obtain rfl : k = 40 := by omega
        have k40i : ¬ ((40 : Nat) : Int) < 40 := by omega
        go_wp2_with (first | (with_reducible refine wpl rfl (Stp.ldr rfl agg36 size36 rfl H mR sZ ?_); simp only [pS]) | (with_reducible refine wpl rfl (Stp.ldl rfl agg36 size36 rfl H mR (by simp) ?_); simp only [pS]; simp only [List.drop_succ_cons, List.drop_zero, List.take_succ_cons, List.take_zero]) | (with_reducible refine wpl rfl (Stp.ldor rfl agg36 size36 rfl H (by assumption) sZ (by assumption) ?_); simp only [pS]))
        go_ret
        exact ⟨_, rfl, by rw [HT.out]; rfl, H.below⟩
    · obtain rfl : k = n := by omega
      have HV : Hid ((l.take 40).any (fun a => gC a.c) = false) := Lib.hid (by
        have := HT.out
        rw [List.take_of_length_le (by rw [HN.out]; omega)] at this ⊢
        exact this)
      go_wp2_with (first | (with_reducible refine wpl rfl (Stp.ldr rfl agg36 size36 rfl H mR sZ ?_); simp only [pS]) | (with_reducible refine wpl rfl (Stp.ldl rfl agg36 size36 rfl H mR (by simp) ?_); simp only [pS]; simp only [List.drop_succ_cons, List.drop_zero, List.take_succ_cons, List.take_zero]) | (with_reducible refine wpl rfl (Stp.ldor rfl agg36 size36 rfl H (by assumption) sZ (by assumption) ?_); simp only [pS]))
      go_ret
      exact ⟨_, rfl, by rw [HV.out]; rfl, H.below⟩
end Go.Proofs.Ytmokecicjmjkbaa
