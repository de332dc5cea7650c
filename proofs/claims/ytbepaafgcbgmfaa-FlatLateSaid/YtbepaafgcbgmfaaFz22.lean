/- Layer 29 (flat): events, lives and messages that came in, opened; no condition. -/
import Derived.Test.YtbepaafgcbgmfaaFz21
namespace Go.Proofs.Ytbepaafgcbgmfaa
open Go.ChangeShapes Go.WideShapes Go.ChangeAt Go.RowKit Go.Maps Go.Deep
set_option linter.unusedVariables false
set_option linter.unusedSimpArgs false
set_option linter.unusedSectionVars false
set_option maxRecDepth 100000
theorem VwG.all {G : Nat → Prop} {w : World} {a b c : Value} {x : Vw} (h : VwG G w a b c x) : VwG All w a b c x := h.mono (fun _ _ => trivial)
/-- What any life that came in has. -/
structure LvO (w : World) (x : Lv) : Prop where
  l : Sl w 9 x.l.length (.slice x.a x.l.length x.c) (elE x.l)
  cap : x.l.length ≤ x.c
  p1 : x.p.1 < 65536
  p2 : x.p.2 < 4294967296
  ev : ∀ e ∈ x.l, EvG w e
  wf : ∀ e ∈ x.l, wfE e
theorem LvO.grow {w w' : World} {x : Lv} (h : LvO w x) (hb : Below w.heap.size w w') : LvO w' x := ⟨h.l.grow hb, h.cap, h.p1, h.p2, fun e he => (h.ev e he).grow hb, h.wf⟩
section
variable {H : Type} {enc : TypeId × Value → H}
theorem cells_ev {fuel : Nat} {W : World} {cs : List Value} {y : DataW H × List MemPlace} (hf : DataW.trod enc Try.prog W 0 (fun _ => true) true fuel 62 cs = some y) :
    ∃ e : Eh, cs = (evA e.1 e.2).toList ∧ wfE e ∧ EvG W e := by
  obtain ⟨xs, n, _, _, hl, hx, hfl⟩ := DataW.trod_struct Try.underlying62 hf
  have hC62 : Try.prog.cellsOf 62 = 9 := by kernel_rfl
  have hC3 : Try.prog.cellsOf 3 = 1 := by kernel_rfl
  have hC37 : Try.prog.cellsOf 37 = 1 := by kernel_rfl
  have hC27 : Try.prog.cellsOf 27 = 2 := by kernel_rfl
  have hC60 : Try.prog.cellsOf 60 = 1 := by kernel_rfl
  have hC41 : Try.prog.cellsOf 41 = 4 := by kernel_rfl
  rw [hC62] at hl
  match cs, hl with
  | [c0, c1, c2, c3, c4, c5, c6, c7, c8], _ =>
    match xs, hx with
    | [x0, x1, x2, x3, x4], _ =>
      have h0 := hfl 0 _ rfl
      have h1 := hfl 1 _ rfl
      have h2 := hfl 2 _ rfl
      have h3 := hfl 3 _ rfl
      have h4 := hfl 4 _ rfl
      simp only [List.getElem_toArray, List.getElem_cons_zero, List.getElem_cons_succ, hC3, hC37, hC27, hC60, hC41, List.drop_zero, List.drop_succ_cons, List.take_succ_cons, List.take_zero, List.getElem?_cons_zero, List.getElem?_cons_succ] at h0 h1 h2 h3 h4
      obtain ⟨k0, e0, _, w0⟩ := DataW.trod_int Try.underlying3 h0
      obtain ⟨v, ma, la, da, mc, lc, dc, e1, hv, sv⟩ := cells_vw h1
      obtain ⟨p, q, e2, hp, hq⟩ := cells_pid h2
      obtain ⟨k3, e3, _, w3⟩ := DataW.trod_int Try.underlying37 h3
      obtain ⟨ba, bc, l, e4, hcap, hb, sb⟩ := cells_bs h4
      have b3 := bounds_u64 w3
      simp only [vwC, List.toList_toArray, List.cons.injEq, and_true] at e0 e1 e2 e3 e4
      obtain ⟨rfl, rfl, rfl, rfl⟩ := e1
      obtain ⟨rfl, rfl⟩ := e2
      subst e0 e3 e4
      refine ⟨(⟨k0, v, (p, q), k3.toNat, l⟩, ⟨ba, ma, la, da, bc, mc, lc, dc⟩), ?_, ⟨hv, hp, hq, by simp only; omega, hb⟩, sv.all, SlG.of_sl sb |>.mono (fun _ _ => trivial)⟩
      simp only [evA]
      rw [show ((k3.toNat : Nat) : Int) = k3 by omega]
/-- Events in memory. -/
theorem cells_es {fuel : Nat} {W : World} {cs : List Value} {y : DataW H × List MemPlace} (hf : DataW.trod enc Try.prog W 0 (fun _ => true) true fuel 22 cs = some y) :
    ∃ (l : List Eh) (a : Option Addr) (c : Nat), cs = [.slice a l.length c] ∧ l.length ≤ c ∧ Sl W 9 l.length (.slice a l.length c) (elE l) ∧ (∀ e ∈ l, EvG W e) ∧ ∀ e ∈ l, wfE e := by
  obtain ⟨a, n, c, E, rfl, hc, hS, hel⟩ := cells_sl (size := 9) Try.underlying22 (by kernel_rfl) (by omega) hf
  obtain ⟨l, rfl, hl⟩ := collect (fun i (e : Eh) => E i = evA e.1 e.2 ∧ wfE e ∧ EvG W e) n (fun i hi => by
    obtain ⟨_, fuel, y, ht⟩ := hel i hi
    obtain ⟨e, he, h1, h2⟩ := cells_ev ht
    exact ⟨e, Array.toList_inj.1 he, h1, h2⟩)
  obtain ⟨va, vc, e, hm, hcl⟩ := hS
  refine ⟨l, a, c, rfl, hc, ⟨va, vc, e, hm, fun h0 => ?_⟩, fun x hx => ?_, fun x hx => ?_⟩
  · obtain ⟨b, off, e2, hb, hh⟩ := hcl h0
    exact ⟨b, off, e2, hb, fun i hi j hj => by rw [hh i hi j hj, (hl i hi).1, elE_at hi]⟩
  · obtain ⟨i, hi, rfl⟩ := List.getElem_of_mem hx
    exact (hl i hi).2.2
  · obtain ⟨i, hi, rfl⟩ := List.getElem_of_mem hx
    exact (hl i hi).2.1
theorem cells_life {fuel : Nat} {W : World} {cs : List Value} {y : DataW H × List MemPlace} (hf : DataW.trod enc Try.prog W 0 (fun _ => true) true fuel 29 cs = some y) :
    ∃ x : Lv, cs = (lvc x).toList ∧ LvO W x := by
  obtain ⟨xs, n, _, _, hl, hx, hfl⟩ := DataW.trod_struct Try.underlying29 hf
  have hC29 : Try.prog.cellsOf 29 = 3 := by kernel_rfl
  have hC27 : Try.prog.cellsOf 27 = 2 := by kernel_rfl
  have hC22 : Try.prog.cellsOf 22 = 1 := by kernel_rfl
  rw [hC29] at hl
  match cs, hl with
  | [c0, c1, c2], _ =>
    match xs, hx with
    | [x0, x1], _ =>
      have h0 := hfl 0 _ rfl
      have h1 := hfl 1 _ rfl
      simp only [List.getElem_toArray, List.getElem_cons_zero, List.getElem_cons_succ, hC27, hC22, List.drop_zero, List.drop_succ_cons, List.take_succ_cons, List.take_zero, List.getElem?_cons_zero, List.getElem?_cons_succ] at h0 h1
      obtain ⟨p, q, e0, hp, hq⟩ := cells_pid h0
      obtain ⟨l, a, c, e1, hc, hs, he, hw⟩ := cells_es h1
      simp only [List.cons.injEq, and_true] at e0 e1
      obtain ⟨rfl, rfl⟩ := e0
      subst e1
      exact ⟨⟨(p, q), l, a, c⟩, rfl, ⟨hs, hc, hp, hq, he, hw⟩⟩
theorem cells_sent {fuel : Nat} {W : World} {cs : List Value} {y : DataW H × List MemPlace} (hf : DataW.trod enc Try.prog W 0 (fun _ => true) true fuel 64 cs = some y) :
    ∃ x : Sn, cs = (snc x).toList ∧ SnW W x := by
  obtain ⟨xs, n, _, _, hl, hx, hfl⟩ := DataW.trod_struct Try.underlying64 hf
  have hC64 : Try.prog.cellsOf 64 = 6 := by kernel_rfl
  have hC27 : Try.prog.cellsOf 27 = 2 := by kernel_rfl
  have hC37 : Try.prog.cellsOf 37 = 1 := by kernel_rfl
  have hC60 : Try.prog.cellsOf 60 = 1 := by kernel_rfl
  have hC3 : Try.prog.cellsOf 3 = 1 := by kernel_rfl
  rw [hC64] at hl
  match cs, hl with
  | [c0, c1, c2, c3, c4, c5], _ =>
    match xs, hx with
    | [x0, x1, x2, x3, x4], _ =>
      have h0 := hfl 0 _ rfl
      have h1 := hfl 1 _ rfl
      have h2 := hfl 2 _ rfl
      have h3 := hfl 3 _ rfl
      have h4 := hfl 4 _ rfl
      simp only [List.getElem_toArray, List.getElem_cons_zero, List.getElem_cons_succ, hC27, hC37, hC60, hC3, List.drop_zero, List.drop_succ_cons, List.take_succ_cons, List.take_zero, List.getElem?_cons_zero, List.getElem?_cons_succ] at h0 h1 h2 h3 h4
      obtain ⟨p, q, e0, hp, hq⟩ := cells_pid h0
      obtain ⟨k1, e1, _, w1⟩ := DataW.trod_int Try.underlying37 h1
      obtain ⟨k2, e2, _, w2⟩ := DataW.trod_int Try.underlying37 h2
      obtain ⟨ba, bc, l, e3, hcap, hb, sb⟩ := cells_bs h3
      obtain ⟨k4, e4, _, w4⟩ := DataW.trod_int Try.underlying3 h4
      have b1 := bounds_u64 w1
      have b2 := bounds_u64 w2
      simp only [List.cons.injEq, and_true] at e0 e1 e2 e3 e4
      obtain ⟨rfl, rfl⟩ := e0
      subst e1 e2 e3 e4
      refine ⟨⟨(p, q), k1.toNat, k2.toNat, l, ba, bc, k4⟩, ?_, ⟨sb, hb, hp, hq, by simp only; omega, by simp only; omega⟩⟩
      simp only [snc]
      rw [show ((k1.toNat : Nat) : Int) = k1 by omega, show ((k2.toNat : Nat) : Int) = k2 by omega]
/-- Events that came in. -/
theorem open_es {W : World} {base : Nat} {v : Value} {d : DataW H} {p : List MemPlace} (hv : Value.okWide Try.prog W .any base 22 v) (h : DataW.Trod enc Try.prog W 0 (fun _ => true) true 22 v d p) :
    ∃ (l : List Eh) (a : Option Addr) (c : Nat), v = .slice a l.length c ∧ l.length ≤ c ∧ Sl W 9 l.length (.slice a l.length c) (elE l) ∧ (∀ e ∈ l, EvG W e) ∧ ∀ e ∈ l, wfE e := by
  obtain ⟨a0, len0, cap0, rfl⟩ := okWide_slice Try.underlying22 hv
  obtain ⟨fuel, hf⟩ := h
  obtain ⟨l, a, c, e, h1⟩ := cells_es hf
  simp only [Value.cells, List.cons.injEq, and_true] at e
  exact ⟨l, a, c, e, h1⟩
/-- Those who live. -/
theorem open_ls {W : World} {base : Nat} {v : Value} {d : DataW H} {p : List MemPlace} (hv : Value.okWide Try.prog W .any base 30 v) (h : DataW.Trod enc Try.prog W 0 (fun _ => true) true 30 v d p) :
    ∃ (l : List Lv) (a : Option Addr) (c : Nat), v = .slice a l.length c ∧ l.length ≤ c ∧ Sl W 3 l.length (.slice a l.length c) (elL l) ∧ ∀ x ∈ l, LvO W x := by
  obtain ⟨a0, len0, cap0, rfl⟩ := okWide_slice Try.underlying30 hv
  obtain ⟨fuel, hf⟩ := h
  obtain ⟨a, n, c, E, e, hc, hS, hel⟩ := cells_sl (size := 3) Try.underlying30 (by kernel_rfl) (by omega) hf
  obtain ⟨l, rfl, hl⟩ := collect (fun i (x : Lv) => E i = lvc x ∧ LvO W x) n (fun i hi => by
    obtain ⟨_, fuel, y, ht⟩ := hel i hi
    obtain ⟨x, hx, h1⟩ := cells_life ht
    exact ⟨x, Array.toList_inj.1 hx, h1⟩)
  simp only [Value.cells, List.cons.injEq, and_true] at e
  obtain ⟨va, vc, e1, hm, hcl⟩ := hS
  refine ⟨l, a, c, e, hc, ⟨va, vc, e1, hm, fun h0 => ?_⟩, fun x hx => ?_⟩
  · obtain ⟨b, off, e2, hb, hh⟩ := hcl h0
    exact ⟨b, off, e2, hb, fun i hi j hj => by rw [hh i hi j hj, (hl i hi).1, elL_at hi]; rfl⟩
  · obtain ⟨i, hi, rfl⟩ := List.getElem_of_mem hx
    exact (hl i hi).2
/-- Messages that were sent. -/
theorem open_sns {W : World} {base : Nat} {v : Value} {d : DataW H} {p : List MemPlace} (hv : Value.okWide Try.prog W .any base 44 v) (h : DataW.Trod enc Try.prog W 0 (fun _ => true) true 44 v d p) :
    ∃ (l : List Sn) (a : Option Addr) (c : Nat), v = .slice a l.length c ∧ l.length ≤ c ∧ Sl W 6 l.length (.slice a l.length c) (elN l) ∧ ∀ x ∈ l, SnW W x := by
  obtain ⟨a0, len0, cap0, rfl⟩ := okWide_slice Try.underlying44 hv
  obtain ⟨fuel, hf⟩ := h
  obtain ⟨a, n, c, E, e, hc, hS, hel⟩ := cells_sl (size := 6) Try.underlying44 (by kernel_rfl) (by omega) hf
  obtain ⟨l, rfl, hl⟩ := collect (fun i (x : Sn) => E i = snc x ∧ SnW W x) n (fun i hi => by
    obtain ⟨_, fuel, y, ht⟩ := hel i hi
    obtain ⟨x, hx, h1⟩ := cells_sent ht
    exact ⟨x, Array.toList_inj.1 hx, h1⟩)
  simp only [Value.cells, List.cons.injEq, and_true] at e
  obtain ⟨va, vc, e1, hm, hcl⟩ := hS
  refine ⟨l, a, c, e, hc, ⟨va, vc, e1, hm, fun h0 => ?_⟩, fun x hx => ?_⟩
  · obtain ⟨b, off, e2, hb, hh⟩ := hcl h0
    exact ⟨b, off, e2, hb, fun i hi j hj => by rw [hh i hi j hj, (hl i hi).1, elN_at hi]; rfl⟩
  · obtain ⟨i, hi, rfl⟩ := List.getElem_of_mem hx
    exact (hl i hi).2
end
end Go.Proofs.Ytbepaafgcbgmfaa
