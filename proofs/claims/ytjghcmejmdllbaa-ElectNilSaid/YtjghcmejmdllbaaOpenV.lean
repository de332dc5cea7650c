/- Processes, leaves, views and commands that came in, opened by their cells; no condition. -/
import Derived.Test.YtjghcmejmdllbaaVw5
namespace Go.Proofs.Ytjghcmejmdllbaa
open Go.ChangeShapes Go.WideShapes Go.ChangeAt Go.RowKit Go.Deep
set_option linter.unusedVariables false
set_option linter.unusedSimpArgs false
set_option maxRecDepth 100000
/-- The blocks that were there. -/
abbrev Old (W : World) : Nat → Prop := fun b => b < W.heap.size
section
variable {H : Type} {enc : TypeId × Value → H}
theorem cells_ps {fuel : Nat} {W : World} {cs : List Value} {y : DataW H × List MemPlace} (hf : DataW.trod enc Try.prog W 0 (fun _ => true) true fuel 23 cs = some y) :
    ∃ (a : Option Addr) (c : Nat) (l : List Pr), cs = [.slice a l.length c] ∧ l.length ≤ c ∧ okPids l ∧ SlG (Old W) W 2 l.length (.slice a l.length c) (elQ l) := by
  obtain ⟨a, n, c, E, rfl, hc, hS, hel⟩ := cells_sl (size := 2) Try.underlying23 (by kernel_rfl) (by omega) hf
  have hex : ∀ i, ∃ q : Pr, i < n → E i = #[.int .u16 (q.1 : Int), .int .u32 (q.2 : Int)] ∧ q.1 < 65536 ∧ q.2 < 4294967296 := fun i => by
    by_cases hi : i < n
    · obtain ⟨hs, fuel, y, ht⟩ := hel i hi
      obtain ⟨p, q, e0, h1, h2⟩ := cells_pid ht
      exact ⟨(p, q), fun _ => ⟨Array.toList_inj.1 e0, h1, h2⟩⟩
    · exact ⟨(0, 0), fun hn => absurd hn hi⟩
  have hlen : ((List.range n).map fun i => Classical.choose (hex i)).length = n := by simp
  refine ⟨a, c, (List.range n).map fun i => Classical.choose (hex i), by rw [hlen], by rw [hlen]; exact hc, ?_, ?_⟩
  · intro q hq
    obtain ⟨i, hi, rfl⟩ := List.mem_map.1 hq
    exact ((Classical.choose_spec (hex i)) (by simpa using hi)).2
  · rw [hlen]
    refine SlG.of_sl ?_
    obtain ⟨a', c', e, hm, hc'⟩ := hS
    injection e with e1 e2 e3
    subst e1
    refine ⟨a, c, rfl, hm, fun h0 => ?_⟩
    obtain ⟨b, off, rfl, hb, hcell⟩ := hc' h0
    refine ⟨b, off, rfl, hb, fun i hi j hj => ?_⟩
    rw [hcell i hi j hj, (Classical.choose_spec (hex i) hi).1]
    simp [elQ, List.getD, hi]
theorem cells_lv {fuel : Nat} {W : World} {cs : List Value} {y : DataW H × List MemPlace} (hf : DataW.trod enc Try.prog W 0 (fun _ => true) true fuel 24 cs = some y) :
    ∃ (a : Option Addr) (c : Nat) (ls : List (List Pr)), cs = [.slice a ls.length c] ∧ ls.length ≤ c ∧ (∀ l ∈ ls, okPids l) ∧ LvG (Old W) W (.slice a ls.length c) ls := by
  obtain ⟨a, n, c, E, rfl, hc, hS, hel⟩ := cells_sl (size := 1) Try.underlying24 (by kernel_rfl) (by omega) hf
  have hex : ∀ i, ∃ q : Option Addr × Nat × List Pr, i < n → E i = #[.slice q.1 q.2.2.length q.2.1] ∧ okPids q.2.2 ∧ SlG (Old W) W 2 q.2.2.length (.slice q.1 q.2.2.length q.2.1) (elQ q.2.2) := fun i => by
    by_cases hi : i < n
    · obtain ⟨hs, fuel, y, ht⟩ := hel i hi
      obtain ⟨p, q, l, e0, _, h1, h2⟩ := cells_ps ht
      exact ⟨(p, q, l), fun _ => ⟨Array.toList_inj.1 e0, h1, h2⟩⟩
    · exact ⟨(none, 0, []), fun hn => absurd hn hi⟩
  have hlen : ((List.range n).map fun i => (Classical.choose (hex i)).2.2).length = n := by simp
  have hget : ∀ i, i < n → ((List.range n).map fun i => (Classical.choose (hex i)).2.2).getD i [] = (Classical.choose (hex i)).2.2 := fun i hi => by simp [List.getD, hi]
  refine ⟨a, c, (List.range n).map fun i => (Classical.choose (hex i)).2.2, by rw [hlen], by rw [hlen]; exact hc, ?_, ?_⟩
  · intro q hq
    obtain ⟨i, hi, rfl⟩ := List.mem_map.1 hq
    exact ((Classical.choose_spec (hex i)) (by simpa using hi)).2.1
  · refine ⟨fun i => .slice (Classical.choose (hex i)).1 (Classical.choose (hex i)).2.2.length (Classical.choose (hex i)).2.1, ?_, ?_⟩
    · rw [hlen]
      refine SlG.of_sl ?_
      obtain ⟨a', c', e, hm, hc'⟩ := hS
      injection e with e1 e2 e3
      subst e1
      refine ⟨a, c, rfl, hm, fun h0 => ?_⟩
      obtain ⟨b, off, rfl, hb, hcell⟩ := hc' h0
      refine ⟨b, off, rfl, hb, fun i hi j hj => ?_⟩
      rw [hcell i hi j hj, (Classical.choose_spec (hex i) hi).1]
    · intro i hi
      rw [hlen] at hi
      rw [hget i hi]
      exact ((Classical.choose_spec (hex i)) hi).2.2
theorem cells_vw {fuel : Nat} {W : World} {cs : List Value} {y : DataW H × List MemPlace} (hf : DataW.trod enc Try.prog W 0 (fun _ => true) true fuel 26 cs = some y) :
    ∃ (x : Vw) (ma la da : Option Addr) (mc lc dc : Nat), cs = (vwC x ma la da mc lc dc).toList ∧ wfV x ∧ VwG (Old W) W (.slice ma x.mem.length mc) (.slice la x.lvs.length lc) (.slice da x.ldr.length dc) x := by
  obtain ⟨xs, n, _, _, hl, hx, hfl⟩ := DataW.trod_struct Try.underlying26 hf
  have hC26 : Try.prog.cellsOf 26 = 4 := by kernel_rfl
  have hC22 : Try.prog.cellsOf 22 = 1 := by kernel_rfl
  have hC23 : Try.prog.cellsOf 23 = 1 := by kernel_rfl
  have hC24 : Try.prog.cellsOf 24 = 1 := by kernel_rfl
  rw [hC26] at hl
  match cs, hl with
  | [c0, c1, c2, c3], _ =>
    match xs, hx with
    | [x0, x1, x2, x3], _ =>
      have h0 := hfl 0 _ rfl
      have h1 := hfl 1 _ rfl
      have h2 := hfl 2 _ rfl
      have h3 := hfl 3 _ rfl
      simp only [List.getElem_toArray, List.getElem_cons_zero, List.getElem_cons_succ, hC22, hC23, hC24, List.drop_zero, List.drop_succ_cons, List.take_succ_cons, List.take_zero, List.getElem?_cons_zero, List.getElem?_cons_succ] at h0 h1 h2 h3
      obtain ⟨k0, e0, _, w0⟩ := DataW.trod_int Try.underlying22 h0
      obtain ⟨ma, mc, l1, e1, _, o1, s1⟩ := cells_ps h1
      obtain ⟨la, lc, l2, e2, _, o2, s2⟩ := cells_lv h2
      obtain ⟨da, dc, l3, e3, _, o3, s3⟩ := cells_ps h3
      have b0 := bounds_u64 w0
      simp only [List.cons.injEq, and_true] at e0 e1 e2 e3
      subst e0 e1 e2 e3
      refine ⟨⟨k0.toNat, l1, l2, l3⟩, ma, la, da, mc, lc, dc, ?_, ⟨by simp only; omega, o1, o2, o3⟩, s1, s2, s3⟩
      simp only [vwC]
      rw [show ((k0.toNat : Nat) : Int) = k0 by omega]
theorem cells_cm {fuel : Nat} {W : World} {cs : List Value} {y : DataW H × List MemPlace} (hf : DataW.trod enc Try.prog W 0 (fun _ => true) true fuel 43 cs = some y) :
    ∃ (c : Cm) (ba ma la da : Option Addr) (bc mc lc dc : Nat), cs = (cmC c ba ma la da bc mc lc dc).toList ∧ wfC c ∧ CmG (Old W) W (.slice ba c.data.length bc) (.slice ma c.v.mem.length mc) (.slice la c.v.lvs.length lc) (.slice da c.v.ldr.length dc) c := by
  obtain ⟨xs, n, _, _, hl, hx, hfl⟩ := DataW.trod_struct Try.underlying43 hf
  have hC43 : Try.prog.cellsOf 43 = 10 := by kernel_rfl
  have hC3 : Try.prog.cellsOf 3 = 1 := by kernel_rfl
  have hC22 : Try.prog.cellsOf 22 = 1 := by kernel_rfl
  have hC36 : Try.prog.cellsOf 36 = 2 := by kernel_rfl
  have hC37 : Try.prog.cellsOf 37 = 1 := by kernel_rfl
  have hC26 : Try.prog.cellsOf 26 = 4 := by kernel_rfl
  rw [hC43] at hl
  match cs, hl with
  | [c0, c1, c2, c3, c4, c5, c6, c7, c8, c9], _ =>
    match xs, hx with
    | [x0, x1, x2, x3, x4, x5], _ =>
      have h0 := hfl 0 _ rfl
      have h1 := hfl 1 _ rfl
      have h2 := hfl 2 _ rfl
      have h3 := hfl 3 _ rfl
      have h4 := hfl 4 _ rfl
      have h5 := hfl 5 _ rfl
      simp only [List.getElem_toArray, List.getElem_cons_zero, List.getElem_cons_succ, hC3, hC22, hC36, hC37, hC26, List.drop_zero, List.drop_succ_cons, List.take_succ_cons, List.take_zero, List.getElem?_cons_zero, List.getElem?_cons_succ] at h0 h1 h2 h3 h4 h5
      obtain ⟨k0, e0, _, w0⟩ := DataW.trod_int Try.underlying3 h0
      obtain ⟨p, q, e1, hp, hq⟩ := cells_pid h1
      obtain ⟨k2, e2, _, w2⟩ := DataW.trod_int Try.underlying22 h2
      obtain ⟨k3, e3, _, w3⟩ := DataW.trod_int Try.underlying22 h3
      obtain ⟨ba, bc, l, e4, _, hb, sb⟩ := cells_bs h4
      obtain ⟨v, ma, la, da, mc, lc, dc, e5, hv, sv⟩ := cells_vw h5
      have b2 := bounds_u64 w2
      have b3 := bounds_u64 w3
      simp only [vwC, List.toList_toArray, List.cons.injEq, and_true] at e0 e1 e2 e3 e4 e5
      obtain ⟨rfl, rfl⟩ := e1
      obtain ⟨rfl, rfl, rfl, rfl⟩ := e5
      subst e0 e2 e3 e4
      refine ⟨⟨k0, (p, q), k2.toNat, k3.toNat, l, v⟩, ba, ma, la, da, bc, mc, lc, dc, ?_, ⟨hp, hq, by simp only; omega, by simp only; omega, hb, hv⟩, SlG.of_sl sb, sv⟩
      simp only [cmC]
      rw [show ((k2.toNat : Nat) : Int) = k2 by omega, show ((k3.toNat : Nat) : Int) = k3 by omega]
/-- A command that came in. -/
theorem open_cm {W : World} {base : Nat} {v : Value} {d : DataW H} {p : List MemPlace} (hv : Value.okWide Try.prog W .any base 43 v) (h : DataW.Trod enc Try.prog W 0 (fun _ => true) true 43 v d p) :
    ∃ (c : Cm) (ba ma la da : Option Addr) (bc mc lc dc : Nat), v = .agg (cmC c ba ma la da bc mc lc dc) ∧ wfC c ∧ CmG (Old W) W (.slice ba c.data.length bc) (.slice ma c.v.mem.length mc) (.slice la c.v.lvs.length lc) (.slice da c.v.ldr.length dc) c := by
  unfold Value.okWide at hv
  simp only [Try.underlying43] at hv
  obtain ⟨cs, rfl, hs, _⟩ := hv
  obtain ⟨fuel, hf⟩ := h
  obtain ⟨c, ba, ma, la, da, bc, mc, lc, dc, e, h1, h2⟩ := cells_cm hf
  exact ⟨c, ba, ma, la, da, bc, mc, lc, dc, congrArg Value.agg (Array.toList_inj.1 e), h1, h2⟩
theorem open_vw {W : World} {base : Nat} {v : Value} {d : DataW H} {p : List MemPlace} (hv : Value.okWide Try.prog W .any base 26 v) (h : DataW.Trod enc Try.prog W 0 (fun _ => true) true 26 v d p) :
    ∃ (x : Vw) (ma la da : Option Addr) (mc lc dc : Nat), v = .agg (vwC x ma la da mc lc dc) ∧ wfV x ∧ VwG (Old W) W (.slice ma x.mem.length mc) (.slice la x.lvs.length lc) (.slice da x.ldr.length dc) x := by
  unfold Value.okWide at hv
  simp only [Try.underlying26] at hv
  obtain ⟨cs, rfl, hs, _⟩ := hv
  obtain ⟨fuel, hf⟩ := h
  obtain ⟨x, ma, la, da, mc, lc, dc, e, h1, h2⟩ := cells_vw hf
  exact ⟨x, ma, la, da, mc, lc, dc, congrArg Value.agg (Array.toList_inj.1 e), h1, h2⟩
end
end Go.Proofs.Ytjghcmejmdllbaa
