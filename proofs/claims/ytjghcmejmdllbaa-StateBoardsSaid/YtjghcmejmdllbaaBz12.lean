/- Contracts of the reference's At (choragusref08); no condition. Processes, leaves, views and commands that came in, opened by their cells; no condition. Contracts of slices.Index and slices.Contains over processes, and of layer 8's Has and Leads (view); no condition. Regions that draw their order: a stronger condition from some operation on; two resources as one that can be parted again; elements collected; no condition. -/
import Derived.Test.YtjghcmejmdllbaaBz6
import Derived.Test.YtjghcmejmdllbaaBz11
import Derived.Test.YtjghcmejmdllbaaBz7
import Derived.Test.YtjghcmejmdllbaaBz3
namespace Go.Proofs.Ytjghcmejmdllbaa
open Go.ChangeShapes Go.WideShapes Go.ChangeAt Go.RowKit Go.Maps
set_option linter.unusedVariables false
set_option linter.unusedSimpArgs false
/-- Where a process stands first; -1 if it does not. -/
def atR (l : List Pr) (p : Pr) : Int := match rank l p with | some k => (k : Int) | none => -1
theorem rank_at {l : List Pr} {p : Pr} {k : Nat} (hk : k < l.length) (h0 : rank (l.take k) p = none) (h : l[k] = p) : rank l p = some k := by
  induction l generalizing k with
  | nil => cases hk
  | cons x l ih =>
    cases k with
    | zero => simp only [List.getElem_cons_zero] at h; simp [rank, h]
    | succ k =>
      simp only [List.take_succ_cons, rank] at h0
      unfold rank
      by_cases hx : x = p
      · rw [if_pos hx] at h0; cases h0
      · rw [if_neg hx] at h0 ⊢
        rw [ih (by simpa using hk) (Option.map_eq_none_iff.1 h0) (by simpa using h)]
        rfl
set_option maxRecDepth 100000 in
set_option maxHeartbeats 1000000 in
theorem rat_is (va : Value) (l : List Pr) (p : Pr) (w : World) (ha : Sl w 2 l.length va (elQ l)) :
    Calls Try.prog 65 #[va, .agg #[.int .u16 (p.1 : Int), .int .u32 (p.2 : Int)]] w (Ret fun v w' => v = .int .i64 (atR l p) ∧ Below w.heap.size w w') := by
  have H := St.init w
  have ha' := ha
  obtain ⟨aa, ca, rfl, hma, _⟩ := ha'
  unfold maxLen at hma
  obtain ⟨n, hn⟩ : ∃ n, l.length = n := ⟨_, rfl⟩
  have HN := Lib.hid hn
  rw [hn] at ha hma ⊢
  clear hn
  go_enter Try.func65, Try.ntmps65
  go_wp2_with (first | (with_reducible refine wpl rfl (dQ 3 rfl ?_); with_reducible refine (Stp.box 3 rfl rfl rfl H ?_); clear H; intro g3 w1 H; simp only [pS]; simp only [pE, nC, pS] at H))
  go_loopw [5] (fun i wr => ∃ k : Nat, k ≤ n ∧ i = .int .i64 k ∧ Hid (rank (l.take k) p = none) ∧ St w.heap.size w wr [row 36 g3 #[.int .u16 (p.1 : Int), .int .u32 (p.2 : Int)]]) (fun i _ => n - (intOf i).toNat)
  case atStart => exact ⟨0, Nat.zero_le _, rfl, Lib.hid (by simp [rank]), H⟩
  case round =>
    clear H
    obtain ⟨k, hk, rfl, HT, H⟩ := hrel
    by_cases hlt : k < n
    · have hl1 : k < l.length := by rw [HN.out]; exact hlt
      obtain ⟨b1, o1, rfl, hb1⟩ := ha.addr (by omega)
      have hc1 := ha.cell hlt
      unfold elQ at hc1
      rw [getD_at hl1] at hc1
      have hs1 := List.take_succ_eq_append_getElem hl1
      have hra := rank_at (p := p) hl1 HT.out
      obtain ⟨⟨x, y⟩, hx⟩ : ∃ x, l[k] = x := ⟨_, rfl⟩
      rw [hx] at hc1 hs1 hra
      have kli : (k : Int) < (n : Int) := by omega
      by_cases he0 : (x, y) = p
      · have HV : Hid (atR l p = k) := Lib.hid (by unfold atR; rw [hra he0])
        obtain ⟨z, t⟩ := p
        injection he0 with e1 e2
        subst e1 e2
        have he := eqPD_yes x y
        clear hs1 hx hra
        go_wp2_with (first | (with_reducible refine wpl rfl (dQ 3 rfl ?_); with_reducible refine (Stp.box 3 rfl rfl rfl H ?_); clear H; intro g3 w1 H; simp only [pS]; simp only [pE, nC, pS] at H))
        refine rg_begin 6 rfl (S := fun W => St _ _ W _) (by kernel_rfl) H.drew ?_
        replace H := H.drew
        have HS := H
        refine rg_take (i := 0) rfl kR kR kR (Yld.move rfl rfl) HS ?_; simp only [pS, pE]
        refine rg_take (i := 1) rfl kR kR kR (Yld.move rfl rfl) HS ?_; simp only [pS, pE]
        refine rg_take (i := 2) rfl kR kR kR (Yld.o rfl) HS ?_; simp only [pS]
        first | (refine rg_take (i := 3) rfl kR kR kR (Yld.ldor rfl rfl agg36 size36 rfl (by assumption) sZ (by assumption)) HS ?_; simp only [pS]) | (refine rg_take (i := 3) rfl kR kR kR (Yld.ldr rfl rfl agg36 size36 rfl mR sZ) HS ?_; simp only [pS]) | (refine rg_take (i := 3) rfl kR kR kR (Yld.ldl rfl rfl agg36 size36 rfl mR (by simp)) HS ?_; simp only [pS]; simp only [List.drop_succ_cons, List.drop_zero, List.take_succ_cons, List.take_zero])
        first | (refine rg_take (i := 4) rfl kR kR kR (Yld.ldor rfl rfl agg36 size36 rfl (by assumption) sZ (by assumption)) HS ?_; simp only [pS]) | (refine rg_take (i := 4) rfl kR kR kR (Yld.ldr rfl rfl agg36 size36 rfl mR sZ) HS ?_; simp only [pS]) | (refine rg_take (i := 4) rfl kR kR kR (Yld.ldl rfl rfl agg36 size36 rfl mR (by simp)) HS ?_; simp only [pS]; simp only [List.drop_succ_cons, List.drop_zero, List.take_succ_cons, List.take_zero])
        refine rg_take (i := 5) rfl kR kR kR (Yld.o rfl) HS ?_; simp only [pS]
        refine rg_done (by kernel_rfl) ?_
        go_wp2_with (first | (with_reducible refine wpl rfl (dQ 3 rfl ?_); with_reducible refine (Stp.box 3 rfl rfl rfl H ?_); clear H; intro g3 w1 H; simp only [pS]; simp only [pE, nC, pS] at H))
        go_ret
        exact ⟨_, rfl, by rw [HV.out]; rfl, H.below⟩
      · have HRK : Hid (rank (l.take (k + 1)) p = none) := Lib.hid (by rw [hs1, rank_snoc, HT.out, if_neg he0])
        obtain ⟨z, t⟩ := p
        have he := eqPD_no x y z t he0
        clear hs1 hx hra he0
        go_wp2_with (first | (with_reducible refine wpl rfl (dQ 3 rfl ?_); with_reducible refine (Stp.box 3 rfl rfl rfl H ?_); clear H; intro g3 w1 H; simp only [pS]; simp only [pE, nC, pS] at H))
        refine rg_begin 6 rfl (S := fun W => St _ _ W _) (by kernel_rfl) H.drew ?_
        replace H := H.drew
        have HS := H
        refine rg_take (i := 0) rfl kR kR kR (Yld.move rfl rfl) HS ?_; simp only [pS, pE]
        refine rg_take (i := 1) rfl kR kR kR (Yld.move rfl rfl) HS ?_; simp only [pS, pE]
        refine rg_take (i := 2) rfl kR kR kR (Yld.o rfl) HS ?_; simp only [pS]
        first | (refine rg_take (i := 3) rfl kR kR kR (Yld.ldor rfl rfl agg36 size36 rfl (by assumption) sZ (by assumption)) HS ?_; simp only [pS]) | (refine rg_take (i := 3) rfl kR kR kR (Yld.ldr rfl rfl agg36 size36 rfl mR sZ) HS ?_; simp only [pS]) | (refine rg_take (i := 3) rfl kR kR kR (Yld.ldl rfl rfl agg36 size36 rfl mR (by simp)) HS ?_; simp only [pS]; simp only [List.drop_succ_cons, List.drop_zero, List.take_succ_cons, List.take_zero])
        first | (refine rg_take (i := 4) rfl kR kR kR (Yld.ldor rfl rfl agg36 size36 rfl (by assumption) sZ (by assumption)) HS ?_; simp only [pS]) | (refine rg_take (i := 4) rfl kR kR kR (Yld.ldr rfl rfl agg36 size36 rfl mR sZ) HS ?_; simp only [pS]) | (refine rg_take (i := 4) rfl kR kR kR (Yld.ldl rfl rfl agg36 size36 rfl mR (by simp)) HS ?_; simp only [pS]; simp only [List.drop_succ_cons, List.drop_zero, List.take_succ_cons, List.take_zero])
        refine rg_take (i := 5) rfl kR kR kR (Yld.o rfl) HS ?_; simp only [pS]
        refine rg_done (by kernel_rfl) ?_
        go_wp2_with (first | (with_reducible refine wpl rfl (dQ 3 rfl ?_); with_reducible refine (Stp.box 3 rfl rfl rfl H ?_); clear H; intro g3 w1 H; simp only [pS]; simp only [pE, nC, pS] at H))
        go_roundw
        case rel => exact ⟨k + 1, by omega, by go_num, HRK, H⟩
        case measure => simp [intOf]; omega
    · obtain rfl : k = n := by omega
      have HV : Hid (atR l p = -1) := Lib.hid (by
        have := HT.out
        rw [List.take_of_length_le (by rw [HN.out]; omega)] at this
        unfold atR; rw [this])
      go_wp2_with (first | (with_reducible refine wpl rfl (dQ 3 rfl ?_); with_reducible refine (Stp.box 3 rfl rfl rfl H ?_); clear H; intro g3 w1 H; simp only [pS]; simp only [pE, nC, pS] at H))
      go_ret
      exact ⟨_, rfl, by rw [HV.out]; rfl, H.below⟩
end Go.Proofs.Ytjghcmejmdllbaa

namespace Go.Proofs.Ytjghcmejmdllbaa
open Go.ChangeShapes Go.WideShapes Go.ChangeAt Go.RowKit Go.Deep
set_option linter.unusedVariables false
set_option linter.unusedSimpArgs false
set_option maxRecDepth 100000
/-- The blocks that were there. -/
abbrev Old (W : World) : Nat → Prop := fun b => b < W.heap.size
section
variable {H : Type} {enc : TypeId × Value → H}
theorem cells_ps {fuel : Nat} {W : World} {cs : List Value} {y : DataW H × List MemPlace} (hf : DataW.trod enc Try.prog W 0 (fun _ => true) true fuel 23 cs = some y) :
    ∃ (a : Option Addr) (c : Nat) (l : List Pr), cs = [.slice a l.length c] ∧ l.length ≤ c ∧ okPids l ∧ SlG (Old W) W 2 l.length (.slice a l.length c) (elQ l) := by
  obtain ⟨a, n, c, E, rfl, hc, hS, hel⟩ := cells_sl (size := 2) Try.underlying23 (by kernel_rfl) (by omega) hf
  have hex : ∀ i, ∃ q : Pr, i < n → E i = #[.int .u16 (q.1 : Int), .int .u32 (q.2 : Int)] ∧ q.1 < 65536 ∧ q.2 < 4294967296 := fun i => by
    by_cases hi : i < n
    · obtain ⟨hs, fuel, y, ht⟩ := hel i hi
      obtain ⟨p, q, e0, h1, h2⟩ := cells_pid ht
      exact ⟨(p, q), fun _ => ⟨Array.toList_inj.1 e0, h1, h2⟩⟩
    · exact ⟨(0, 0), fun hn => absurd hn hi⟩
  have hlen : ((List.range n).map fun i => Classical.choose (hex i)).length = n := by simp
  refine ⟨a, c, (List.range n).map fun i => Classical.choose (hex i), by rw [hlen], by rw [hlen]; exact hc, ?_, ?_⟩
  · intro q hq
    obtain ⟨i, hi, rfl⟩ := List.mem_map.1 hq
    exact ((Classical.choose_spec (hex i)) (by simpa using hi)).2
  · rw [hlen]
    refine SlG.of_sl ?_
    obtain ⟨a', c', e, hm, hc'⟩ := hS
    injection e with e1 e2 e3
    subst e1
    refine ⟨a, c, rfl, hm, fun h0 => ?_⟩
    obtain ⟨b, off, rfl, hb, hcell⟩ := hc' h0
    refine ⟨b, off, rfl, hb, fun i hi j hj => ?_⟩
    rw [hcell i hi j hj, (Classical.choose_spec (hex i) hi).1]
    simp [elQ, List.getD, hi]
theorem cells_lv {fuel : Nat} {W : World} {cs : List Value} {y : DataW H × List MemPlace} (hf : DataW.trod enc Try.prog W 0 (fun _ => true) true fuel 24 cs = some y) :
    ∃ (a : Option Addr) (c : Nat) (ls : List (List Pr)), cs = [.slice a ls.length c] ∧ ls.length ≤ c ∧ (∀ l ∈ ls, okPids l) ∧ LvG (Old W) W (.slice a ls.length c) ls := by
  obtain ⟨a, n, c, E, rfl, hc, hS, hel⟩ := cells_sl (size := 1) Try.underlying24 (by kernel_rfl) (by omega) hf
  have hex : ∀ i, ∃ q : Option Addr × Nat × List Pr, i < n → E i = #[.slice q.1 q.2.2.length q.2.1] ∧ okPids q.2.2 ∧ SlG (Old W) W 2 q.2.2.length (.slice q.1 q.2.2.length q.2.1) (elQ q.2.2) := fun i => by
    by_cases hi : i < n
    · obtain ⟨hs, fuel, y, ht⟩ := hel i hi
      obtain ⟨p, q, l, e0, _, h1, h2⟩ := cells_ps ht
      exact ⟨(p, q, l), fun _ => ⟨Array.toList_inj.1 e0, h1, h2⟩⟩
    · exact ⟨(none, 0, []), fun hn => absurd hn hi⟩
  have hlen : ((List.range n).map fun i => (Classical.choose (hex i)).2.2).length = n := by simp
  have hget : ∀ i, i < n → ((List.range n).map fun i => (Classical.choose (hex i)).2.2).getD i [] = (Classical.choose (hex i)).2.2 := fun i hi => by simp [List.getD, hi]
  refine ⟨a, c, (List.range n).map fun i => (Classical.choose (hex i)).2.2, by rw [hlen], by rw [hlen]; exact hc, ?_, ?_⟩
  · intro q hq
    obtain ⟨i, hi, rfl⟩ := List.mem_map.1 hq
    exact ((Classical.choose_spec (hex i)) (by simpa using hi)).2.1
  · refine ⟨fun i => .slice (Classical.choose (hex i)).1 (Classical.choose (hex i)).2.2.length (Classical.choose (hex i)).2.1, ?_, ?_⟩
    · rw [hlen]
      refine SlG.of_sl ?_
      obtain ⟨a', c', e, hm, hc'⟩ := hS
      injection e with e1 e2 e3
      subst e1
      refine ⟨a, c, rfl, hm, fun h0 => ?_⟩
      obtain ⟨b, off, rfl, hb, hcell⟩ := hc' h0
      refine ⟨b, off, rfl, hb, fun i hi j hj => ?_⟩
      rw [hcell i hi j hj, (Classical.choose_spec (hex i) hi).1]
    · intro i hi
      rw [hlen] at hi
      rw [hget i hi]
      exact ((Classical.choose_spec (hex i)) hi).2.2
theorem cells_vw {fuel : Nat} {W : World} {cs : List Value} {y : DataW H × List MemPlace} (hf : DataW.trod enc Try.prog W 0 (fun _ => true) true fuel 26 cs = some y) :
    ∃ (x : Vw) (ma la da : Option Addr) (mc lc dc : Nat), cs = (vwC x ma la da mc lc dc).toList ∧ wfV x ∧ VwG (Old W) W (.slice ma x.mem.length mc) (.slice la x.lvs.length lc) (.slice da x.ldr.length dc) x := by
  obtain ⟨xs, n, _, _, hl, hx, hfl⟩ := DataW.trod_struct Try.underlying26 hf
  have hC26 : Try.prog.cellsOf 26 = 4 := by kernel_rfl
  have hC22 : Try.prog.cellsOf 22 = 1 := by kernel_rfl
  have hC23 : Try.prog.cellsOf 23 = 1 := by kernel_rfl
  have hC24 : Try.prog.cellsOf 24 = 1 := by kernel_rfl
  rw [hC26] at hl
  match cs, hl with
  | [c0, c1, c2, c3], _ =>
    match xs, hx with
    | [x0, x1, x2, x3], _ =>
      have h0 := hfl 0 _ rfl
      have h1 := hfl 1 _ rfl
      have h2 := hfl 2 _ rfl
      have h3 := hfl 3 _ rfl
      simp only [List.getElem_toArray, List.getElem_cons_zero, List.getElem_cons_succ, hC22, hC23, hC24, List.drop_zero, List.drop_succ_cons, List.take_succ_cons, List.take_zero, List.getElem?_cons_zero, List.getElem?_cons_succ] at h0 h1 h2 h3
      obtain ⟨k0, e0, _, w0⟩ := DataW.trod_int Try.underlying22 h0
      obtain ⟨ma, mc, l1, e1, _, o1, s1⟩ := cells_ps h1
      obtain ⟨la, lc, l2, e2, _, o2, s2⟩ := cells_lv h2
      obtain ⟨da, dc, l3, e3, _, o3, s3⟩ := cells_ps h3
      have b0 := bounds_u64 w0
      simp only [List.cons.injEq, and_true] at e0 e1 e2 e3
      subst e0 e1 e2 e3
      refine ⟨⟨k0.toNat, l1, l2, l3⟩, ma, la, da, mc, lc, dc, ?_, ⟨by simp only; omega, o1, o2, o3⟩, s1, s2, s3⟩
      simp only [vwC]
      rw [show ((k0.toNat : Nat) : Int) = k0 by omega]
theorem cells_cm {fuel : Nat} {W : World} {cs : List Value} {y : DataW H × List MemPlace} (hf : DataW.trod enc Try.prog W 0 (fun _ => true) true fuel 43 cs = some y) :
    ∃ (c : Cm) (ba ma la da : Option Addr) (bc mc lc dc : Nat), cs = (cmC c ba ma la da bc mc lc dc).toList ∧ wfC c ∧ CmG (Old W) W (.slice ba c.data.length bc) (.slice ma c.v.mem.length mc) (.slice la c.v.lvs.length lc) (.slice da c.v.ldr.length dc) c := by
  obtain ⟨xs, n, _, _, hl, hx, hfl⟩ := DataW.trod_struct Try.underlying43 hf
  have hC43 : Try.prog.cellsOf 43 = 10 := by kernel_rfl
  have hC3 : Try.prog.cellsOf 3 = 1 := by kernel_rfl
  have hC22 : Try.prog.cellsOf 22 = 1 := by kernel_rfl
  have hC36 : Try.prog.cellsOf 36 = 2 := by kernel_rfl
  have hC37 : Try.prog.cellsOf 37 = 1 := by kernel_rfl
  have hC26 : Try.prog.cellsOf 26 = 4 := by kernel_rfl
  rw [hC43] at hl
  match cs, hl with
  | [c0, c1, c2, c3, c4, c5, c6, c7, c8, c9], _ =>
    match xs, hx with
    | [x0, x1, x2, x3, x4, x5], _ =>
      have h0 := hfl 0 _ rfl
      have h1 := hfl 1 _ rfl
      have h2 := hfl 2 _ rfl
      have h3 := hfl 3 _ rfl
      have h4 := hfl 4 _ rfl
      have h5 := hfl 5 _ rfl
      simp only [List.getElem_toArray, List.getElem_cons_zero, List.getElem_cons_succ, hC3, hC22, hC36, hC37, hC26, List.drop_zero, List.drop_succ_cons, List.take_succ_cons, List.take_zero, List.getElem?_cons_zero, List.getElem?_cons_succ] at h0 h1 h2 h3 h4 h5
      obtain ⟨k0, e0, _, w0⟩ := DataW.trod_int Try.underlying3 h0
      obtain ⟨p, q, e1, hp, hq⟩ := cells_pid h1
      obtain ⟨k2, e2, _, w2⟩ := DataW.trod_int Try.underlying22 h2
      obtain ⟨k3, e3, _, w3⟩ := DataW.trod_int Try.underlying22 h3
      obtain ⟨ba, bc, l, e4, _, hb, sb⟩ := cells_bs h4
      obtain ⟨v, ma, la, da, mc, lc, dc, e5, hv, sv⟩ := cells_vw h5
      have b2 := bounds_u64 w2
      have b3 := bounds_u64 w3
      simp only [vwC, List.toList_toArray, List.cons.injEq, and_true] at e0 e1 e2 e3 e4 e5
      obtain ⟨rfl, rfl⟩ := e1
      obtain ⟨rfl, rfl, rfl, rfl⟩ := e5
      subst e0 e2 e3 e4
      refine ⟨⟨k0, (p, q), k2.toNat, k3.toNat, l, v⟩, ba, ma, la, da, bc, mc, lc, dc, ?_, ⟨hp, hq, by simp only; omega, by simp only; omega, hb, hv⟩, SlG.of_sl sb, sv⟩
      simp only [cmC]
      rw [show ((k2.toNat : Nat) : Int) = k2 by omega, show ((k3.toNat : Nat) : Int) = k3 by omega]
/-- A command that came in. -/
theorem open_cm {W : World} {base : Nat} {v : Value} {d : DataW H} {p : List MemPlace} (hv : Value.okWide Try.prog W .any base 43 v) (h : DataW.Trod enc Try.prog W 0 (fun _ => true) true 43 v d p) :
    ∃ (c : Cm) (ba ma la da : Option Addr) (bc mc lc dc : Nat), v = .agg (cmC c ba ma la da bc mc lc dc) ∧ wfC c ∧ CmG (Old W) W (.slice ba c.data.length bc) (.slice ma c.v.mem.length mc) (.slice la c.v.lvs.length lc) (.slice da c.v.ldr.length dc) c := by
  unfold Value.okWide at hv
  simp only [Try.underlying43] at hv
  obtain ⟨cs, rfl, hs, _⟩ := hv
  obtain ⟨fuel, hf⟩ := h
  obtain ⟨c, ba, ma, la, da, bc, mc, lc, dc, e, h1, h2⟩ := cells_cm hf
  exact ⟨c, ba, ma, la, da, bc, mc, lc, dc, congrArg Value.agg (Array.toList_inj.1 e), h1, h2⟩
theorem open_vw {W : World} {base : Nat} {v : Value} {d : DataW H} {p : List MemPlace} (hv : Value.okWide Try.prog W .any base 26 v) (h : DataW.Trod enc Try.prog W 0 (fun _ => true) true 26 v d p) :
    ∃ (x : Vw) (ma la da : Option Addr) (mc lc dc : Nat), v = .agg (vwC x ma la da mc lc dc) ∧ wfV x ∧ VwG (Old W) W (.slice ma x.mem.length mc) (.slice la x.lvs.length lc) (.slice da x.ldr.length dc) x := by
  unfold Value.okWide at hv
  simp only [Try.underlying26] at hv
  obtain ⟨cs, rfl, hs, _⟩ := hv
  obtain ⟨fuel, hf⟩ := h
  obtain ⟨x, ma, la, da, mc, lc, dc, e, h1, h2⟩ := cells_vw hf
  exact ⟨x, ma, la, da, mc, lc, dc, congrArg Value.agg (Array.toList_inj.1 e), h1, h2⟩
end
end Go.Proofs.Ytjghcmejmdllbaa

namespace Go.Proofs.Ytjghcmejmdllbaa
open Go.ChangeShapes Go.WideShapes Go.ChangeAt Go.RowKit Go.Maps
set_option linter.unusedVariables false
set_option linter.unusedSimpArgs false
theorem atR_neg {l : List Pr} {p : Pr} (h : p ∉ l) : atR l p = -1 := by unfold atR; rw [rank_none.2 h]
theorem atR_nn {l : List Pr} {p : Pr} (h : p ∈ l) : ∃ k : Nat, k < l.length ∧ atR l p = (k : Int) := by
  unfold atR
  cases hr : rank l p with
  | none => exact absurd h (rank_none.1 hr)
  | some k => exact ⟨k, (rank_lt hr).1, rfl⟩
set_option maxRecDepth 100000 in
set_option maxHeartbeats 1000000 in
theorem pindex_is (va : Value) (l : List Pr) (p : Pr) (w : World) (ha : Sl w 2 l.length va (elQ l)) :
    Calls Try.prog 117 #[va, .agg #[.int .u16 (p.1 : Int), .int .u32 (p.2 : Int)]] w (Ret fun v w' => v = .int .i64 (atR l p) ∧ Below w.heap.size w w') := by
  have H := St.init w
  have ha' := ha
  obtain ⟨aa, ca, rfl, hma, _⟩ := ha'
  unfold maxLen at hma
  obtain ⟨n, hn⟩ : ∃ n, l.length = n := ⟨_, rfl⟩
  have HN := Lib.hid hn
  rw [hn] at ha hma ⊢
  clear hn
  go_enter Try.func117, Try.ntmps117
  go_wp2_with (first | (with_reducible refine wpl rfl (dQ 3 rfl ?_); with_reducible refine (Stp.box 3 rfl rfl rfl H ?_); clear H; intro g3 w1 H; simp only [pS]; simp only [pE, nC, pS] at H))
  go_loopw [8] (fun i wr => ∃ k : Nat, k ≤ n ∧ i = .int .i64 k ∧ Hid (rank (l.take k) p = none) ∧ St w.heap.size w wr [row 36 g3 #[.int .u16 (p.1 : Int), .int .u32 (p.2 : Int)]]) (fun i _ => n - (intOf i).toNat)
  case atStart => exact ⟨0, Nat.zero_le _, rfl, Lib.hid (by simp [rank]), H⟩
  case round =>
    clear H
    obtain ⟨k, hk, rfl, HT, H⟩ := hrel
    by_cases hlt : k < n
    · have hl1 : k < l.length := by rw [HN.out]; exact hlt
      obtain ⟨b1, o1, rfl, hb1⟩ := ha.addr (by omega)
      have hc1 := ha.cell hlt
      unfold elQ at hc1
      rw [getD_at hl1] at hc1
      have hs1 := List.take_succ_eq_append_getElem hl1
      have hra := rank_at (p := p) hl1 HT.out
      obtain ⟨⟨x, y⟩, hx⟩ : ∃ x, l[k] = x := ⟨_, rfl⟩
      rw [hx] at hc1 hs1 hra
      have kli : (k : Int) < (n : Int) := by omega
      by_cases he0 : (x, y) = p
      · have HV : Hid (atR l p = k) := Lib.hid (by unfold atR; rw [hra he0])
        obtain ⟨z, t⟩ := p
        injection he0 with e1 e2
        subst e1 e2
        have he := eqPD_yes x y
        clear hs1 hx hra
        go_wp2_with (first | (with_reducible refine wpl rfl (dQ 3 rfl ?_); with_reducible refine (Stp.box 3 rfl rfl rfl H ?_); clear H; intro g3 w1 H; simp only [pS]; simp only [pE, nC, pS] at H))
        refine rg_begin 6 rfl (S := fun W => St _ _ W _) (by kernel_rfl) H.drew ?_
        replace H := H.drew
        have HS := H
        first | (refine rg_take (i := 0) rfl kR kR kR (Yld.ldor rfl rfl agg36 size36 rfl (by assumption) sZ (by assumption)) HS ?_; simp only [pS]) | (refine rg_take (i := 0) rfl kR kR kR (Yld.ldr rfl rfl agg36 size36 rfl mR sZ) HS ?_; simp only [pS]) | (refine rg_take (i := 0) rfl kR kR kR (Yld.ldl rfl rfl agg36 size36 rfl mR (by simp)) HS ?_; simp only [pS]; simp only [List.drop_succ_cons, List.drop_zero, List.take_succ_cons, List.take_zero])
        refine rg_take (i := 1) rfl kR kR kR (Yld.move rfl rfl) HS ?_; simp only [pS, pE]
        refine rg_take (i := 2) rfl kR kR kR (Yld.move rfl rfl) HS ?_; simp only [pS, pE]
        refine rg_take (i := 3) rfl kR kR kR (Yld.o rfl) HS ?_; simp only [pS]
        first | (refine rg_take (i := 4) rfl kR kR kR (Yld.ldor rfl rfl agg36 size36 rfl (by assumption) sZ (by assumption)) HS ?_; simp only [pS]) | (refine rg_take (i := 4) rfl kR kR kR (Yld.ldr rfl rfl agg36 size36 rfl mR sZ) HS ?_; simp only [pS]) | (refine rg_take (i := 4) rfl kR kR kR (Yld.ldl rfl rfl agg36 size36 rfl mR (by simp)) HS ?_; simp only [pS]; simp only [List.drop_succ_cons, List.drop_zero, List.take_succ_cons, List.take_zero])
        refine rg_take (i := 5) rfl kR kR kR (Yld.o rfl) HS ?_; simp only [pS]
        refine rg_done (by kernel_rfl) ?_
        go_wp2_with (first | (with_reducible refine wpl rfl (dQ 3 rfl ?_); with_reducible refine (Stp.box 3 rfl rfl rfl H ?_); clear H; intro g3 w1 H; simp only [pS]; simp only [pE, nC, pS] at H))
        go_ret
        exact ⟨_, rfl, by rw [HV.out]; rfl, H.below⟩
      · have HRK : Hid (rank (l.take (k + 1)) p = none) := Lib.hid (by rw [hs1, rank_snoc, HT.out, if_neg he0])
        obtain ⟨z, t⟩ := p
        have he := eqPD_no z t x y (fun e => he0 e.symm)
        clear hs1 hx hra he0
        go_wp2_with (first | (with_reducible refine wpl rfl (dQ 3 rfl ?_); with_reducible refine (Stp.box 3 rfl rfl rfl H ?_); clear H; intro g3 w1 H; simp only [pS]; simp only [pE, nC, pS] at H))
        refine rg_begin 6 rfl (S := fun W => St _ _ W _) (by kernel_rfl) H.drew ?_
        replace H := H.drew
        have HS := H
        first | (refine rg_take (i := 0) rfl kR kR kR (Yld.ldor rfl rfl agg36 size36 rfl (by assumption) sZ (by assumption)) HS ?_; simp only [pS]) | (refine rg_take (i := 0) rfl kR kR kR (Yld.ldr rfl rfl agg36 size36 rfl mR sZ) HS ?_; simp only [pS]) | (refine rg_take (i := 0) rfl kR kR kR (Yld.ldl rfl rfl agg36 size36 rfl mR (by simp)) HS ?_; simp only [pS]; simp only [List.drop_succ_cons, List.drop_zero, List.take_succ_cons, List.take_zero])
        refine rg_take (i := 1) rfl kR kR kR (Yld.move rfl rfl) HS ?_; simp only [pS, pE]
        refine rg_take (i := 2) rfl kR kR kR (Yld.move rfl rfl) HS ?_; simp only [pS, pE]
        refine rg_take (i := 3) rfl kR kR kR (Yld.o rfl) HS ?_; simp only [pS]
        first | (refine rg_take (i := 4) rfl kR kR kR (Yld.ldor rfl rfl agg36 size36 rfl (by assumption) sZ (by assumption)) HS ?_; simp only [pS]) | (refine rg_take (i := 4) rfl kR kR kR (Yld.ldr rfl rfl agg36 size36 rfl mR sZ) HS ?_; simp only [pS]) | (refine rg_take (i := 4) rfl kR kR kR (Yld.ldl rfl rfl agg36 size36 rfl mR (by simp)) HS ?_; simp only [pS]; simp only [List.drop_succ_cons, List.drop_zero, List.take_succ_cons, List.take_zero])
        refine rg_take (i := 5) rfl kR kR kR (Yld.o rfl) HS ?_; simp only [pS]
        refine rg_done (by kernel_rfl) ?_
        go_wp2_with (first | (with_reducible refine wpl rfl (dQ 3 rfl ?_); with_reducible refine (Stp.box 3 rfl rfl rfl H ?_); clear H; intro g3 w1 H; simp only [pS]; simp only [pE, nC, pS] at H))
        go_roundw
        case rel => exact ⟨k + 1, by omega, by go_num, HRK, H⟩
        case measure => simp [intOf]; omega
    · obtain rfl : k = n := by omega
      have HV : Hid (atR l p = -1) := Lib.hid (by
        have := HT.out
        rw [List.take_of_length_le (by rw [HN.out]; omega)] at this
        unfold atR; rw [this])
      go_wp2_with (first | (with_reducible refine wpl rfl (dQ 3 rfl ?_); with_reducible refine (Stp.box 3 rfl rfl rfl H ?_); clear H; intro g3 w1 H; simp only [pS]; simp only [pE, nC, pS] at H))
      go_ret
      exact ⟨_, rfl, by rw [HV.out]; rfl, H.below⟩
set_option maxRecDepth 100000 in
theorem pcontains_is (va : Value) (l : List Pr) (p : Pr) (b : Bool) (hb : decide (p ∈ l) = b) (w : World) (ha : Sl w 2 l.length va (elQ l)) :
    Calls Try.prog 102 #[va, .agg #[.int .u16 (p.1 : Int), .int .u32 (p.2 : Int)]] w (Ret fun v w' => v = .bool b ∧ Below w.heap.size w w') := by
  have H := St.init w
  obtain ⟨z, hz⟩ : ∃ z, atR l p = z := ⟨_, rfl⟩
  have hd : decide (0 ≤ z) = b := by
    subst hb hz
    by_cases h : p ∈ l
    · obtain ⟨k, _, e⟩ := atR_nn h
      simp [e, h]
    · simp [atR_neg h, h]
  have HZ := Lib.hid hz
  clear hz hb
  go_enter Try.func102, Try.ntmps102
  go_wp2_with (first | (go_at_call 117; (with_reducible refine (pindex_is _ l p _ (ha.grow H.below)).mono ?_); rintro e w1 ⟨v, rfl, hr⟩; obtain ⟨rfl, hb1⟩ := hr; replace H := H.grow hb1; clear hb1; rw [HZ.out]) | (with_reducible refine wpl rfl (dQ 3 rfl ?_); with_reducible refine (Stp.box 3 rfl rfl rfl H ?_); clear H; intro g3 w1 H; simp only [pS]; simp only [pE, nC, pS] at H) | (with_reducible refine wpl rfl (ldQ (ty := 36) rfl ?_); first | (with_reducible refine (Stp.ldor rfl agg36 size36 rfl H (by assumption) sZ (by assumption) ?_); simp only [pS]) | (with_reducible refine (Stp.ldr rfl agg36 size36 rfl H mR sZ ?_); simp only [pS]) | (with_reducible refine (Stp.ldl rfl agg36 size36 rfl H mR (by simp) ?_); simp only [pS]; simp only [List.drop_succ_cons, List.drop_zero, List.take_succ_cons, List.take_zero])))
  go_ret
  exact ⟨_, rfl, rfl, H.below⟩
set_option maxRecDepth 100000 in
theorem vhas_is (x : Vw) (ma la da : Option Addr) (mc lc dc : Nat) (p : Pr) (b : Bool) (hb : decide (p ∈ x.mem) = b) (w : World) (hx : Sl w 2 x.mem.length (.slice ma x.mem.length mc) (elQ x.mem)) :
    Calls Try.prog 63 #[.agg (vwC x ma la da mc lc dc), .agg #[.int .u16 (p.1 : Int), .int .u32 (p.2 : Int)]] w (Ret fun v w' => v = .bool b ∧ Below w.heap.size w w') := by
  have H := St.init w
  simp only [vwC]
  have HB := Lib.hid hb
  clear hb
  go_enter Try.func63, Try.ntmps63
  go_wp2_with (first | (go_at_call 102; (with_reducible refine (pcontains_is _ x.mem p b HB.out _ (hx.grow H.below)).mono ?_); rintro e w1 ⟨v, rfl, hr⟩; obtain ⟨rfl, hb1⟩ := hr; replace H := H.grow hb1; clear hb1) | (with_reducible refine wpl rfl (dQ 2 rfl ?_); with_reducible refine (Stp.box 2 rfl rfl rfl H ?_); clear H; intro g2 w1 H; simp only [pS]; simp only [pE, nC, pS] at H) | (with_reducible refine wpl rfl (dQ 3 rfl ?_); with_reducible refine (Stp.box 3 rfl rfl rfl H ?_); clear H; intro g3 w1 H; simp only [pS]; simp only [pE, nC, pS] at H) | (with_reducible refine wpl rfl (ldQ (ty := 23) rfl ?_); first | (with_reducible refine (Stp.ldo rfl agg23 rfl H (by assumption) (by assumption) ?_); simp only [pS]) | (with_reducible refine (Stp.ldc rfl agg23 rfl H mR cE ?_); simp only [pS])) | (with_reducible refine wpl rfl (ldQ (ty := 36) rfl ?_); first | (with_reducible refine (Stp.ldor rfl agg36 size36 rfl H (by assumption) sZ (by assumption) ?_); simp only [pS]) | (with_reducible refine (Stp.ldr rfl agg36 size36 rfl H mR sZ ?_); simp only [pS]) | (with_reducible refine (Stp.ldl rfl agg36 size36 rfl H mR (by simp) ?_); simp only [pS]; simp only [List.drop_succ_cons, List.drop_zero, List.take_succ_cons, List.take_zero])))
  go_ret
  exact ⟨_, rfl, rfl, H.below⟩

set_option maxRecDepth 100000 in
theorem vleads_is (x : Vw) (ma la da : Option Addr) (mc lc dc : Nat) (p : Pr) (b : Bool) (hb : decide (p ∈ x.ldr) = b) (w : World) (hx : Sl w 2 x.ldr.length (.slice da x.ldr.length dc) (elQ x.ldr)) :
    Calls Try.prog 80 #[.agg (vwC x ma la da mc lc dc), .agg #[.int .u16 (p.1 : Int), .int .u32 (p.2 : Int)]] w (Ret fun v w' => v = .bool b ∧ Below w.heap.size w w') := by
  have H := St.init w
  simp only [vwC]
  have HB := Lib.hid hb
  clear hb
  go_enter Try.func80, Try.ntmps80
  go_wp2_with (first | (go_at_call 102; (with_reducible refine (pcontains_is _ x.ldr p b HB.out _ (hx.grow H.below)).mono ?_); rintro e w1 ⟨v, rfl, hr⟩; obtain ⟨rfl, hb1⟩ := hr; replace H := H.grow hb1; clear hb1) | (with_reducible refine wpl rfl (dQ 2 rfl ?_); with_reducible refine (Stp.box 2 rfl rfl rfl H ?_); clear H; intro g2 w1 H; simp only [pS]; simp only [pE, nC, pS] at H) | (with_reducible refine wpl rfl (dQ 3 rfl ?_); with_reducible refine (Stp.box 3 rfl rfl rfl H ?_); clear H; intro g3 w1 H; simp only [pS]; simp only [pE, nC, pS] at H) | (with_reducible refine wpl rfl (ldQ (ty := 23) rfl ?_); first | (with_reducible refine (Stp.ldo rfl agg23 rfl H (by assumption) (by assumption) ?_); simp only [pS]) | (with_reducible refine (Stp.ldc rfl agg23 rfl H mR cE ?_); simp only [pS])) | (with_reducible refine wpl rfl (ldQ (ty := 36) rfl ?_); first | (with_reducible refine (Stp.ldor rfl agg36 size36 rfl H (by assumption) sZ (by assumption) ?_); simp only [pS]) | (with_reducible refine (Stp.ldr rfl agg36 size36 rfl H mR sZ ?_); simp only [pS]) | (with_reducible refine (Stp.ldl rfl agg36 size36 rfl H mR (by simp) ?_); simp only [pS]; simp only [List.drop_succ_cons, List.drop_zero, List.take_succ_cons, List.take_zero])))
  go_ret
  exact ⟨_, rfl, rfl, H.below⟩

end Go.Proofs.Ytjghcmejmdllbaa

namespace Go.Proofs.Ytjghcmejmdllbaa
open Go.ChangeShapes Go.WideShapes Go.ChangeAt Go.RowKit
set_option linter.unusedVariables false
set_option linter.unusedSimpArgs false
section
variable {P : Program} {ops : Array Oper} {Q : Exit → Act → World → Prop} {S S' : World → Prop}
/-- From here on more is kept. -/
theorem rg_more (hs : ∀ w, S' w → S w) : ∀ (fuel : Nat) (listed : Array Bool) (a : Act) (w : World), wpAnyH P .any ops Q S' fuel listed a w → wpAnyH P .any ops Q S fuel listed a w
  | 0, _, _, _, h => h
  | fuel + 1, _, _, _, h => ⟨h.1, fun i hi => wpOp_mono (fun a' w' h' => ⟨hs _ h'.1, rg_more hs fuel _ a' w' h'.2⟩) (h.2 i hi)⟩
theorem rg_on {fuel : Nat} {listed : Array Bool} {a : Act} {w : World} (S' : World → Prop) (hs : ∀ w, S' w → S w) (h : wpAnyH P .any ops Q S' fuel listed a w) : wpAnyH P .any ops Q S fuel listed a w := rg_more hs _ _ _ _ h
end
/-! ### Two resources as one, apart -/
def sep (r s : Res) : Res := (fun g => r.1 g ∨ s.1 g, fun w => Sound r w ∧ Sound s w ∧ ∀ g, r.1 g → ¬ s.1 g)
theorem Sound.heap {r : Res} {w1 w2 : World} (h : Sound r w1) (hb : ∀ g, r.1 g → w2.heap[g]? = w1.heap[g]?) : Sound r w2 :=
  ⟨h.loc w1 w2 hb h.here, fun g hg => by
    have h1 := h.lt g hg
    have h2 := hb g hg
    rw [Array.getElem?_eq_getElem h1] at h2
    exact (Array.getElem?_eq_some_iff.1 h2).1, h.loc⟩
theorem sep_loc (r s : Res) : Loc (sep r s) := fun w1 w2 hb h => ⟨h.1.heap (fun g hg => hb g (.inl hg)), h.2.1.heap (fun g hg => hb g (.inr hg)), h.2.2⟩
theorem St.sep {B : Nat} {w0 w : World} {L : List Res} {r s : Res} (H : St B w0 w (r :: s :: L)) : St B w0 w (sep r s :: L) := by
  have hr := H.sound r List.mem_cons_self
  have hs := H.sound s (List.mem_cons_of_mem _ List.mem_cons_self)
  obtain ⟨ha, hp⟩ := List.pairwise_cons.1 H.apart
  obtain ⟨hb, hq⟩ := List.pairwise_cons.1 hp
  refine ⟨H.below, H.size, ?_, ?_, List.pairwise_cons.2 ⟨fun x hx g hg => ?_, hq⟩⟩
  · intro x hx
    rcases List.mem_cons.1 hx with rfl | hx
    · exact ⟨⟨hr, hs, ha s List.mem_cons_self⟩, fun g hg => hg.elim (hr.lt g) (hs.lt g), sep_loc _ _⟩
    · exact H.sound x (List.mem_cons_of_mem _ (List.mem_cons_of_mem _ hx))
  · intro x hx
    rcases List.mem_cons.1 hx with rfl | hx
    · exact fun g hg => hg.elim (H.base r List.mem_cons_self g) (H.base s (List.mem_cons_of_mem _ List.mem_cons_self) g)
    · exact H.base x (List.mem_cons_of_mem _ (List.mem_cons_of_mem _ hx))
  · exact hg.elim (ha x (List.mem_cons_of_mem _ hx) g) (hb x hx g)
theorem St.part {B : Nat} {w0 w : World} {L : List Res} {r s : Res} (H : St B w0 w (Go.Proofs.Ytjghcmejmdllbaa.sep r s :: L)) : St B w0 w (r :: s :: L) := by
  obtain ⟨h1, h2, h3⟩ := (H.sound _ List.mem_cons_self).here
  have hb := H.base _ List.mem_cons_self
  obtain ⟨ha, hp⟩ := List.pairwise_cons.1 H.apart
  refine ⟨H.below, H.size, ?_, ?_, List.pairwise_cons.2 ⟨?_, List.pairwise_cons.2 ⟨fun x hx g hg => ha x hx g (.inr hg), hp⟩⟩⟩
  · intro x hx
    rcases List.mem_cons.1 hx with rfl | hx
    · exact h1
    · rcases List.mem_cons.1 hx with rfl | hx
      · exact h2
      · exact H.sound x (List.mem_cons_of_mem _ hx)
  · intro x hx g hg
    rcases List.mem_cons.1 hx with rfl | hx
    · exact hb g (.inl hg)
    · rcases List.mem_cons.1 hx with rfl | hx
      · exact hb g (.inr hg)
      · exact H.base x (List.mem_cons_of_mem _ hx) g hg
  · intro x hx g hg
    rcases List.mem_cons.1 hx with rfl | hx
    · exact h3 g hg
    · exact ha x hx g (.inl hg)
/-! ### Elements, one by one -/
theorem collect {α : Type} (P : Nat → α → Prop) : ∀ (n : Nat), (∀ i, i < n → ∃ a, P i a) → ∃ l : List α, l.length = n ∧ ∀ i (hi : i < l.length), P i l[i]
  | 0, _ => ⟨[], rfl, fun i hi => absurd hi (Nat.not_lt_zero _)⟩
  | n + 1, h => by
    obtain ⟨l, hl, hP⟩ := collect P n (fun i hi => h i (by omega))
    obtain ⟨a, ha⟩ := h n (by omega)
    refine ⟨l ++ [a], by simp [hl], fun i hi => ?_⟩
    by_cases hin : i < l.length
    · rw [List.getElem_append_left hin]; exact hP i hin
    · have : i = l.length := by simp at hi; omega
      subst this
      rw [List.getElem_append_right (Nat.le_refl _)]
      simpa [hl] using ha
end Go.Proofs.Ytjghcmejmdllbaa
