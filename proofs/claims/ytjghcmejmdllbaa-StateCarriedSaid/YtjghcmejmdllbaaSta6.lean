/- Layer 19's reference: the state in memory; Last, Counts; the bounds stand in each. -/
import Derived.Test.YtjghcmejmdllbaaSta4
import Derived.Test.YtjghcmejmdllbaaKv
import Derived.Test.YtjghcmejmdllbaaRef7
namespace Go.Proofs.Ytjghcmejmdllbaa
open Go.ChangeShapes Go.WideShapes Go.ChangeAt Go.RowKit Go.Maps
set_option linter.unusedVariables false
set_option linter.unusedSimpArgs false
set_option linter.unusedSectionVars false
set_option maxRecDepth 100000
set_option maxHeartbeats 4000000
/-- The reference's cells. -/
abbrev xsC (x : Vw) (h : Hd) (sa : Option Addr) (n sc : Nat) (b : Nat → ByteArray) : Array Value := #[.int .u64 (x.id : Int), .slice h.ma x.mem.length h.mc, .slice h.la x.lvs.length h.lc, .slice h.da x.ldr.length h.dc, .slice sa n sc, .string (b 0), .string (b 1), .string (b 2), .string (b 3), .string (b 4), .string (b 5), .string (b 6), .string (b 7)]
def elK (qs : List (Cm × Hd)) (i : Nat) : Array Value := match qs[i]? with | some p => cmH p.1 p.2 | none => #[]
def XsAt (w : World) (gx : Nat) (x : Vw) (h : Hd) (qs : List (Cm × Hd)) (b : Nat → ByteArray) : Prop :=
  ∃ (sa : Option Addr) (sc : Nat), w.heap[gx]? = some (.cells (xsC x h sa qs.length sc b) 48 (0, 0)) ∧ Sl w 10 qs.length (.slice sa qs.length sc) (elK qs)
theorem XsAt.grow {w w' : World} {gx : Nat} {x : Vw} {h : Hd} {qs : List (Cm × Hd)} {b : Nat → ByteArray} (ha : XsAt w gx x h qs b) (hb : Below w.heap.size w w') : XsAt w' gx x h qs b := by
  obtain ⟨sa, sc, hr, hS⟩ := ha
  exact ⟨sa, sc, (hb.block gx (rowAt_lt (rowAt_of hr))).trans hr, hS.grow hb⟩
def XsR (gx : Nat) (x : Vw) (h : Hd) (qs : List (Cm × Hd)) (b : Nat → ByteArray) (R : Res) : Prop :=
  ∃ (sa : Option Addr) (sc : Nat), R = sep (row 48 gx (xsC x h sa qs.length sc b)) (slc 43 10 (.slice sa qs.length sc) qs.length (kv qs))
theorem XsR.at {B : Nat} {w0 w : World} {L : List Res} {gx : Nat} {x : Vw} {h : Hd} {qs : List (Cm × Hd)} {b : Nat → ByteArray} {R : Res} (hR : XsR gx x h qs b R) (H : St B w0 w L) (hm : R ∈ L) (hq : qs.length ≤ 1000000) : XsAt w gx x h qs b := by
  obtain ⟨sa, sc, rfl⟩ := hR
  obtain ⟨h1, h2, _⟩ := H.get hm
  refine ⟨sa, sc, h1.here, Sl.of_ownN h2.here (fun i hi j hj => ?_) (by unfold maxLen; omega)⟩
  rw [kv_get qs i qs[i] (List.getElem?_eq_getElem hi) j hj]
  simp [elK, hi]
section
variable {w : World} {gx : Nat} {x : Vw} {h : Hd} {sa : Option Addr} {n sc : Nat} {b : Nat → ByteArray}
theorem xsC_id (hr : w.heap[gx]? = some (.cells (xsC x h sa n sc b) 48 (0, 0))) : w.cell? ⟨gx, 0, none⟩ = some (.int .u64 (x.id : Int)) := by
  rw [cell_of_rowAt (rowAt_of hr)]; rfl
theorem xsC_mem (hr : w.heap[gx]? = some (.cells (xsC x h sa n sc b) 48 (0, 0))) : w.cell? ⟨gx, 1, none⟩ = some (.slice h.ma x.mem.length h.mc) := by
  rw [cell_of_rowAt (rowAt_of hr)]; rfl
theorem xsC_sent (hr : w.heap[gx]? = some (.cells (xsC x h sa n sc b) 48 (0, 0))) : w.cell? ⟨gx, 4, none⟩ = some (.slice sa n sc) := by
  rw [cell_of_rowAt (rowAt_of hr)]; rfl
end
/-- How many messages of somebody counted. -/
def rl (qs : List (Cm × Hd)) (p : Pr) : Nat := qs.foldl (fun n q => if q.1.fr = p then q.1.num else n) 0
theorem rl_snoc (qs : List (Cm × Hd)) (q : Cm × Hd) (p : Pr) : rl (qs ++ [q]) p = if q.1.fr = p then q.1.num else rl qs p := by unfold rl; rw [List.foldl_append]; rfl
theorem rlast_is (gx : Nat) (x : Vw) (h : Hd) (qs : List (Cm × Hd)) (b : Nat → ByteArray) (p : Pr) (m : Nat) (hm : rl qs p = m) (w : World) (hat : XsAt w gx x h qs b) :
    Calls Try.prog 23 #[.pointer (some ⟨gx, 0, none⟩), .agg #[.int .u16 (p.1 : Int), .int .u32 (p.2 : Int)]] w (Ret fun v w' => v = .int .u64 (m : Int) ∧ Below w.heap.size w w') := by
  have H := St.init w
  obtain ⟨sa, sc, hr, hS⟩ := hat
  have hc0 := xsC_id hr
  have hc1 := xsC_mem hr
  have hc4 := xsC_sent hr
  have hlt : gx < w.heap.size := rowAt_lt (rowAt_of hr)
  obtain ⟨n, hn⟩ : ∃ n, qs.length = n := ⟨_, rfl⟩
  have HN := Lib.hid hn
  have HM := Lib.hid hm
  rw [hn] at hc4 hS
  obtain ⟨_, _, _, hmax, _⟩ := id hS
  unfold maxLen at hmax
  clear hr hn hm hc0 hc1
  go_enter Try.func23, Try.ntmps23
  go_wp2_with (first | (with_reducible refine wpl rfl (Stp.box 3 rfl rfl rfl H ?_); clear H; intro g3 w1 H; simp only [pS]; simp only [pE, nC, pS] at H) | (with_reducible refine wpl rfl (Stp.ldc rfl agg27 rfl H mR cE ?_); simp only [pS]) | (with_reducible refine wpl rfl (Stp.ldo rfl agg27 rfl H (by assumption) (by assumption) ?_); simp only [pS]) | (with_reducible refine wpl rfl (Stp.ldc rfl agg22 rfl H mR cE ?_); simp only [pS]) | (with_reducible refine wpl rfl (Stp.ldo rfl agg22 rfl H (by assumption) (by assumption) ?_); simp only [pS]))
  go_loopw [5, 6] (fun r i wr => ∃ k : Nat, k ≤ n ∧ r = .int .u64 ((rl (qs.take k) p : Nat) : Int) ∧ i = .int .i64 (k : Int) ∧ St w.heap.size w wr [row 36 g3 #[.int .u16 (p.1 : Int), .int .u32 (p.2 : Int)]]) (fun _ i _ => n - (intOf i).toNat)
  case atStart => exact ⟨0, Nat.zero_le _, rfl, rfl, H⟩
  case round =>
    clear H
    obtain ⟨k, hk, rfl, rfl, H⟩ := hrel
    by_cases hlt2 : k < n
    · have hl1 : k < qs.length := by rw [HN.out]; exact hlt2
      obtain ⟨b1, o1, rfl, hb1⟩ := hS.addr (by omega)
      have hce := hS.cell hlt2
      have hek : elK qs k = cmH qs[k].1 qs[k].2 := by simp [elK, hl1]
      rw [hek] at hce
      have hs1 := List.take_succ_eq_append_getElem hl1
      obtain ⟨⟨c, e⟩, hq⟩ : ∃ q, qs[k] = q := ⟨_, rfl⟩
      rw [hq] at hce hs1
      have hcf : ∀ j, j < 2 → w.cell? ⟨b1, o1 + k * 10 + 1 + j, none⟩ = (#[.int .u16 (c.fr.1 : Int), .int .u32 (c.fr.2 : Int)] : Array Value)[j]? := fun j hj => by
        have := hce (1 + j) (by omega)
        rw [show o1 + k * 10 + 1 + j = o1 + k * 10 + (1 + j) by omega, this]
        have hj' : j = 0 ∨ j = 1 := by omega
        rcases hj' with rfl | rfl <;> rfl
      have hcn : w.cell? ⟨b1, o1 + k * 10 + 3, none⟩ = some (.int .u64 (c.num : Int)) := hce 3 (by omega)
      have HT := Lib.hid (rl_snoc (qs.take k) (c, e) p)
      rw [← hs1] at HT
      have kli : (k : Int) < (n : Int) := by omega
      by_cases he0 : c.fr = p
      · have HT2 : Hid (rl (qs.take (k + 1)) p = c.num) := Lib.hid (by rw [HT.out, if_pos he0])
        have he := eqPD_is c.fr.1 c.fr.2 p.1 p.2 true (by rw [he0]; simp)
        clear hs1 hq HT he0 hce hek
        go_wp2_with (first | (with_reducible refine wpl rfl (Stp.box 3 rfl rfl rfl H ?_); clear H; intro g3 w1 H; simp only [pS]; simp only [pE, nC, pS] at H) | (with_reducible refine wpl rfl (Stp.ldc rfl agg27 rfl H mR cE ?_); simp only [pS]) | (with_reducible refine wpl rfl (Stp.ldo rfl agg27 rfl H (by assumption) (by assumption) ?_); simp only [pS]) | (with_reducible refine wpl rfl (Stp.ldc rfl agg22 rfl H mR cE ?_); simp only [pS]) | (with_reducible refine wpl rfl (Stp.ldo rfl agg22 rfl H (by assumption) (by assumption) ?_); simp only [pS]))
        refine rg_begin 10 rfl (S := fun W => St _ _ W _) (by kernel_rfl) H.drew ?_
        replace H := H.drew
        have HS := H
        refine rg_take (i := 0) rfl kR kR kR (Yld.move rfl rfl) HS ?_; simp only [pS, pE]
        refine rg_take (i := 1) rfl kR kR kR (Yld.o rfl) HS ?_; simp only [pS]
        refine rg_take (i := 2) rfl kR kR kR (Yld.o rfl) HS ?_; simp only [pS]
        first | (refine rg_take (i := 3) rfl kR kR kR (Yld.ldc rfl rfl agg27 rfl mR cE) HS ?_; simp only [pS]) | (refine rg_take (i := 3) rfl kR kR kR (Yld.ldo rfl rfl agg27 rfl (by assumption) (by assumption)) HS ?_; simp only [pS])
        refine rg_take (i := 4) rfl kR kR kR (Yld.move rfl rfl) HS ?_; simp only [pS, pE]
        refine rg_take (i := 5) rfl kR kR kR (Yld.o rfl) HS ?_; simp only [pS]
        refine rg_take (i := 6) rfl kR kR kR (Yld.o rfl) HS ?_; simp only [pS]
        first | (refine rg_take (i := 7) rfl kR kR kR (Yld.ldr rfl rfl agg36 size36 rfl mR sZ) HS ?_; simp only [pS]) | (refine rg_take (i := 7) rfl kR kR kR (Yld.ldl rfl rfl agg36 size36 rfl mR (by simp)) HS ?_; simp only [pS]; simp only [List.drop_succ_cons, List.drop_zero, List.take_succ_cons, List.take_zero]) | (refine rg_take (i := 7) rfl kR kR kR (Yld.ldor rfl rfl agg36 size36 rfl (by assumption) sZ (by assumption)) HS ?_; simp only [pS])
        first | (refine rg_take (i := 8) rfl kR kR kR (Yld.ldr rfl rfl agg36 size36 rfl mR sZ) HS ?_; simp only [pS]) | (refine rg_take (i := 8) rfl kR kR kR (Yld.ldl rfl rfl agg36 size36 rfl mR (by simp)) HS ?_; simp only [pS]; simp only [List.drop_succ_cons, List.drop_zero, List.take_succ_cons, List.take_zero]) | (refine rg_take (i := 8) rfl kR kR kR (Yld.ldor rfl rfl agg36 size36 rfl (by assumption) sZ (by assumption)) HS ?_; simp only [pS])
        refine rg_take (i := 9) rfl kR kR kR (Yld.o rfl) HS ?_; simp only [pS]
        refine rg_done (by kernel_rfl) ?_
        go_wp2_with (first | (with_reducible refine wpl rfl (Stp.box 3 rfl rfl rfl H ?_); clear H; intro g3 w1 H; simp only [pS]; simp only [pE, nC, pS] at H) | (with_reducible refine wpl rfl (Stp.ldc rfl agg27 rfl H mR cE ?_); simp only [pS]) | (with_reducible refine wpl rfl (Stp.ldo rfl agg27 rfl H (by assumption) (by assumption) ?_); simp only [pS]) | (with_reducible refine wpl rfl (Stp.ldc rfl agg22 rfl H mR cE ?_); simp only [pS]) | (with_reducible refine wpl rfl (Stp.ldo rfl agg22 rfl H (by assumption) (by assumption) ?_); simp only [pS]))
        go_roundw
        case rel => exact ⟨k + 1, by omega, by rw [HT2.out], by go_num, H⟩
        case measure => simp [intOf]; omega
      · have HT2 : Hid (rl (qs.take (k + 1)) p = rl (qs.take k) p) := Lib.hid (by rw [HT.out, if_neg he0])
        have he := eqPD_is c.fr.1 c.fr.2 p.1 p.2 false (by exact decide_eq_false he0)
        clear hs1 hq HT he0 hce hek
        go_wp2_with (first | (with_reducible refine wpl rfl (Stp.box 3 rfl rfl rfl H ?_); clear H; intro g3 w1 H; simp only [pS]; simp only [pE, nC, pS] at H) | (with_reducible refine wpl rfl (Stp.ldc rfl agg27 rfl H mR cE ?_); simp only [pS]) | (with_reducible refine wpl rfl (Stp.ldo rfl agg27 rfl H (by assumption) (by assumption) ?_); simp only [pS]) | (with_reducible refine wpl rfl (Stp.ldc rfl agg22 rfl H mR cE ?_); simp only [pS]) | (with_reducible refine wpl rfl (Stp.ldo rfl agg22 rfl H (by assumption) (by assumption) ?_); simp only [pS]))
        refine rg_begin 10 rfl (S := fun W => St _ _ W _) (by kernel_rfl) H.drew ?_
        replace H := H.drew
        have HS := H
        refine rg_take (i := 0) rfl kR kR kR (Yld.move rfl rfl) HS ?_; simp only [pS, pE]
        refine rg_take (i := 1) rfl kR kR kR (Yld.o rfl) HS ?_; simp only [pS]
        refine rg_take (i := 2) rfl kR kR kR (Yld.o rfl) HS ?_; simp only [pS]
        first | (refine rg_take (i := 3) rfl kR kR kR (Yld.ldc rfl rfl agg27 rfl mR cE) HS ?_; simp only [pS]) | (refine rg_take (i := 3) rfl kR kR kR (Yld.ldo rfl rfl agg27 rfl (by assumption) (by assumption)) HS ?_; simp only [pS])
        refine rg_take (i := 4) rfl kR kR kR (Yld.move rfl rfl) HS ?_; simp only [pS, pE]
        refine rg_take (i := 5) rfl kR kR kR (Yld.o rfl) HS ?_; simp only [pS]
        refine rg_take (i := 6) rfl kR kR kR (Yld.o rfl) HS ?_; simp only [pS]
        first | (refine rg_take (i := 7) rfl kR kR kR (Yld.ldr rfl rfl agg36 size36 rfl mR sZ) HS ?_; simp only [pS]) | (refine rg_take (i := 7) rfl kR kR kR (Yld.ldl rfl rfl agg36 size36 rfl mR (by simp)) HS ?_; simp only [pS]; simp only [List.drop_succ_cons, List.drop_zero, List.take_succ_cons, List.take_zero]) | (refine rg_take (i := 7) rfl kR kR kR (Yld.ldor rfl rfl agg36 size36 rfl (by assumption) sZ (by assumption)) HS ?_; simp only [pS])
        first | (refine rg_take (i := 8) rfl kR kR kR (Yld.ldr rfl rfl agg36 size36 rfl mR sZ) HS ?_; simp only [pS]) | (refine rg_take (i := 8) rfl kR kR kR (Yld.ldl rfl rfl agg36 size36 rfl mR (by simp)) HS ?_; simp only [pS]; simp only [List.drop_succ_cons, List.drop_zero, List.take_succ_cons, List.take_zero]) | (refine rg_take (i := 8) rfl kR kR kR (Yld.ldor rfl rfl agg36 size36 rfl (by assumption) sZ (by assumption)) HS ?_; simp only [pS])
        refine rg_take (i := 9) rfl kR kR kR (Yld.o rfl) HS ?_; simp only [pS]
        refine rg_done (by kernel_rfl) ?_
        go_wp2_with (first | (with_reducible refine wpl rfl (Stp.box 3 rfl rfl rfl H ?_); clear H; intro g3 w1 H; simp only [pS]; simp only [pE, nC, pS] at H) | (with_reducible refine wpl rfl (Stp.ldc rfl agg27 rfl H mR cE ?_); simp only [pS]) | (with_reducible refine wpl rfl (Stp.ldo rfl agg27 rfl H (by assumption) (by assumption) ?_); simp only [pS]) | (with_reducible refine wpl rfl (Stp.ldc rfl agg22 rfl H mR cE ?_); simp only [pS]) | (with_reducible refine wpl rfl (Stp.ldo rfl agg22 rfl H (by assumption) (by assumption) ?_); simp only [pS]))
        go_roundw
        case rel => exact ⟨k + 1, by omega, by rw [HT2.out], by go_num, H⟩
        case measure => simp [intOf]; omega
    · obtain rfl : k = n := by omega
      have HV : Hid (rl (qs.take k) p = m) := Lib.hid (by rw [List.take_of_length_le (by rw [HN.out]; omega)]; exact HM.out)
      go_wp2_with (first | (with_reducible refine wpl rfl (Stp.box 3 rfl rfl rfl H ?_); clear H; intro g3 w1 H; simp only [pS]; simp only [pE, nC, pS] at H) | (with_reducible refine wpl rfl (Stp.ldc rfl agg27 rfl H mR cE ?_); simp only [pS]) | (with_reducible refine wpl rfl (Stp.ldo rfl agg27 rfl H (by assumption) (by assumption) ?_); simp only [pS]) | (with_reducible refine wpl rfl (Stp.ldc rfl agg22 rfl H mR cE ?_); simp only [pS]) | (with_reducible refine wpl rfl (Stp.ldo rfl agg22 rfl H (by assumption) (by assumption) ?_); simp only [pS]))
      go_ret
      exact ⟨_, rfl, by rw [HV.out]; rfl, H.below⟩
attribute [local irreducible] cErr rl atR
theorem rcounts_is {G1 : Nat → Prop} (gx : Nat) (x : Vw) (h : Hd) (qs : List (Cm × Hd)) (b : Nat → ByteArray) (c : Cm) (e : Hd) (hm : smV c.v) (r : Bool) (hres : cntS x (rl qs c.fr) c = r) (w : World) (hat : XsAt w gx x h qs b) (hv : Sl w 2 x.mem.length (.slice h.ma x.mem.length h.mc) (elQ x.mem))
    (hx : CmG G1 w (.slice e.ba c.data.length e.bc) (.slice e.ma c.v.mem.length e.mc) (.slice e.la c.v.lvs.length e.lc) (.slice e.da c.v.ldr.length e.dc) c) :
    Calls Try.prog 17 #[.pointer (some ⟨gx, 0, none⟩), .agg (cmH c e)] w (Ret fun v w' => v = .bool r ∧ Below w.heap.size w w') := by
  have H := St.init w
  have HAT := Lib.hid hat
  obtain ⟨sa, sc, hr, hS⟩ := hat
  have hc0 := xsC_id hr
  have hc1 := xsC_mem hr
  have hc4 := xsC_sent hr
  have hlt : gx < w.heap.size := rowAt_lt (rowAt_of hr)
  clear hr hS
  simp only [cmH, cmC]
  obtain ⟨e0, he⟩ : ∃ e, cErr c = e := ⟨_, rfl⟩
  have HE := Lib.hid he
  by_cases he0 : e0 = 0
  · subst he0
    by_cases k2 : c.kind = 2
    · have i2 : (c.kind == 2) = true := by simp [k2]
      obtain ⟨m, hm1⟩ : ∃ m : Nat, (rl qs c.fr + 1) % 18446744073709551616 = m := ⟨_, rfl⟩
      have HW1 : Hid (IntKind.u64.wrap (((rl qs c.fr : Nat) : Int) + 1) = (m : Int)) := Lib.hid (by rw [wrap64s, hm1])
      obtain ⟨b3, hb3⟩ : ∃ b3, decide (c.num = m) = b3 := ⟨_, rfl⟩
      have HN : Hid (((c.num : Int) == (m : Int)) = b3) := Lib.hid (by rw [← hb3, Bool.eq_iff_iff]; simp; omega)
      obtain ⟨z, hz⟩ : ∃ z, atR x.mem c.fr = z := ⟨_, rfl⟩
      have HZ := Lib.hid hz
      obtain ⟨bb, hbb⟩ : ∃ bb, decide (c.fr ∈ x.mem) = bb := ⟨_, rfl⟩
      have HZ0 : Hid (decide (0 ≤ z) = bb) := Lib.hid (by
        rw [← hbb, ← hz]
        by_cases h : c.fr ∈ x.mem
        · obtain ⟨k, _, e⟩ := atR_nn h
          simp [e, h]
        · simp [atR_neg h, h])
      by_cases hvw : c.vw = x.id
      · have iv : ((c.vw : Int) == (x.id : Int)) = true := by simp [hvw]
        have hr : r = (bb && b3) := by
          rw [← hres]; unfold cntS
          rw [he, hm1, hbb, hb3]
          simp [k2, hvw]
        clear he k2 hm1 hb3 hbb hvw hres hz
        cases bb
        · subst hr
          go_enter Try.func17, Try.ntmps17
          go_wp2_with (first | (go_at_call 64; (with_reducible refine (rccheck_is c e.ba e.ma e.la e.da e.bc e.mc e.lc e.dc hm _ _ HE.out (hx.grow H.below)).mono ?_); rintro e w1 ⟨v, rfl, hr⟩; obtain ⟨rfl, hb1⟩ := hr; replace H := H.grow hb1; clear hb1) | (with_reducible refine wpl rfl (Stp.box 3 rfl rfl rfl H ?_); clear H; intro g3 w1 H; simp only [pS]; simp only [pE, nC, pS] at H) | (with_reducible refine wpl rfl (Stp.ldr rfl agg43 size43 rfl H mR sZ ?_); simp only [pS]) | (with_reducible refine wpl rfl (Stp.ldl rfl agg43 size43 rfl H mR (by simp) ?_); simp only [pS]; simp only [List.drop_succ_cons, List.drop_zero, List.take_succ_cons, List.take_zero]) | (with_reducible refine wpl rfl (Stp.ldor rfl agg43 size43 rfl H (by assumption) sZ (by assumption) ?_); simp only [pS]) | (with_reducible refine wpl rfl (Stp.ldc rfl agg3 rfl H mR cE ?_); simp only [pS]) | (with_reducible refine wpl rfl (Stp.ldo rfl agg3 rfl H (by assumption) (by assumption) ?_); simp only [pS]))
          refine rg_begin 30 rfl (S := fun W => St _ _ W (row 43 g3 #[.int .i64 c.kind, .int .u16 (c.fr.1 : Int), .int .u32 (c.fr.2 : Int), .int .u64 (c.num : Int), .int .u64 (c.vw : Int), .slice e.ba c.data.length e.bc, .int .u64 (c.v.id : Int), .slice e.ma c.v.mem.length e.mc, .slice e.la c.v.lvs.length e.lc, .slice e.da c.v.ldr.length e.dc] :: [])) (by kernel_rfl) (H.drew.sub sU) ?_
          replace H := H.drew
          have HS := H
          refine rg_take (i := 0) rfl kR kR kR (Yld.o rfl) HS ?_; simp only [pS]
          first | (refine rg_take (i := 1) rfl kR kR kR (Yld.ldc rfl rfl agg22 rfl mR cE) HS ?_; simp only [pS]) | (refine rg_take (i := 1) rfl kR kR kR (Yld.ldo rfl rfl agg22 rfl (by assumption) (by assumption)) HS ?_; simp only [pS])
          refine rg_take (i := 2) rfl kR kR kR (Yld.move rfl rfl) HS ?_; simp only [pS, pE]
          refine rg_take (i := 3) rfl kR kR kR (Yld.o rfl) HS ?_; simp only [pS]
          refine rg_take (i := 4) rfl kR kR kR (Yld.o rfl) HS ?_; simp only [pS]
          refine rg_take (i := 5) rfl kR kR kR (Yld.o rfl) HS ?_; simp only [pS]
          first | (refine rg_take (i := 6) rfl kR kR kR (Yld.ldc rfl rfl agg22 rfl mR cE) HS ?_; simp only [pS]) | (refine rg_take (i := 6) rfl kR kR kR (Yld.ldo rfl rfl agg22 rfl (by assumption) (by assumption)) HS ?_; simp only [pS])
          refine rg_take (i := 7) rfl kR kR kR (Yld.o rfl) HS ?_; simp only [pS]
          refine rg_take (i := 8) rfl kR kR kR (Yld.move rfl rfl) HS ?_; simp only [pS, pE]
          refine rg_take (i := 9) rfl kR kR kR (Yld.move rfl rfl) HS ?_; simp only [pS, pE]
          refine rg_take (i := 10) rfl kR kR kR (Yld.o rfl) HS ?_; simp only [pS]
          refine rg_take (i := 11) rfl kR kR kR (Yld.o rfl) HS ?_; simp only [pS]
          refine rg_take (i := 12) rfl kR kR kR (Yld.o rfl) HS ?_; simp only [pS]
          first | (refine rg_take (i := 13) rfl kR kR kR (Yld.ldc rfl rfl agg23 rfl mR cE) HS ?_; simp only [pS]) | (refine rg_take (i := 13) rfl kR kR kR (Yld.ldo rfl rfl agg23 rfl (by assumption) (by assumption)) HS ?_; simp only [pS])
          refine rg_take (i := 14) rfl kR kR kR (Yld.o rfl) HS ?_; simp only [pS]
          first | (refine rg_take (i := 15) rfl kR kR kR (Yld.ldr rfl rfl agg36 size36 rfl mR sZ) HS ?_; simp only [pS]) | (refine rg_take (i := 15) rfl kR kR kR (Yld.ldl rfl rfl agg36 size36 rfl mR (by simp)) HS ?_; simp only [pS]; simp only [List.drop_succ_cons, List.drop_zero, List.take_succ_cons, List.take_zero]) | (refine rg_take (i := 15) rfl kR kR kR (Yld.ldor rfl rfl agg36 size36 rfl (by assumption) sZ (by assumption)) HS ?_; simp only [pS])
          refine rg_one (i := 16) (by kernel_rfl) rfl rfl (fun K hK => ?_)
          refine wp_callf rfl ent65 (rat_is (.slice h.ma x.mem.length h.mc) x.mem c.fr _ (hv.grow H.below)) rfl (fun v w1 hr => ?_)
          obtain ⟨rfl, hb1⟩ := hr
          replace H := H.grow hb1
          clear hb1
          rw [HZ.out]
          clear HS
          have HS := H
          refine hK.out _ _ HS ?_
          clear hK K
          simp only [pS]
          refine rg_take (i := 17) rfl kR kR kR (Yld.of (v := .bool false) rfl (fun W _ => by go_simp; first | done | (simpa using HZ0.out))) HS ?_; simp only [pS, pE]
          refine rg_take (i := 18) rfl kR kR kR (Yld.pick rfl rfl rfl) HS ?_; simp only [pS, pE]
          refine rg_take (i := 19) rfl kR kR kR (Yld.move rfl rfl) HS ?_; simp only [pS, pE]
          refine rg_take (i := 20) rfl kR kR kR (Yld.skip rfl) HS ?_; simp only [pS]
          refine rg_take (i := 21) rfl kR kR kR (Yld.skip rfl) HS ?_; simp only [pS]
          refine rg_take (i := 22) rfl kR kR kR (Yld.skip rfl) HS ?_; simp only [pS]
          refine rg_take (i := 23) rfl kR kR kR (Yld.skip rfl) HS ?_; simp only [pS]
          refine rg_take (i := 24) rfl kR kR kR (Yld.skip rfl) HS ?_; simp only [pS]
          refine rg_take (i := 25) rfl kR kR kR (Yld.skip rfl) HS ?_; simp only [pS]
          refine rg_take (i := 26) rfl kR kR kR (Yld.skip rfl) HS ?_; simp only [pS]
          refine rg_take (i := 27) rfl kR kR kR (Yld.skip rfl) HS ?_; simp only [pS]
          refine rg_take (i := 28) rfl kR kR kR (Yld.pick rfl rfl rfl) HS ?_; simp only [pS, pE]
          refine rg_take (i := 29) rfl kR kR kR (Yld.assign rfl rfl) HS ?_; simp only [pS, pE]
          refine rg_done (by kernel_rfl) ?_
          go_wp2_with (first | (with_reducible refine wpl rfl (Stp.box 3 rfl rfl rfl H ?_); clear H; intro g3 w1 H; simp only [pS]; simp only [pE, nC, pS] at H) | (with_reducible refine wpl rfl (Stp.ldr rfl agg43 size43 rfl H mR sZ ?_); simp only [pS]) | (with_reducible refine wpl rfl (Stp.ldl rfl agg43 size43 rfl H mR (by simp) ?_); simp only [pS]; simp only [List.drop_succ_cons, List.drop_zero, List.take_succ_cons, List.take_zero]) | (with_reducible refine wpl rfl (Stp.ldor rfl agg43 size43 rfl H (by assumption) sZ (by assumption) ?_); simp only [pS]) | (with_reducible refine wpl rfl (Stp.ldc rfl agg3 rfl H mR cE ?_); simp only [pS]) | (with_reducible refine wpl rfl (Stp.ldo rfl agg3 rfl H (by assumption) (by assumption) ?_); simp only [pS]))
          go_ret
          exact ⟨_, rfl, rfl, H.below⟩
        · rw [Bool.true_and] at hr
          subst hr
          go_enter Try.func17, Try.ntmps17
          go_wp2_with (first | (go_at_call 64; (with_reducible refine (rccheck_is c e.ba e.ma e.la e.da e.bc e.mc e.lc e.dc hm _ _ HE.out (hx.grow H.below)).mono ?_); rintro e w1 ⟨v, rfl, hr⟩; obtain ⟨rfl, hb1⟩ := hr; replace H := H.grow hb1; clear hb1) | (with_reducible refine wpl rfl (Stp.box 3 rfl rfl rfl H ?_); clear H; intro g3 w1 H; simp only [pS]; simp only [pE, nC, pS] at H) | (with_reducible refine wpl rfl (Stp.ldr rfl agg43 size43 rfl H mR sZ ?_); simp only [pS]) | (with_reducible refine wpl rfl (Stp.ldl rfl agg43 size43 rfl H mR (by simp) ?_); simp only [pS]; simp only [List.drop_succ_cons, List.drop_zero, List.take_succ_cons, List.take_zero]) | (with_reducible refine wpl rfl (Stp.ldor rfl agg43 size43 rfl H (by assumption) sZ (by assumption) ?_); simp only [pS]) | (with_reducible refine wpl rfl (Stp.ldc rfl agg3 rfl H mR cE ?_); simp only [pS]) | (with_reducible refine wpl rfl (Stp.ldo rfl agg3 rfl H (by assumption) (by assumption) ?_); simp only [pS]))
          refine rg_begin 30 rfl (S := fun W => St _ _ W (row 43 g3 #[.int .i64 c.kind, .int .u16 (c.fr.1 : Int), .int .u32 (c.fr.2 : Int), .int .u64 (c.num : Int), .int .u64 (c.vw : Int), .slice e.ba c.data.length e.bc, .int .u64 (c.v.id : Int), .slice e.ma c.v.mem.length e.mc, .slice e.la c.v.lvs.length e.lc, .slice e.da c.v.ldr.length e.dc] :: [])) (by kernel_rfl) (H.drew.sub sU) ?_
          replace H := H.drew
          have HS := H
          refine rg_take (i := 0) rfl kR kR kR (Yld.o rfl) HS ?_; simp only [pS]
          first | (refine rg_take (i := 1) rfl kR kR kR (Yld.ldc rfl rfl agg22 rfl mR cE) HS ?_; simp only [pS]) | (refine rg_take (i := 1) rfl kR kR kR (Yld.ldo rfl rfl agg22 rfl (by assumption) (by assumption)) HS ?_; simp only [pS])
          refine rg_take (i := 2) rfl kR kR kR (Yld.move rfl rfl) HS ?_; simp only [pS, pE]
          refine rg_take (i := 3) rfl kR kR kR (Yld.o rfl) HS ?_; simp only [pS]
          refine rg_take (i := 4) rfl kR kR kR (Yld.o rfl) HS ?_; simp only [pS]
          refine rg_take (i := 5) rfl kR kR kR (Yld.o rfl) HS ?_; simp only [pS]
          first | (refine rg_take (i := 6) rfl kR kR kR (Yld.ldc rfl rfl agg22 rfl mR cE) HS ?_; simp only [pS]) | (refine rg_take (i := 6) rfl kR kR kR (Yld.ldo rfl rfl agg22 rfl (by assumption) (by assumption)) HS ?_; simp only [pS])
          refine rg_take (i := 7) rfl kR kR kR (Yld.o rfl) HS ?_; simp only [pS]
          refine rg_take (i := 8) rfl kR kR kR (Yld.move rfl rfl) HS ?_; simp only [pS, pE]
          refine rg_take (i := 9) rfl kR kR kR (Yld.move rfl rfl) HS ?_; simp only [pS, pE]
          refine rg_take (i := 10) rfl kR kR kR (Yld.o rfl) HS ?_; simp only [pS]
          refine rg_take (i := 11) rfl kR kR kR (Yld.o rfl) HS ?_; simp only [pS]
          refine rg_take (i := 12) rfl kR kR kR (Yld.o rfl) HS ?_; simp only [pS]
          first | (refine rg_take (i := 13) rfl kR kR kR (Yld.ldc rfl rfl agg23 rfl mR cE) HS ?_; simp only [pS]) | (refine rg_take (i := 13) rfl kR kR kR (Yld.ldo rfl rfl agg23 rfl (by assumption) (by assumption)) HS ?_; simp only [pS])
          refine rg_take (i := 14) rfl kR kR kR (Yld.o rfl) HS ?_; simp only [pS]
          first | (refine rg_take (i := 15) rfl kR kR kR (Yld.ldr rfl rfl agg36 size36 rfl mR sZ) HS ?_; simp only [pS]) | (refine rg_take (i := 15) rfl kR kR kR (Yld.ldl rfl rfl agg36 size36 rfl mR (by simp)) HS ?_; simp only [pS]; simp only [List.drop_succ_cons, List.drop_zero, List.take_succ_cons, List.take_zero]) | (refine rg_take (i := 15) rfl kR kR kR (Yld.ldor rfl rfl agg36 size36 rfl (by assumption) sZ (by assumption)) HS ?_; simp only [pS])
          refine rg_one (i := 16) (by kernel_rfl) rfl rfl (fun K hK => ?_)
          refine wp_callf rfl ent65 (rat_is (.slice h.ma x.mem.length h.mc) x.mem c.fr _ (hv.grow H.below)) rfl (fun v w1 hr => ?_)
          obtain ⟨rfl, hb1⟩ := hr
          replace H := H.grow hb1
          clear hb1
          rw [HZ.out]
          clear HS
          have HS := H
          refine hK.out _ _ HS ?_
          clear hK K
          simp only [pS]
          refine rg_take (i := 17) rfl kR kR kR (Yld.of (v := .bool true) rfl (fun W _ => by go_simp; first | done | (simpa using HZ0.out))) HS ?_; simp only [pS, pE]
          refine rg_take (i := 18) rfl kR kR kR (Yld.pick rfl rfl rfl) HS ?_; simp only [pS, pE]
          refine rg_take (i := 19) rfl kR kR kR (Yld.move rfl rfl) HS ?_; simp only [pS, pE]
          refine rg_take (i := 20) rfl kR kR kR (Yld.o rfl) HS ?_; simp only [pS]
          first | (refine rg_take (i := 21) rfl kR kR kR (Yld.ldc rfl rfl agg22 rfl mR cE) HS ?_; simp only [pS]) | (refine rg_take (i := 21) rfl kR kR kR (Yld.ldo rfl rfl agg22 rfl (by assumption) (by assumption)) HS ?_; simp only [pS])
          refine rg_take (i := 22) rfl kR kR kR (Yld.move rfl rfl) HS ?_; simp only [pS, pE]
          refine rg_take (i := 23) rfl kR kR kR (Yld.o rfl) HS ?_; simp only [pS]
          first | (refine rg_take (i := 24) rfl kR kR kR (Yld.ldr rfl rfl agg36 size36 rfl mR sZ) HS ?_; simp only [pS]) | (refine rg_take (i := 24) rfl kR kR kR (Yld.ldl rfl rfl agg36 size36 rfl mR (by simp)) HS ?_; simp only [pS]; simp only [List.drop_succ_cons, List.drop_zero, List.take_succ_cons, List.take_zero]) | (refine rg_take (i := 24) rfl kR kR kR (Yld.ldor rfl rfl agg36 size36 rfl (by assumption) sZ (by assumption)) HS ?_; simp only [pS])
          refine rg_one (i := 25) (by kernel_rfl) rfl rfl (fun K hK => ?_)
          refine wp_callf rfl ent23 (rlast_is gx x h qs b c.fr _ rfl _ (HAT.out.grow H.below)) rfl (fun v w1 hr => ?_)
          obtain ⟨rfl, hb1⟩ := hr
          replace H := H.grow hb1
          clear hb1
          clear HS
          have HS := H
          refine hK.out _ _ HS ?_
          clear hK K
          simp only [pS]
          refine rg_take (i := 26) rfl kR kR kR (Yld.of (v := .int .u64 (m : Int)) rfl (fun W _ => by go_simp; first | done | exact HW1.out | (rw [HW1.out]))) HS ?_; simp only [pS, pE]
          refine rg_take (i := 27) rfl kR kR kR (Yld.of (v := .bool r) rfl (fun W _ => by go_simp; first | done | exact HN.out | (rw [HN.out]))) HS ?_; simp only [pS, pE]
          refine rg_take (i := 28) rfl kR kR kR (Yld.pick rfl rfl rfl) HS ?_; simp only [pS, pE]
          refine rg_take (i := 29) rfl kR kR kR (Yld.assign rfl rfl) HS ?_; simp only [pS, pE]
          refine rg_done (by kernel_rfl) ?_
          go_wp2_with (first | (with_reducible refine wpl rfl (Stp.box 3 rfl rfl rfl H ?_); clear H; intro g3 w1 H; simp only [pS]; simp only [pE, nC, pS] at H) | (with_reducible refine wpl rfl (Stp.ldr rfl agg43 size43 rfl H mR sZ ?_); simp only [pS]) | (with_reducible refine wpl rfl (Stp.ldl rfl agg43 size43 rfl H mR (by simp) ?_); simp only [pS]; simp only [List.drop_succ_cons, List.drop_zero, List.take_succ_cons, List.take_zero]) | (with_reducible refine wpl rfl (Stp.ldor rfl agg43 size43 rfl H (by assumption) sZ (by assumption) ?_); simp only [pS]) | (with_reducible refine wpl rfl (Stp.ldc rfl agg3 rfl H mR cE ?_); simp only [pS]) | (with_reducible refine wpl rfl (Stp.ldo rfl agg3 rfl H (by assumption) (by assumption) ?_); simp only [pS]))
          go_ret
          exact ⟨_, rfl, rfl, H.below⟩
      · have iv : ((c.vw : Int) == (x.id : Int)) = false := by simp; omega
        have hr : r = false := by
          rw [← hres]; unfold cntS
          simp [k2, hvw]
        subst hr
        clear he k2 hm1 hb3 hbb hvw hres hz
        go_enter Try.func17, Try.ntmps17
        go_wp2_with (first | (go_at_call 64; (with_reducible refine (rccheck_is c e.ba e.ma e.la e.da e.bc e.mc e.lc e.dc hm _ _ HE.out (hx.grow H.below)).mono ?_); rintro e w1 ⟨v, rfl, hr⟩; obtain ⟨rfl, hb1⟩ := hr; replace H := H.grow hb1; clear hb1) | (with_reducible refine wpl rfl (Stp.box 3 rfl rfl rfl H ?_); clear H; intro g3 w1 H; simp only [pS]; simp only [pE, nC, pS] at H) | (with_reducible refine wpl rfl (Stp.ldr rfl agg43 size43 rfl H mR sZ ?_); simp only [pS]) | (with_reducible refine wpl rfl (Stp.ldl rfl agg43 size43 rfl H mR (by simp) ?_); simp only [pS]; simp only [List.drop_succ_cons, List.drop_zero, List.take_succ_cons, List.take_zero]) | (with_reducible refine wpl rfl (Stp.ldor rfl agg43 size43 rfl H (by assumption) sZ (by assumption) ?_); simp only [pS]) | (with_reducible refine wpl rfl (Stp.ldc rfl agg3 rfl H mR cE ?_); simp only [pS]) | (with_reducible refine wpl rfl (Stp.ldo rfl agg3 rfl H (by assumption) (by assumption) ?_); simp only [pS]))
        refine rg_begin 30 rfl (S := fun W => St _ _ W (row 43 g3 #[.int .i64 c.kind, .int .u16 (c.fr.1 : Int), .int .u32 (c.fr.2 : Int), .int .u64 (c.num : Int), .int .u64 (c.vw : Int), .slice e.ba c.data.length e.bc, .int .u64 (c.v.id : Int), .slice e.ma c.v.mem.length e.mc, .slice e.la c.v.lvs.length e.lc, .slice e.da c.v.ldr.length e.dc] :: [])) (by kernel_rfl) (H.drew.sub sU) ?_
        replace H := H.drew
        have HS := H
        refine rg_take (i := 0) rfl kR kR kR (Yld.o rfl) HS ?_; simp only [pS]
        first | (refine rg_take (i := 1) rfl kR kR kR (Yld.ldc rfl rfl agg22 rfl mR cE) HS ?_; simp only [pS]) | (refine rg_take (i := 1) rfl kR kR kR (Yld.ldo rfl rfl agg22 rfl (by assumption) (by assumption)) HS ?_; simp only [pS])
        refine rg_take (i := 2) rfl kR kR kR (Yld.move rfl rfl) HS ?_; simp only [pS, pE]
        refine rg_take (i := 3) rfl kR kR kR (Yld.o rfl) HS ?_; simp only [pS]
        refine rg_take (i := 4) rfl kR kR kR (Yld.o rfl) HS ?_; simp only [pS]
        refine rg_take (i := 5) rfl kR kR kR (Yld.o rfl) HS ?_; simp only [pS]
        first | (refine rg_take (i := 6) rfl kR kR kR (Yld.ldc rfl rfl agg22 rfl mR cE) HS ?_; simp only [pS]) | (refine rg_take (i := 6) rfl kR kR kR (Yld.ldo rfl rfl agg22 rfl (by assumption) (by assumption)) HS ?_; simp only [pS])
        refine rg_take (i := 7) rfl kR kR kR (Yld.o rfl) HS ?_; simp only [pS]
        refine rg_take (i := 8) rfl kR kR kR (Yld.move rfl rfl) HS ?_; simp only [pS, pE]
        refine rg_take (i := 9) rfl kR kR kR (Yld.skip rfl) HS ?_; simp only [pS]
        refine rg_take (i := 10) rfl kR kR kR (Yld.skip rfl) HS ?_; simp only [pS]
        refine rg_take (i := 11) rfl kR kR kR (Yld.skip rfl) HS ?_; simp only [pS]
        refine rg_take (i := 12) rfl kR kR kR (Yld.skip rfl) HS ?_; simp only [pS]
        refine rg_take (i := 13) rfl kR kR kR (Yld.skip rfl) HS ?_; simp only [pS]
        refine rg_take (i := 14) rfl kR kR kR (Yld.skip rfl) HS ?_; simp only [pS]
        refine rg_take (i := 15) rfl kR kR kR (Yld.skip rfl) HS ?_; simp only [pS]
        refine rg_take (i := 16) rfl kR kR kR (Yld.skip rfl) HS ?_; simp only [pS]
        refine rg_take (i := 17) rfl kR kR kR (Yld.skip rfl) HS ?_; simp only [pS]
        refine rg_take (i := 18) rfl kR kR kR (Yld.pick rfl rfl rfl) HS ?_; simp only [pS, pE]
        refine rg_take (i := 19) rfl kR kR kR (Yld.move rfl rfl) HS ?_; simp only [pS, pE]
        refine rg_take (i := 20) rfl kR kR kR (Yld.skip rfl) HS ?_; simp only [pS]
        refine rg_take (i := 21) rfl kR kR kR (Yld.skip rfl) HS ?_; simp only [pS]
        refine rg_take (i := 22) rfl kR kR kR (Yld.skip rfl) HS ?_; simp only [pS]
        refine rg_take (i := 23) rfl kR kR kR (Yld.skip rfl) HS ?_; simp only [pS]
        refine rg_take (i := 24) rfl kR kR kR (Yld.skip rfl) HS ?_; simp only [pS]
        refine rg_take (i := 25) rfl kR kR kR (Yld.skip rfl) HS ?_; simp only [pS]
        refine rg_take (i := 26) rfl kR kR kR (Yld.skip rfl) HS ?_; simp only [pS]
        refine rg_take (i := 27) rfl kR kR kR (Yld.skip rfl) HS ?_; simp only [pS]
        refine rg_take (i := 28) rfl kR kR kR (Yld.pick rfl rfl rfl) HS ?_; simp only [pS, pE]
        refine rg_take (i := 29) rfl kR kR kR (Yld.assign rfl rfl) HS ?_; simp only [pS, pE]
        refine rg_done (by kernel_rfl) ?_
        go_wp2_with (first | (with_reducible refine wpl rfl (Stp.box 3 rfl rfl rfl H ?_); clear H; intro g3 w1 H; simp only [pS]; simp only [pE, nC, pS] at H) | (with_reducible refine wpl rfl (Stp.ldr rfl agg43 size43 rfl H mR sZ ?_); simp only [pS]) | (with_reducible refine wpl rfl (Stp.ldl rfl agg43 size43 rfl H mR (by simp) ?_); simp only [pS]; simp only [List.drop_succ_cons, List.drop_zero, List.take_succ_cons, List.take_zero]) | (with_reducible refine wpl rfl (Stp.ldor rfl agg43 size43 rfl H (by assumption) sZ (by assumption) ?_); simp only [pS]) | (with_reducible refine wpl rfl (Stp.ldc rfl agg3 rfl H mR cE ?_); simp only [pS]) | (with_reducible refine wpl rfl (Stp.ldo rfl agg3 rfl H (by assumption) (by assumption) ?_); simp only [pS]))
        go_ret
        exact ⟨_, rfl, rfl, H.below⟩
    · have i2 : (c.kind == 2) = false := by simp [k2]
      by_cases k3 : c.kind = 3
      · have i3 : (c.kind == 3) = true := by simp [k3]
        obtain ⟨m, hm1⟩ : ∃ m : Nat, (x.id + 1) % 18446744073709551616 = m := ⟨_, rfl⟩
        have HW1 : Hid (IntKind.u64.wrap ((x.id : Int) + 1) = (m : Int)) := Lib.hid (by rw [wrap64s, hm1])
        obtain ⟨b3, hb3⟩ : ∃ b3, decide (c.v.id = m) = b3 := ⟨_, rfl⟩
        have HN : Hid (((c.v.id : Int) == (m : Int)) = b3) := Lib.hid (by rw [← hb3, Bool.eq_iff_iff]; simp; omega)
        have hr : r = b3 := by
          rw [← hres]; unfold cntS
          rw [he, hm1, hb3]
          simp [k3]
        subst hr
        clear he k2 k3 hm1 hb3 hres
        go_enter Try.func17, Try.ntmps17
        go_wp2_with (first | (go_at_call 64; (with_reducible refine (rccheck_is c e.ba e.ma e.la e.da e.bc e.mc e.lc e.dc hm _ _ HE.out (hx.grow H.below)).mono ?_); rintro e w1 ⟨v, rfl, hr⟩; obtain ⟨rfl, hb1⟩ := hr; replace H := H.grow hb1; clear hb1) | (with_reducible refine wpl rfl (Stp.box 3 rfl rfl rfl H ?_); clear H; intro g3 w1 H; simp only [pS]; simp only [pE, nC, pS] at H) | (with_reducible refine wpl rfl (Stp.ldr rfl agg43 size43 rfl H mR sZ ?_); simp only [pS]) | (with_reducible refine wpl rfl (Stp.ldl rfl agg43 size43 rfl H mR (by simp) ?_); simp only [pS]; simp only [List.drop_succ_cons, List.drop_zero, List.take_succ_cons, List.take_zero]) | (with_reducible refine wpl rfl (Stp.ldor rfl agg43 size43 rfl H (by assumption) sZ (by assumption) ?_); simp only [pS]) | (with_reducible refine wpl rfl (Stp.ldc rfl agg3 rfl H mR cE ?_); simp only [pS]) | (with_reducible refine wpl rfl (Stp.ldo rfl agg3 rfl H (by assumption) (by assumption) ?_); simp only [pS]))
        refine rg_begin 16 rfl (S := fun W => St _ _ W (row 43 g3 #[.int .i64 c.kind, .int .u16 (c.fr.1 : Int), .int .u32 (c.fr.2 : Int), .int .u64 (c.num : Int), .int .u64 (c.vw : Int), .slice e.ba c.data.length e.bc, .int .u64 (c.v.id : Int), .slice e.ma c.v.mem.length e.mc, .slice e.la c.v.lvs.length e.lc, .slice e.da c.v.ldr.length e.dc] :: [])) (by kernel_rfl) (H.drew.sub sU) ?_
        replace H := H.drew
        have HS := H
        refine rg_take (i := 0) rfl kR kR kR (Yld.o rfl) HS ?_; simp only [pS]
        first | (refine rg_take (i := 1) rfl kR kR kR (Yld.ldc rfl rfl agg3 rfl mR cE) HS ?_; simp only [pS]) | (refine rg_take (i := 1) rfl kR kR kR (Yld.ldo rfl rfl agg3 rfl (by assumption) (by assumption)) HS ?_; simp only [pS])
        refine rg_take (i := 2) rfl kR kR kR (Yld.o rfl) HS ?_; simp only [pS]
        refine rg_take (i := 3) rfl kR kR kR (Yld.move rfl rfl) HS ?_; simp only [pS, pE]
        refine rg_take (i := 4) rfl kR kR kR (Yld.o rfl) HS ?_; simp only [pS]
        refine rg_take (i := 5) rfl kR kR kR (Yld.o rfl) HS ?_; simp only [pS]
        first | (refine rg_take (i := 6) rfl kR kR kR (Yld.ldc rfl rfl agg22 rfl mR cE) HS ?_; simp only [pS]) | (refine rg_take (i := 6) rfl kR kR kR (Yld.ldo rfl rfl agg22 rfl (by assumption) (by assumption)) HS ?_; simp only [pS])
        refine rg_take (i := 7) rfl kR kR kR (Yld.move rfl rfl) HS ?_; simp only [pS, pE]
        refine rg_take (i := 8) rfl kR kR kR (Yld.o rfl) HS ?_; simp only [pS]
        refine rg_take (i := 9) rfl kR kR kR (Yld.o rfl) HS ?_; simp only [pS]
        refine rg_take (i := 10) rfl kR kR kR (Yld.o rfl) HS ?_; simp only [pS]
        first | (refine rg_take (i := 11) rfl kR kR kR (Yld.ldc rfl rfl agg22 rfl mR cE) HS ?_; simp only [pS]) | (refine rg_take (i := 11) rfl kR kR kR (Yld.ldo rfl rfl agg22 rfl (by assumption) (by assumption)) HS ?_; simp only [pS])
        refine rg_take (i := 12) rfl kR kR kR (Yld.of (v := .int .u64 (m : Int)) rfl (fun W _ => by go_simp; first | done | exact HW1.out | (rw [HW1.out]))) HS ?_; simp only [pS, pE]
        refine rg_take (i := 13) rfl kR kR kR (Yld.of (v := .bool r) rfl (fun W _ => by go_simp; first | done | exact HN.out | (rw [HN.out]))) HS ?_; simp only [pS, pE]
        refine rg_take (i := 14) rfl kR kR kR (Yld.pick rfl rfl rfl) HS ?_; simp only [pS, pE]
        refine rg_take (i := 15) rfl kR kR kR (Yld.assign rfl rfl) HS ?_; simp only [pS, pE]
        refine rg_done (by kernel_rfl) ?_
        go_wp2_with (first | (with_reducible refine wpl rfl (Stp.box 3 rfl rfl rfl H ?_); clear H; intro g3 w1 H; simp only [pS]; simp only [pE, nC, pS] at H) | (with_reducible refine wpl rfl (Stp.ldr rfl agg43 size43 rfl H mR sZ ?_); simp only [pS]) | (with_reducible refine wpl rfl (Stp.ldl rfl agg43 size43 rfl H mR (by simp) ?_); simp only [pS]; simp only [List.drop_succ_cons, List.drop_zero, List.take_succ_cons, List.take_zero]) | (with_reducible refine wpl rfl (Stp.ldor rfl agg43 size43 rfl H (by assumption) sZ (by assumption) ?_); simp only [pS]) | (with_reducible refine wpl rfl (Stp.ldc rfl agg3 rfl H mR cE ?_); simp only [pS]) | (with_reducible refine wpl rfl (Stp.ldo rfl agg3 rfl H (by assumption) (by assumption) ?_); simp only [pS]))
        go_ret
        exact ⟨_, rfl, rfl, H.below⟩
      · have i3 : (c.kind == 3) = false := by simp [k3]
        have hr : r = false := by
          rw [← hres]; unfold cntS
          simp [k2, k3]
        subst hr
        clear he k2 k3 hres
        go_enter Try.func17, Try.ntmps17
        go_wp2_with (first | (go_at_call 64; (with_reducible refine (rccheck_is c e.ba e.ma e.la e.da e.bc e.mc e.lc e.dc hm _ _ HE.out (hx.grow H.below)).mono ?_); rintro e w1 ⟨v, rfl, hr⟩; obtain ⟨rfl, hb1⟩ := hr; replace H := H.grow hb1; clear hb1) | (with_reducible refine wpl rfl (Stp.box 3 rfl rfl rfl H ?_); clear H; intro g3 w1 H; simp only [pS]; simp only [pE, nC, pS] at H) | (with_reducible refine wpl rfl (Stp.ldr rfl agg43 size43 rfl H mR sZ ?_); simp only [pS]) | (with_reducible refine wpl rfl (Stp.ldl rfl agg43 size43 rfl H mR (by simp) ?_); simp only [pS]; simp only [List.drop_succ_cons, List.drop_zero, List.take_succ_cons, List.take_zero]) | (with_reducible refine wpl rfl (Stp.ldor rfl agg43 size43 rfl H (by assumption) sZ (by assumption) ?_); simp only [pS]) | (with_reducible refine wpl rfl (Stp.ldc rfl agg3 rfl H mR cE ?_); simp only [pS]) | (with_reducible refine wpl rfl (Stp.ldo rfl agg3 rfl H (by assumption) (by assumption) ?_); simp only [pS]))
        refine rg_begin 16 rfl (S := fun W => St _ _ W (row 43 g3 #[.int .i64 c.kind, .int .u16 (c.fr.1 : Int), .int .u32 (c.fr.2 : Int), .int .u64 (c.num : Int), .int .u64 (c.vw : Int), .slice e.ba c.data.length e.bc, .int .u64 (c.v.id : Int), .slice e.ma c.v.mem.length e.mc, .slice e.la c.v.lvs.length e.lc, .slice e.da c.v.ldr.length e.dc] :: [])) (by kernel_rfl) (H.drew.sub sU) ?_
        replace H := H.drew
        have HS := H
        refine rg_take (i := 0) rfl kR kR kR (Yld.o rfl) HS ?_; simp only [pS]
        first | (refine rg_take (i := 1) rfl kR kR kR (Yld.ldc rfl rfl agg3 rfl mR cE) HS ?_; simp only [pS]) | (refine rg_take (i := 1) rfl kR kR kR (Yld.ldo rfl rfl agg3 rfl (by assumption) (by assumption)) HS ?_; simp only [pS])
        refine rg_take (i := 2) rfl kR kR kR (Yld.o rfl) HS ?_; simp only [pS]
        refine rg_take (i := 3) rfl kR kR kR (Yld.move rfl rfl) HS ?_; simp only [pS, pE]
        refine rg_take (i := 4) rfl kR kR kR (Yld.skip rfl) HS ?_; simp only [pS]
        refine rg_take (i := 5) rfl kR kR kR (Yld.skip rfl) HS ?_; simp only [pS]
        refine rg_take (i := 6) rfl kR kR kR (Yld.skip rfl) HS ?_; simp only [pS]
        refine rg_take (i := 7) rfl kR kR kR (Yld.skip rfl) HS ?_; simp only [pS]
        refine rg_take (i := 8) rfl kR kR kR (Yld.skip rfl) HS ?_; simp only [pS]
        refine rg_take (i := 9) rfl kR kR kR (Yld.skip rfl) HS ?_; simp only [pS]
        refine rg_take (i := 10) rfl kR kR kR (Yld.skip rfl) HS ?_; simp only [pS]
        refine rg_take (i := 11) rfl kR kR kR (Yld.skip rfl) HS ?_; simp only [pS]
        refine rg_take (i := 12) rfl kR kR kR (Yld.skip rfl) HS ?_; simp only [pS]
        refine rg_take (i := 13) rfl kR kR kR (Yld.skip rfl) HS ?_; simp only [pS]
        refine rg_take (i := 14) rfl kR kR kR (Yld.pick rfl rfl rfl) HS ?_; simp only [pS, pE]
        refine rg_take (i := 15) rfl kR kR kR (Yld.assign rfl rfl) HS ?_; simp only [pS, pE]
        refine rg_done (by kernel_rfl) ?_
        go_wp2_with (first | (with_reducible refine wpl rfl (Stp.box 3 rfl rfl rfl H ?_); clear H; intro g3 w1 H; simp only [pS]; simp only [pE, nC, pS] at H) | (with_reducible refine wpl rfl (Stp.ldr rfl agg43 size43 rfl H mR sZ ?_); simp only [pS]) | (with_reducible refine wpl rfl (Stp.ldl rfl agg43 size43 rfl H mR (by simp) ?_); simp only [pS]; simp only [List.drop_succ_cons, List.drop_zero, List.take_succ_cons, List.take_zero]) | (with_reducible refine wpl rfl (Stp.ldor rfl agg43 size43 rfl H (by assumption) sZ (by assumption) ?_); simp only [pS]) | (with_reducible refine wpl rfl (Stp.ldc rfl agg3 rfl H mR cE ?_); simp only [pS]) | (with_reducible refine wpl rfl (Stp.ldo rfl agg3 rfl H (by assumption) (by assumption) ?_); simp only [pS]))
        go_ret
        exact ⟨_, rfl, rfl, H.below⟩
  · have hi : (e0 == 0) = false := by simp [he0]
    have hj : (e0 != 0) = true := by simp [he0]
    have hr : r = false := by
      rw [← hres]; unfold cntS
      simp [he, he0]
    subst hr
    clear he he0 hres
    go_enter Try.func17, Try.ntmps17
    go_wp2_with (first | (go_at_call 64; (with_reducible refine (rccheck_is c e.ba e.ma e.la e.da e.bc e.mc e.lc e.dc hm _ _ HE.out (hx.grow H.below)).mono ?_); rintro e w1 ⟨v, rfl, hr⟩; obtain ⟨rfl, hb1⟩ := hr; replace H := H.grow hb1; clear hb1) | (with_reducible refine wpl rfl (Stp.box 3 rfl rfl rfl H ?_); clear H; intro g3 w1 H; simp only [pS]; simp only [pE, nC, pS] at H) | (with_reducible refine wpl rfl (Stp.ldr rfl agg43 size43 rfl H mR sZ ?_); simp only [pS]) | (with_reducible refine wpl rfl (Stp.ldl rfl agg43 size43 rfl H mR (by simp) ?_); simp only [pS]; simp only [List.drop_succ_cons, List.drop_zero, List.take_succ_cons, List.take_zero]) | (with_reducible refine wpl rfl (Stp.ldor rfl agg43 size43 rfl H (by assumption) sZ (by assumption) ?_); simp only [pS]) | (with_reducible refine wpl rfl (Stp.ldc rfl agg3 rfl H mR cE ?_); simp only [pS]) | (with_reducible refine wpl rfl (Stp.ldo rfl agg3 rfl H (by assumption) (by assumption) ?_); simp only [pS]))
    go_ret
    exact ⟨_, rfl, rfl, H.below⟩
end Go.Proofs.Ytjghcmejmdllbaa
