/- Layer 29 (flat): the checker in memory; what is asked of all stays (each); no condition. Layer 29 (flat): what is asked of any two stays in views of one Id (pairs); no condition. Layer 29 (flat): a stay as it is read; the rules of two stays, the rule of blocks; no condition. -/
import Derived.Test.YtbepaafgcbgmfaaFz12
import Derived.Shelf.Abstract
namespace Go.Proofs.Ytbepaafgcbgmfaa
open Go.ChangeShapes Go.WideShapes Go.ChangeAt Go.RowKit Go.Maps Go.Deep
set_option linter.unusedVariables false
set_option linter.unusedSimpArgs false
set_option linter.unusedSectionVars false
set_option maxRecDepth 100000
set_option maxHeartbeats 4000000
/-- A function value answers y by okD y, in whatever world that has grown from w. -/
def FnOk (w : World) (kf : Nat) (fi ca : Array Value) (ss : List Sy) (okD : Sy → Bool) : Prop :=
  ∀ y ∈ ss, ∀ W : World, Below w.heap.size w W → Calls Try.prog kf (fi.push (.agg #[.int .u16 (y.p.1 : Int), .int .u32 (y.p.2 : Int), .int .u64 (y.e.1.x.id : Int), .slice y.e.2.ma y.e.1.x.mem.length y.e.2.mc, .slice y.e.2.la y.e.1.x.lvs.length y.e.2.lc, .slice y.e.2.da y.e.1.x.ldr.length y.e.2.dc, .slice y.aa y.all.length y.ac, .slice y.ta y.told.length y.tc, .bool y.fol]) ++ ca) W (Ret fun v w' => v = .bool (okD y) ∧ Below W.heap.size W w')
theorem each_ok (gc : Nat) (va vb vm : Value) (oa : Option Addr) (oc : Nat) (ss : List Sy) (kf : Nat) (fi ca : Array Value) (ekf : ∀ xs (W : World), (callFunc kf xs).run Try.prog W = .ok (.enter kf xs) W) (okD : Sy → Bool) (r : Bool) (hr : ss.all okD = r) (w : World)
    (hgc : ∀ j, j < 4 → w.cell? ⟨gc, j, none⟩ = (#[va, vb, .slice oa ss.length oc, vm] : Array Value)[j]?) (hlt : gc < w.heap.size) (hs : Sl w 9 ss.length (.slice oa ss.length oc) (elS ss)) (hf : FnOk w kf fi ca ss okD) :
    Calls Try.prog 38 #[.pointer (some ⟨gc, 0, none⟩), .func (.func kf) fi ca] w (Ret fun v w' => v = .bool r ∧ Below w.heap.size w w') := by
  have H := St.init w
  have h2 : w.cell? ⟨gc, 2, none⟩ = some (.slice oa ss.length oc) := hgc 2 (by omega)
  obtain ⟨n, hn⟩ : ∃ n, ss.length = n := ⟨_, rfl⟩
  have HN := Lib.hid hn
  have hmx : n ≤ 9223372036854775807 := by obtain ⟨_, _, _, h, _⟩ := hs; rw [hn] at h; exact h
  unfold FnOk at hf
  have HF := Lib.hid hf
  have HR := Lib.hid hr
  rw [hn] at hs h2
  clear hn hgc hf hr
  go_enter Try.func38, Try.ntmps38
  go_wp2_with (first | (with_reducible refine wpl rfl (ldQ (ty := 70) rfl ?_); first | (with_reducible refine (Stp.ldo rfl agg70 rfl H (by assumption) (by assumption) ?_); simp only [pS]) | (with_reducible refine (Stp.ldc rfl agg70 rfl H mR cE ?_); simp only [pS])) | (with_reducible refine wpl rfl (ldQ (ty := 78) rfl ?_); first | (with_reducible refine (Stp.ldor rfl agg78 size78 rfl H (by assumption) sZ (by assumption) ?_); simp only [pS]) | (with_reducible refine (Stp.ldr rfl agg78 size78 rfl H mR sZ ?_); simp only [pS]) | (with_reducible refine (Stp.ldl rfl agg78 size78 rfl H mR (by simp) ?_); simp only [pS]; simp only [List.drop_succ_cons, List.drop_zero, List.take_succ_cons, List.take_zero])) | (with_reducible refine wpl rfl (dQ 6 rfl ?_); with_reducible refine (Stp.alloc 6 rfl rfl zero78 H ?_); clear H; intro g6 w1 H; simp only [pS]; simp only [nC] at H) | (with_reducible refine wpl rfl (stQ (ty := 78) rfl ?_); first | (with_reducible refine (Stp.str rfl size78 rfl rfl (by first | rfl | (simp [Value.oneCell']; done) | assumption) H uP sZ sZ ?_); clear H; intro w1 H; simp only [pS]) | (with_reducible refine (Stp.stl rfl size78 rfl rfl rfl rfl H uP (by simp) ?_); clear H; intro w1 H; simp only [pS]; simp only [List.drop_succ_cons, List.drop_zero, List.take_succ_cons, List.take_zero, List.nil_append, List.cons_append, Nat.reduceAdd] at H)))
  go_loopw [12] (fun i wr => ∃ q : Nat, q ≤ n ∧ i = .int .i64 q ∧ Hid ((ss.take q).all okD = true) ∧ St w.heap.size w wr []) (fun i _ => n - (intOf i).toNat)
  case atStart => exact ⟨0, Nat.zero_le _, rfl, Lib.hid (by simp), H⟩
  case round =>
    clear H
    obtain ⟨q, hq, rfl, HT, H⟩ := hrel
    by_cases hlt2 : q < n
    · have hl1 : q < ss.length := by rw [HN.out]; exact hlt2
      obtain ⟨b1, o1, rfl, hb1⟩ := hs.addr (by omega)
      have hc1 := hs.cell hlt2
      rw [elS_at hl1] at hc1
      have hme := Lib.hid (List.getElem_mem hl1)
      have HTk := Lib.hid (List.take_succ_eq_append_getElem hl1)
      obtain ⟨y, hy⟩ : ∃ y, ss[q] = y := ⟨_, rfl⟩
      rw [hy] at hc1 hme HTk
      unfold syc at hc1
      have qli : (q : Int) < (n : Int) := by omega
      obtain ⟨ee, hee⟩ : ∃ ee, okD y = ee := ⟨_, rfl⟩
      have HE := Lib.hid hee
      clear hee hy hl1
      cases ee
      · have HV : Hid (r = false) := Lib.hid (by
          rw [← HR.out]
          rw [List.all_eq_false]
          exact ⟨y, hme.out, by rw [HE.out]; decide⟩)
        go_wp2_with (first | (go_at_fn kf; (with_reducible refine (HF.out y hme.out _ H.below).mono ?_); rintro e w1 ⟨v, rfl, hr⟩; obtain ⟨rfl, hb1⟩ := hr; replace H := H.grow hb1; clear hb1; rw [HE.out]) | (with_reducible refine wpl rfl (ldQ (ty := 70) rfl ?_); first | (with_reducible refine (Stp.ldo rfl agg70 rfl H (by assumption) (by assumption) ?_); simp only [pS]) | (with_reducible refine (Stp.ldc rfl agg70 rfl H mR cE ?_); simp only [pS])) | (with_reducible refine wpl rfl (ldQ (ty := 78) rfl ?_); first | (with_reducible refine (Stp.ldor rfl agg78 size78 rfl H (by assumption) sZ (by assumption) ?_); simp only [pS]) | (with_reducible refine (Stp.ldr rfl agg78 size78 rfl H mR sZ ?_); simp only [pS]) | (with_reducible refine (Stp.ldl rfl agg78 size78 rfl H mR (by simp) ?_); simp only [pS]; simp only [List.drop_succ_cons, List.drop_zero, List.take_succ_cons, List.take_zero])) | (with_reducible refine wpl rfl (dQ 6 rfl ?_); with_reducible refine (Stp.alloc 6 rfl rfl zero78 H ?_); clear H; intro g6 w1 H; simp only [pS]; simp only [nC] at H) | (with_reducible refine wpl rfl (stQ (ty := 78) rfl ?_); first | (with_reducible refine (Stp.str rfl size78 rfl rfl (by first | rfl | (simp [Value.oneCell']; done) | assumption) H uP sZ sZ ?_); clear H; intro w1 H; simp only [pS]) | (with_reducible refine (Stp.stl rfl size78 rfl rfl rfl rfl H uP (by simp) ?_); clear H; intro w1 H; simp only [pS]; simp only [List.drop_succ_cons, List.drop_zero, List.take_succ_cons, List.take_zero, List.nil_append, List.cons_append, Nat.reduceAdd] at H)))
        go_ret
        exact ⟨_, rfl, by rw [HV.out]; rfl, H.below⟩
      · have HV : Hid ((ss.take (q + 1)).all okD = true) := Lib.hid (by rw [HTk.out, List.all_append, HT.out]; simp [HE.out])
        go_wp2_with (first | (go_at_fn kf; (with_reducible refine (HF.out y hme.out _ H.below).mono ?_); rintro e w1 ⟨v, rfl, hr⟩; obtain ⟨rfl, hb1⟩ := hr; replace H := H.grow hb1; clear hb1; rw [HE.out]) | (with_reducible refine wpl rfl (ldQ (ty := 70) rfl ?_); first | (with_reducible refine (Stp.ldo rfl agg70 rfl H (by assumption) (by assumption) ?_); simp only [pS]) | (with_reducible refine (Stp.ldc rfl agg70 rfl H mR cE ?_); simp only [pS])) | (with_reducible refine wpl rfl (ldQ (ty := 78) rfl ?_); first | (with_reducible refine (Stp.ldor rfl agg78 size78 rfl H (by assumption) sZ (by assumption) ?_); simp only [pS]) | (with_reducible refine (Stp.ldr rfl agg78 size78 rfl H mR sZ ?_); simp only [pS]) | (with_reducible refine (Stp.ldl rfl agg78 size78 rfl H mR (by simp) ?_); simp only [pS]; simp only [List.drop_succ_cons, List.drop_zero, List.take_succ_cons, List.take_zero])) | (with_reducible refine wpl rfl (dQ 6 rfl ?_); with_reducible refine (Stp.alloc 6 rfl rfl zero78 H ?_); clear H; intro g6 w1 H; simp only [pS]; simp only [nC] at H) | (with_reducible refine wpl rfl (stQ (ty := 78) rfl ?_); first | (with_reducible refine (Stp.str rfl size78 rfl rfl (by first | rfl | (simp [Value.oneCell']; done) | assumption) H uP sZ sZ ?_); clear H; intro w1 H; simp only [pS]) | (with_reducible refine (Stp.stl rfl size78 rfl rfl rfl rfl H uP (by simp) ?_); clear H; intro w1 H; simp only [pS]; simp only [List.drop_succ_cons, List.drop_zero, List.take_succ_cons, List.take_zero, List.nil_append, List.cons_append, Nat.reduceAdd] at H)))
        go_roundw
        case rel => exact ⟨q + 1, by omega, by go_num, HV, H.sub sU⟩
        case measure => simp [intOf]; omega
    · obtain rfl : q = n := by omega
      have HV : Hid (r = true) := Lib.hid (by
        rw [← HR.out, ← HT.out, List.take_of_length_le (by rw [HN.out]; omega)])
      go_wp2_with (first | (with_reducible refine wpl rfl (ldQ (ty := 70) rfl ?_); first | (with_reducible refine (Stp.ldo rfl agg70 rfl H (by assumption) (by assumption) ?_); simp only [pS]) | (with_reducible refine (Stp.ldc rfl agg70 rfl H mR cE ?_); simp only [pS])) | (with_reducible refine wpl rfl (ldQ (ty := 78) rfl ?_); first | (with_reducible refine (Stp.ldor rfl agg78 size78 rfl H (by assumption) sZ (by assumption) ?_); simp only [pS]) | (with_reducible refine (Stp.ldr rfl agg78 size78 rfl H mR sZ ?_); simp only [pS]) | (with_reducible refine (Stp.ldl rfl agg78 size78 rfl H mR (by simp) ?_); simp only [pS]; simp only [List.drop_succ_cons, List.drop_zero, List.take_succ_cons, List.take_zero])) | (with_reducible refine wpl rfl (dQ 6 rfl ?_); with_reducible refine (Stp.alloc 6 rfl rfl zero78 H ?_); clear H; intro g6 w1 H; simp only [pS]; simp only [nC] at H) | (with_reducible refine wpl rfl (stQ (ty := 78) rfl ?_); first | (with_reducible refine (Stp.str rfl size78 rfl rfl (by first | rfl | (simp [Value.oneCell']; done) | assumption) H uP sZ sZ ?_); clear H; intro w1 H; simp only [pS]) | (with_reducible refine (Stp.stl rfl size78 rfl rfl rfl rfl H uP (by simp) ?_); clear H; intro w1 H; simp only [pS]; simp only [List.drop_succ_cons, List.drop_zero, List.take_succ_cons, List.take_zero, List.nil_append, List.cons_append, Nat.reduceAdd] at H)))
      go_ret
      exact ⟨_, rfl, by rw [HV.out]; rfl, H.below⟩
end Go.Proofs.Ytbepaafgcbgmfaa

namespace Go.Proofs.Ytbepaafgcbgmfaa
open Go.ChangeShapes Go.WideShapes Go.ChangeAt Go.RowKit Go.Maps Go.Deep
set_option linter.unusedVariables false
set_option linter.unusedSimpArgs false
set_option linter.unusedSectionVars false
set_option maxRecDepth 100000
set_option maxHeartbeats 4000000
theorem cells_func (f : Fn) (x y : Array Value) : Value.cells (.func f x y) = #[.func f x y] := rfl
theorem ent_p1 : ∀ (xs : Array Value) (W : World), (callFunc 55 xs).run Try.prog W = .ok (.enter 55 xs) W := fun _ _ => by kernel_rfl
theorem ent_p2 : ∀ (xs : Array Value) (W : World), (callFunc 56 xs).run Try.prog W = .ok (.enter 56 xs) W := fun _ _ => by kernel_rfl
theorem cells_of {w : World} {g : Nat} {cs : Array Value} (h : rowAt w g = some cs) : ∀ j, j < 9 → w.cell? ⟨g, j, none⟩ = cs[j]? := fun j _ => cell_of_rowAt h j
/-- The Id of a stay's view. -/
def vid (y : Sy) : Nat := y.e.1.x.id
theorem pp_ok (ga go : Nat) (a b : Sy) (kf : Nat) (ekf : ∀ xs (W : World), (callFunc kf xs).run Try.prog W = .ok (.enter kf xs) W) (ok2 : Sy → Sy → Bool) (r : Bool) (hr : (!(decide (vid a = vid b)) || ok2 a b) = r) (w : World)
    (ha : ∀ j, j < 9 → w.cell? ⟨ga, j, none⟩ = (#[.int .u16 (a.p.1 : Int), .int .u32 (a.p.2 : Int), .int .u64 (a.e.1.x.id : Int), .slice a.e.2.ma a.e.1.x.mem.length a.e.2.mc, .slice a.e.2.la a.e.1.x.lvs.length a.e.2.lc, .slice a.e.2.da a.e.1.x.ldr.length a.e.2.dc, .slice a.aa a.all.length a.ac, .slice a.ta a.told.length a.tc, .bool a.fol] : Array Value)[j]?) (hga : ga < w.heap.size) (ho : w.cell? ⟨go, 0, none⟩ = some (.func (.func kf) #[] #[])) (hgo : go < w.heap.size)
    (hf : ∀ W : World, Below w.heap.size w W → Calls Try.prog kf #[.agg #[.int .u16 (a.p.1 : Int), .int .u32 (a.p.2 : Int), .int .u64 (a.e.1.x.id : Int), .slice a.e.2.ma a.e.1.x.mem.length a.e.2.mc, .slice a.e.2.la a.e.1.x.lvs.length a.e.2.lc, .slice a.e.2.da a.e.1.x.ldr.length a.e.2.dc, .slice a.aa a.all.length a.ac, .slice a.ta a.told.length a.tc, .bool a.fol], .agg #[.int .u16 (b.p.1 : Int), .int .u32 (b.p.2 : Int), .int .u64 (b.e.1.x.id : Int), .slice b.e.2.ma b.e.1.x.mem.length b.e.2.mc, .slice b.e.2.la b.e.1.x.lvs.length b.e.2.lc, .slice b.e.2.da b.e.1.x.ldr.length b.e.2.dc, .slice b.aa b.all.length b.ac, .slice b.ta b.told.length b.tc, .bool b.fol]] W (Ret fun v w' => v = .bool (ok2 a b) ∧ Below W.heap.size W w')) :
    Calls Try.prog 56 #[.agg #[.int .u16 (b.p.1 : Int), .int .u32 (b.p.2 : Int), .int .u64 (b.e.1.x.id : Int), .slice b.e.2.ma b.e.1.x.mem.length b.e.2.mc, .slice b.e.2.la b.e.1.x.lvs.length b.e.2.lc, .slice b.e.2.da b.e.1.x.ldr.length b.e.2.dc, .slice b.aa b.all.length b.ac, .slice b.ta b.told.length b.tc, .bool b.fol], .pointer (some ⟨ga, 0, none⟩), .pointer (some ⟨go, 0, none⟩)] w (Ret fun v w' => v = .bool r ∧ Below w.heap.size w w') := by
  have H := St.init w
  have ha2 : w.cell? ⟨ga, 2, none⟩ = some (.int .u64 (a.e.1.x.id : Int)) := ha 2 (by omega)
  have ha9 : ∀ j, j < 9 → w.cell? ⟨ga, 0 + j, none⟩ = (#[.int .u16 (a.p.1 : Int), .int .u32 (a.p.2 : Int), .int .u64 (a.e.1.x.id : Int), .slice a.e.2.ma a.e.1.x.mem.length a.e.2.mc, .slice a.e.2.la a.e.1.x.lvs.length a.e.2.lc, .slice a.e.2.da a.e.1.x.ldr.length a.e.2.dc, .slice a.aa a.all.length a.ac, .slice a.ta a.told.length a.tc, .bool a.fol] : Array Value)[j]? := fun j hj => by rw [Nat.zero_add]; exact ha j hj
  have HF := Lib.hid hf
  have HR := Lib.hid hr
  unfold vid at HR
  clear hf hr ha
  by_cases h : a.e.1.x.id = b.e.1.x.id
  · have hi : ((a.e.1.x.id : Int) != (b.e.1.x.id : Int)) = false := by simp [h]
    obtain ⟨ee, hee⟩ : ∃ ee, ok2 a b = ee := ⟨_, rfl⟩
    have HE := Lib.hid hee
    have HV : Hid (r = ee) := Lib.hid (by rw [← HR.out, HE.out]; simp [h])
    clear h hee
    cases ee
    all_goals
      go_enter Try.func56, Try.ntmps56
      go_wp2_with (first | (go_at_fn kf; (with_reducible refine (HF.out _ H.below).mono ?_); rintro e w1 ⟨v, rfl, hr⟩; obtain ⟨rfl, hb1⟩ := hr; replace H := H.grow hb1; clear hb1; rw [HE.out]) | (with_reducible refine wpl rfl (dQ 3 rfl ?_); with_reducible refine (Stp.box 3 rfl rfl rfl H ?_); clear H; intro g3 w1 H; simp only [pS]; simp only [pE, nC, pS, cells_func] at H) | (with_reducible refine wpl rfl (ldQ (ty := 37) rfl ?_); first | (with_reducible refine (Stp.ldo rfl agg37 rfl H (by assumption) (by assumption) ?_); simp only [pS]) | (with_reducible refine (Stp.ldc rfl agg37 rfl H mR cE ?_); simp only [pS])) | (with_reducible refine wpl rfl (ldQ (ty := 88) rfl ?_); first | (with_reducible refine (Stp.ldo rfl agg88 rfl H (by assumption) (by assumption) ?_); simp only [pS]) | (with_reducible refine (Stp.ldc rfl agg88 rfl H mR cE ?_); simp only [pS])) | (with_reducible refine wpl rfl (ldQ (ty := 78) rfl ?_); first | (with_reducible refine (Stp.ldor rfl agg78 size78 rfl H (by assumption) sZ (by assumption) ?_); simp only [pS]) | (with_reducible refine (Stp.ldr rfl agg78 size78 rfl H mR sZ ?_); simp only [pS]) | (with_reducible refine (Stp.ldl rfl agg78 size78 rfl H mR (by simp) ?_); simp only [pS]; simp only [List.drop_succ_cons, List.drop_zero, List.take_succ_cons, List.take_zero])))
      go_ret
      exact ⟨_, rfl, by rw [HV.out]; rfl, H.below⟩
  · have hi : ((a.e.1.x.id : Int) != (b.e.1.x.id : Int)) = true := by simp; omega
    have HV : Hid (r = true) := Lib.hid (by rw [← HR.out]; simp [h])
    clear h
    go_enter Try.func56, Try.ntmps56
    go_wp2_with (first | (with_reducible refine wpl rfl (dQ 3 rfl ?_); with_reducible refine (Stp.box 3 rfl rfl rfl H ?_); clear H; intro g3 w1 H; simp only [pS]; simp only [pE, nC, pS, cells_func] at H) | (with_reducible refine wpl rfl (ldQ (ty := 37) rfl ?_); first | (with_reducible refine (Stp.ldo rfl agg37 rfl H (by assumption) (by assumption) ?_); simp only [pS]) | (with_reducible refine (Stp.ldc rfl agg37 rfl H mR cE ?_); simp only [pS])) | (with_reducible refine wpl rfl (ldQ (ty := 88) rfl ?_); first | (with_reducible refine (Stp.ldo rfl agg88 rfl H (by assumption) (by assumption) ?_); simp only [pS]) | (with_reducible refine (Stp.ldc rfl agg88 rfl H mR cE ?_); simp only [pS])) | (with_reducible refine wpl rfl (ldQ (ty := 78) rfl ?_); first | (with_reducible refine (Stp.ldor rfl agg78 size78 rfl H (by assumption) sZ (by assumption) ?_); simp only [pS]) | (with_reducible refine (Stp.ldr rfl agg78 size78 rfl H mR sZ ?_); simp only [pS]) | (with_reducible refine (Stp.ldl rfl agg78 size78 rfl H mR (by simp) ?_); simp only [pS]; simp only [List.drop_succ_cons, List.drop_zero, List.take_succ_cons, List.take_zero])))
    go_ret
    exact ⟨_, rfl, by rw [HV.out]; rfl, H.below⟩
theorem pp_fn (ga go : Nat) (a : Sy) (ss : List Sy) (kf : Nat) (ekf : ∀ xs (W : World), (callFunc kf xs).run Try.prog W = .ok (.enter kf xs) W) (ok2 : Sy → Sy → Bool) (w : World)
    (ha : ∀ j, j < 9 → w.cell? ⟨ga, j, none⟩ = (#[.int .u16 (a.p.1 : Int), .int .u32 (a.p.2 : Int), .int .u64 (a.e.1.x.id : Int), .slice a.e.2.ma a.e.1.x.mem.length a.e.2.mc, .slice a.e.2.la a.e.1.x.lvs.length a.e.2.lc, .slice a.e.2.da a.e.1.x.ldr.length a.e.2.dc, .slice a.aa a.all.length a.ac, .slice a.ta a.told.length a.tc, .bool a.fol] : Array Value)[j]?) (hga : ga < w.heap.size) (ho : w.cell? ⟨go, 0, none⟩ = some (.func (.func kf) #[] #[])) (hgo : go < w.heap.size)
    (hf : ∀ b ∈ ss, ∀ W : World, Below w.heap.size w W → Calls Try.prog kf #[.agg #[.int .u16 (a.p.1 : Int), .int .u32 (a.p.2 : Int), .int .u64 (a.e.1.x.id : Int), .slice a.e.2.ma a.e.1.x.mem.length a.e.2.mc, .slice a.e.2.la a.e.1.x.lvs.length a.e.2.lc, .slice a.e.2.da a.e.1.x.ldr.length a.e.2.dc, .slice a.aa a.all.length a.ac, .slice a.ta a.told.length a.tc, .bool a.fol], .agg #[.int .u16 (b.p.1 : Int), .int .u32 (b.p.2 : Int), .int .u64 (b.e.1.x.id : Int), .slice b.e.2.ma b.e.1.x.mem.length b.e.2.mc, .slice b.e.2.la b.e.1.x.lvs.length b.e.2.lc, .slice b.e.2.da b.e.1.x.ldr.length b.e.2.dc, .slice b.aa b.all.length b.ac, .slice b.ta b.told.length b.tc, .bool b.fol]] W (Ret fun v w' => v = .bool (ok2 a b) ∧ Below W.heap.size W w')) :
    FnOk w 56 #[] #[.pointer (some ⟨ga, 0, none⟩), .pointer (some ⟨go, 0, none⟩)] ss (fun b => !(decide (vid a = vid b)) || ok2 a b) := fun b hb W hW =>
  pp_ok ga go a b kf ekf ok2 _ rfl W (fun j hj => (hW.cell hga).trans (ha j hj)) (Nat.lt_of_lt_of_le hga hW.size) ((hW.cell hgo).trans ho) (Nat.lt_of_lt_of_le hgo hW.size) (fun W' hW' => hf b hb W' (hW.trans (hW'.mono hW.size)))
theorem p1_ok (gc g2 go : Nat) (a : Sy) (va vb vm : Value) (oa : Option Addr) (oc : Nat) (ss : List Sy) (kf : Nat) (ekf : ∀ xs (W : World), (callFunc kf xs).run Try.prog W = .ok (.enter kf xs) W) (ok2 : Sy → Sy → Bool) (r : Bool) (hr : (ss.all fun b => !(decide (vid a = vid b)) || ok2 a b) = r) (w : World)
    (hgc : ∀ j, j < 4 → w.cell? ⟨gc, j, none⟩ = (#[va, vb, .slice oa ss.length oc, vm] : Array Value)[j]?) (hlt : gc < w.heap.size) (hs : Sl w 9 ss.length (.slice oa ss.length oc) (elS ss))
    (h2 : w.cell? ⟨g2, 0, none⟩ = some (.pointer (some ⟨gc, 0, none⟩))) (hg2 : g2 < w.heap.size) (ho : w.cell? ⟨go, 0, none⟩ = some (.func (.func kf) #[] #[])) (hgo2 : go < w.heap.size)
    (hf : ∀ b ∈ ss, ∀ W : World, Below w.heap.size w W → Calls Try.prog kf #[.agg #[.int .u16 (a.p.1 : Int), .int .u32 (a.p.2 : Int), .int .u64 (a.e.1.x.id : Int), .slice a.e.2.ma a.e.1.x.mem.length a.e.2.mc, .slice a.e.2.la a.e.1.x.lvs.length a.e.2.lc, .slice a.e.2.da a.e.1.x.ldr.length a.e.2.dc, .slice a.aa a.all.length a.ac, .slice a.ta a.told.length a.tc, .bool a.fol], .agg #[.int .u16 (b.p.1 : Int), .int .u32 (b.p.2 : Int), .int .u64 (b.e.1.x.id : Int), .slice b.e.2.ma b.e.1.x.mem.length b.e.2.mc, .slice b.e.2.la b.e.1.x.lvs.length b.e.2.lc, .slice b.e.2.da b.e.1.x.ldr.length b.e.2.dc, .slice b.aa b.all.length b.ac, .slice b.ta b.told.length b.tc, .bool b.fol]] W (Ret fun v w' => v = .bool (ok2 a b) ∧ Below W.heap.size W w')) :
    Calls Try.prog 55 #[.agg #[.int .u16 (a.p.1 : Int), .int .u32 (a.p.2 : Int), .int .u64 (a.e.1.x.id : Int), .slice a.e.2.ma a.e.1.x.mem.length a.e.2.mc, .slice a.e.2.la a.e.1.x.lvs.length a.e.2.lc, .slice a.e.2.da a.e.1.x.ldr.length a.e.2.dc, .slice a.aa a.all.length a.ac, .slice a.ta a.told.length a.tc, .bool a.fol], .pointer (some ⟨g2, 0, none⟩), .pointer (some ⟨go, 0, none⟩)] w (Ret fun v w' => v = .bool r ∧ Below w.heap.size w w') := by
  have H := St.init w
  have HGC := Lib.hid hgc
  have HS := Lib.hid hs
  have HGO := Lib.hid ho
  have HF := Lib.hid hf
  have HR := Lib.hid hr
  clear hgc hs ho hf hr
  go_enter Try.func55, Try.ntmps55
  go_wp2_with (first | (go_at_call 38; (with_reducible refine (each_ok gc va vb vm oa oc ss 56 _ _ ent_p2 (fun b => !(decide (vid a = vid b)) || ok2 a b) r HR.out _ (fun j hj => (H.below.cell hlt).trans (HGC.out j hj)) (Nat.lt_of_lt_of_le hlt H.below.size) (HS.out.grow H.below) (pp_fn g3 go a ss kf ekf ok2 _ (cells_of (H.getRow (t := 78) mE)) (rowAt_lt (H.getRow (t := 78) mE)) ((H.below.cell hgo2).trans HGO.out) (Nat.lt_of_lt_of_le hgo2 H.below.size) (fun b hb W hW => HF.out b hb W (H.below.trans (hW.mono H.below.size))))).mono ?_); rintro e w1 ⟨v, rfl, hr⟩; obtain ⟨rfl, hb1⟩ := hr; replace H := H.grow hb1; clear hb1) | (with_reducible refine wpl rfl (dQ 3 rfl ?_); with_reducible refine (Stp.box 3 rfl rfl rfl H ?_); clear H; intro g3 w1 H; simp only [pS]; simp only [pE, nC, pS, cells_func] at H) | (with_reducible refine wpl rfl (ldQ (ty := 67) rfl ?_); first | (with_reducible refine (Stp.ldo rfl agg67 rfl H (by assumption) (by assumption) ?_); simp only [pS]) | (with_reducible refine (Stp.ldc rfl agg67 rfl H mR cE ?_); simp only [pS])))
  go_ret
  exact ⟨_, rfl, rfl, H.below⟩
theorem p1_fn (gc g2 go : Nat) (va vb vm : Value) (oa : Option Addr) (oc : Nat) (ss : List Sy) (kf : Nat) (ekf : ∀ xs (W : World), (callFunc kf xs).run Try.prog W = .ok (.enter kf xs) W) (ok2 : Sy → Sy → Bool) (w : World)
    (hgc : ∀ j, j < 4 → w.cell? ⟨gc, j, none⟩ = (#[va, vb, .slice oa ss.length oc, vm] : Array Value)[j]?) (hlt : gc < w.heap.size) (hs : Sl w 9 ss.length (.slice oa ss.length oc) (elS ss))
    (h2 : w.cell? ⟨g2, 0, none⟩ = some (.pointer (some ⟨gc, 0, none⟩))) (hg2 : g2 < w.heap.size) (ho : w.cell? ⟨go, 0, none⟩ = some (.func (.func kf) #[] #[])) (hgo2 : go < w.heap.size)
    (hf : ∀ a ∈ ss, ∀ b ∈ ss, ∀ W : World, Below w.heap.size w W → Calls Try.prog kf #[.agg #[.int .u16 (a.p.1 : Int), .int .u32 (a.p.2 : Int), .int .u64 (a.e.1.x.id : Int), .slice a.e.2.ma a.e.1.x.mem.length a.e.2.mc, .slice a.e.2.la a.e.1.x.lvs.length a.e.2.lc, .slice a.e.2.da a.e.1.x.ldr.length a.e.2.dc, .slice a.aa a.all.length a.ac, .slice a.ta a.told.length a.tc, .bool a.fol], .agg #[.int .u16 (b.p.1 : Int), .int .u32 (b.p.2 : Int), .int .u64 (b.e.1.x.id : Int), .slice b.e.2.ma b.e.1.x.mem.length b.e.2.mc, .slice b.e.2.la b.e.1.x.lvs.length b.e.2.lc, .slice b.e.2.da b.e.1.x.ldr.length b.e.2.dc, .slice b.aa b.all.length b.ac, .slice b.ta b.told.length b.tc, .bool b.fol]] W (Ret fun v w' => v = .bool (ok2 a b) ∧ Below W.heap.size W w')) :
    FnOk w 55 #[] #[.pointer (some ⟨g2, 0, none⟩), .pointer (some ⟨go, 0, none⟩)] ss (fun a => ss.all fun b => !(decide (vid a = vid b)) || ok2 a b) := fun a ha W hW =>
  p1_ok gc g2 go a va vb vm oa oc ss kf ekf ok2 _ rfl W (fun j hj => (hW.cell hlt).trans (hgc j hj)) (Nat.lt_of_lt_of_le hlt hW.size) (hs.grow hW) ((hW.cell hg2).trans h2) (Nat.lt_of_lt_of_le hg2 hW.size) ((hW.cell hgo2).trans ho) (Nat.lt_of_lt_of_le hgo2 hW.size) (fun b hb W' hW' => hf a ha b hb W' (hW.trans (hW'.mono hW.size)))
theorem pairs_ok (gc : Nat) (va vb vm : Value) (oa : Option Addr) (oc : Nat) (ss : List Sy) (kf : Nat) (ekf : ∀ xs (W : World), (callFunc kf xs).run Try.prog W = .ok (.enter kf xs) W) (ok2 : Sy → Sy → Bool) (r : Bool) (hr : (ss.all fun a => ss.all fun b => !(decide (vid a = vid b)) || ok2 a b) = r) (w : World)
    (hgc : ∀ j, j < 4 → w.cell? ⟨gc, j, none⟩ = (#[va, vb, .slice oa ss.length oc, vm] : Array Value)[j]?) (hlt : gc < w.heap.size) (hs : Sl w 9 ss.length (.slice oa ss.length oc) (elS ss))
    (hf : ∀ a ∈ ss, ∀ b ∈ ss, ∀ W : World, Below w.heap.size w W → Calls Try.prog kf #[.agg #[.int .u16 (a.p.1 : Int), .int .u32 (a.p.2 : Int), .int .u64 (a.e.1.x.id : Int), .slice a.e.2.ma a.e.1.x.mem.length a.e.2.mc, .slice a.e.2.la a.e.1.x.lvs.length a.e.2.lc, .slice a.e.2.da a.e.1.x.ldr.length a.e.2.dc, .slice a.aa a.all.length a.ac, .slice a.ta a.told.length a.tc, .bool a.fol], .agg #[.int .u16 (b.p.1 : Int), .int .u32 (b.p.2 : Int), .int .u64 (b.e.1.x.id : Int), .slice b.e.2.ma b.e.1.x.mem.length b.e.2.mc, .slice b.e.2.la b.e.1.x.lvs.length b.e.2.lc, .slice b.e.2.da b.e.1.x.ldr.length b.e.2.dc, .slice b.aa b.all.length b.ac, .slice b.ta b.told.length b.tc, .bool b.fol]] W (Ret fun v w' => v = .bool (ok2 a b) ∧ Below W.heap.size W w')) :
    Calls Try.prog 40 #[.pointer (some ⟨gc, 0, none⟩), .func (.func kf) #[] #[]] w (Ret fun v w' => v = .bool r ∧ Below w.heap.size w w') := by
  have H := St.init w
  have HGC := Lib.hid hgc
  have HS := Lib.hid hs
  have HF := Lib.hid hf
  have HR := Lib.hid hr
  clear hgc hs hf hr
  go_enter Try.func40, Try.ntmps40
  go_wp2_with (first | (with_reducible refine wpl rfl (dQ 3 rfl ?_); with_reducible refine (Stp.box 3 rfl rfl rfl H ?_); clear H; intro g3 w1 H; simp only [pS]; simp only [cells_func] at H) | (go_at_call 38; (with_reducible refine (each_ok gc va vb vm oa oc ss 55 _ _ ent_p1 (fun a => ss.all fun b => !(decide (vid a = vid b)) || ok2 a b) r HR.out _ (fun j hj => (H.below.cell hlt).trans (HGC.out j hj)) (Nat.lt_of_lt_of_le hlt H.below.size) (HS.out.grow H.below) (p1_fn gc g2 g3 va vb vm oa oc ss kf ekf ok2 _ (fun j hj => (H.below.cell hlt).trans (HGC.out j hj)) (Nat.lt_of_lt_of_le hlt H.below.size) (HS.out.grow H.below) (cell_of_rowAt (H.getRow (t := 67) mE) 0) (rowAt_lt (H.getRow (t := 67) mE)) (cell_of_rowAt (H.getRow (t := 88) mE) 0) (rowAt_lt (H.getRow (t := 88) mE)) (fun a ha b hb W hW => HF.out a ha b hb W (H.below.trans (hW.mono H.below.size))))).mono ?_); rintro e w1 ⟨v, rfl, hr⟩; obtain ⟨rfl, hb1⟩ := hr; replace H := H.grow hb1; clear hb1) | (with_reducible refine wpl rfl (dQ 2 rfl ?_); with_reducible refine (Stp.box 2 rfl rfl rfl H ?_); clear H; intro g2 w1 H; simp only [pS]; simp only [pE, nC, pS, cells_func] at H) | (with_reducible refine wpl rfl (dQ 3 rfl ?_); with_reducible refine (Stp.box 3 rfl rfl rfl H ?_); clear H; intro g3 w1 H; simp only [pS]; simp only [pE, nC, pS, cells_func] at H) | (with_reducible refine wpl rfl (ldQ (ty := 67) rfl ?_); first | (with_reducible refine (Stp.ldo rfl agg67 rfl H (by assumption) (by assumption) ?_); simp only [pS]) | (with_reducible refine (Stp.ldc rfl agg67 rfl H mR cE ?_); simp only [pS])))
  go_ret
  exact ⟨_, rfl, rfl, H.below⟩
end Go.Proofs.Ytbepaafgcbgmfaa

namespace Go.Proofs.Ytbepaafgcbgmfaa
open Go.ChangeShapes Go.WideShapes Go.ChangeAt Go.RowKit Go.Maps Go.Deep
set_option linter.unusedVariables false
set_option linter.unusedSimpArgs false
set_option linter.unusedSectionVars false
set_option maxRecDepth 100000
set_option maxHeartbeats 4000000
theorem EvG.vw {w : World} {e : Eh} (h : EvG w e) : VwG All w (.slice e.2.ma e.1.x.mem.length e.2.mc) (.slice e.2.la e.1.x.lvs.length e.2.lc) (.slice e.2.da e.1.x.ldr.length e.2.dc) e.1.x := h.1
/-- What is read of a stay. -/
structure SyW (w : World) (y : Sy) : Prop where
  v : EvG w y.e
  wv : wfE y.e
  sm : smV y.e.1.x
  all : Sl w 9 y.all.length (.slice y.aa y.all.length y.ac) (elE y.all)
  told : Sl w 9 y.told.length (.slice y.ta y.told.length y.tc) (elE y.told)
  cap : y.told.length ≤ y.tc
  ev : ∀ e ∈ y.told, EvG w e
  wf : ∀ e ∈ y.told, wfE e
  la : y.all.length ≤ 1000
  lt : y.told.length ≤ 1000
  p1 : y.p.1 < 65536
  p2 : y.p.2 < 4294967296
theorem SyW.grow {w w' : World} {y : Sy} (h : SyW w y) (hb : Below w.heap.size w w') : SyW w' y :=
  ⟨h.v.grow hb, h.wv, h.sm, h.all.grow hb, h.told.grow hb, h.cap, fun e he => (h.ev e he).grow hb, h.wf, h.la, h.lt, h.p1, h.p2⟩
theorem rule1_ok (a b : Sy) (r : Bool) (hr : vSame a.e.1.x b.e.1.x = r) (w : World) (ha : SyW w a) (hb : SyW w b) :
    Calls Try.prog 41 #[.agg #[.int .u16 (a.p.1 : Int), .int .u32 (a.p.2 : Int), .int .u64 (a.e.1.x.id : Int), .slice a.e.2.ma a.e.1.x.mem.length a.e.2.mc, .slice a.e.2.la a.e.1.x.lvs.length a.e.2.lc, .slice a.e.2.da a.e.1.x.ldr.length a.e.2.dc, .slice a.aa a.all.length a.ac, .slice a.ta a.told.length a.tc, .bool a.fol], .agg #[.int .u16 (b.p.1 : Int), .int .u32 (b.p.2 : Int), .int .u64 (b.e.1.x.id : Int), .slice b.e.2.ma b.e.1.x.mem.length b.e.2.mc, .slice b.e.2.la b.e.1.x.lvs.length b.e.2.lc, .slice b.e.2.da b.e.1.x.ldr.length b.e.2.dc, .slice b.aa b.all.length b.ac, .slice b.ta b.told.length b.tc, .bool b.fol]] w (Ret fun v w' => v = .bool r ∧ Below w.heap.size w w') := by
  have H := St.init w
  have HA := Lib.hid ha
  have HB := Lib.hid hb
  clear ha hb
  have HR := Lib.hid hr
  clear hr
  go_enter Try.func41, Try.ntmps41
  go_wp2_with (first | (go_at_call 35; (with_reducible refine (vsame_is a.e.1.x b.e.1.x _ _ _ _ _ _ _ _ _ _ _ _ _ _ (HA.out.v.vw.grow H.below) (HB.out.v.vw.grow H.below) HR.out).mono ?_); rintro e w1 ⟨v, rfl, hr⟩; obtain ⟨rfl, hb1⟩ := hr; replace H := H.grow hb1; clear hb1) | (with_reducible refine wpl rfl (dQ 2 rfl ?_); with_reducible refine (Stp.box 2 rfl rfl rfl H ?_); clear H; intro g2 w1 H; simp only [pS]; simp only [pE, nC, pS] at H) | (with_reducible refine wpl rfl (dQ 3 rfl ?_); with_reducible refine (Stp.box 3 rfl rfl rfl H ?_); clear H; intro g3 w1 H; simp only [pS]; simp only [pE, nC, pS] at H) | (with_reducible refine wpl rfl (ldQ (ty := 41) rfl ?_); first | (with_reducible refine (Stp.ldor rfl agg41 size41 rfl H (by assumption) sZ (by assumption) ?_); simp only [pS]) | (with_reducible refine (Stp.ldr rfl agg41 size41 rfl H mR sZ ?_); simp only [pS]) | (with_reducible refine (Stp.ldl rfl agg41 size41 rfl H mR (by simp) ?_); simp only [pS]; simp only [List.drop_succ_cons, List.drop_zero, List.take_succ_cons, List.take_zero])))
  go_ret
  exact ⟨_, rfl, rfl, H.below⟩
/-- Is what was told to one a beginning of what was told to the other? -/
def bg (a b : Sy) : Bool := begD (evD a.told) (evD b.told)
theorem rule2_ok (a b : Sy) (r : Bool) (hr : (bg a b || bg b a) = r) (w : World) (ha : SyW w a) (hb : SyW w b) :
    Calls Try.prog 44 #[.agg #[.int .u16 (a.p.1 : Int), .int .u32 (a.p.2 : Int), .int .u64 (a.e.1.x.id : Int), .slice a.e.2.ma a.e.1.x.mem.length a.e.2.mc, .slice a.e.2.la a.e.1.x.lvs.length a.e.2.lc, .slice a.e.2.da a.e.1.x.ldr.length a.e.2.dc, .slice a.aa a.all.length a.ac, .slice a.ta a.told.length a.tc, .bool a.fol], .agg #[.int .u16 (b.p.1 : Int), .int .u32 (b.p.2 : Int), .int .u64 (b.e.1.x.id : Int), .slice b.e.2.ma b.e.1.x.mem.length b.e.2.mc, .slice b.e.2.la b.e.1.x.lvs.length b.e.2.lc, .slice b.e.2.da b.e.1.x.ldr.length b.e.2.dc, .slice b.aa b.all.length b.ac, .slice b.ta b.told.length b.tc, .bool b.fol]] w (Ret fun v w' => v = .bool r ∧ Below w.heap.size w w') := by
  have H := St.init w
  have HA := Lib.hid ha
  have HB := Lib.hid hb
  clear ha hb
  obtain ⟨r1, h1⟩ : ∃ r1, begD (evD a.told) (evD b.told) = r1 := ⟨_, rfl⟩
  obtain ⟨r2, h2⟩ : ∃ r1, begD (evD b.told) (evD a.told) = r1 := ⟨_, rfl⟩
  have HR1 := Lib.hid h1
  have HR2 := Lib.hid h2
  unfold bg at hr
  rw [h1, h2] at hr
  subst hr
  clear h1 h2
  cases r1
  · cases r2
    all_goals
      go_enter Try.func44, Try.ntmps44
      go_wp2_with (first | (go_at_call 14; (with_reducible refine (begins_is _ _ _ _ a.told b.told _ HR1.out HB.out.cap _ (HA.out.told.grow H.below) (HB.out.told.grow H.below) (fun e he => (HA.out.ev e he).grow H.below) (fun e he => (HB.out.ev e he).grow H.below) HA.out.wf HB.out.wf).mono ?_); rintro e w1 ⟨v, rfl, hr⟩; obtain ⟨rfl, hb1⟩ := hr; replace H := H.grow hb1; clear hb1) | (go_at_call 14; (with_reducible refine (begins_is _ _ _ _ b.told a.told _ HR2.out HA.out.cap _ (HB.out.told.grow H.below) (HA.out.told.grow H.below) (fun e he => (HB.out.ev e he).grow H.below) (fun e he => (HA.out.ev e he).grow H.below) HB.out.wf HA.out.wf).mono ?_); rintro e w1 ⟨v, rfl, hr⟩; obtain ⟨rfl, hb1⟩ := hr; replace H := H.grow hb1; clear hb1) | (with_reducible refine wpl rfl (dQ 2 rfl ?_); with_reducible refine (Stp.box 2 rfl rfl rfl H ?_); clear H; intro g2 w1 H; simp only [pS]; simp only [pE, nC, pS] at H) | (with_reducible refine wpl rfl (dQ 3 rfl ?_); with_reducible refine (Stp.box 3 rfl rfl rfl H ?_); clear H; intro g3 w1 H; simp only [pS]; simp only [pE, nC, pS] at H) | (with_reducible refine wpl rfl (ldQ (ty := 22) rfl ?_); first | (with_reducible refine (Stp.ldo rfl agg22 rfl H (by assumption) (by assumption) ?_); simp only [pS]) | (with_reducible refine (Stp.ldc rfl agg22 rfl H mR cE ?_); simp only [pS])))
      go_ret
      exact ⟨_, rfl, rfl, H.below⟩
  · go_enter Try.func44, Try.ntmps44
    go_wp2_with (first | (go_at_call 14; (with_reducible refine (begins_is _ _ _ _ a.told b.told _ HR1.out HB.out.cap _ (HA.out.told.grow H.below) (HB.out.told.grow H.below) (fun e he => (HA.out.ev e he).grow H.below) (fun e he => (HB.out.ev e he).grow H.below) HA.out.wf HB.out.wf).mono ?_); rintro e w1 ⟨v, rfl, hr⟩; obtain ⟨rfl, hb1⟩ := hr; replace H := H.grow hb1; clear hb1) | (go_at_call 14; (with_reducible refine (begins_is _ _ _ _ b.told a.told _ HR2.out HA.out.cap _ (HB.out.told.grow H.below) (HA.out.told.grow H.below) (fun e he => (HB.out.ev e he).grow H.below) (fun e he => (HA.out.ev e he).grow H.below) HB.out.wf HA.out.wf).mono ?_); rintro e w1 ⟨v, rfl, hr⟩; obtain ⟨rfl, hb1⟩ := hr; replace H := H.grow hb1; clear hb1) | (with_reducible refine wpl rfl (dQ 2 rfl ?_); with_reducible refine (Stp.box 2 rfl rfl rfl H ?_); clear H; intro g2 w1 H; simp only [pS]; simp only [pE, nC, pS] at H) | (with_reducible refine wpl rfl (dQ 3 rfl ?_); with_reducible refine (Stp.box 3 rfl rfl rfl H ?_); clear H; intro g3 w1 H; simp only [pS]; simp only [pE, nC, pS] at H) | (with_reducible refine wpl rfl (ldQ (ty := 22) rfl ?_); first | (with_reducible refine (Stp.ldo rfl agg22 rfl H (by assumption) (by assumption) ?_); simp only [pS]) | (with_reducible refine (Stp.ldc rfl agg22 rfl H mR cE ?_); simp only [pS])))
    go_ret
    exact ⟨_, rfl, rfl, H.below⟩
theorem rule3_ok (a b : Sy) (r : Bool) (hr : (!a.fol || !b.fol || decide (a.told.length = b.told.length) && bg a b) = r) (w : World) (ha : SyW w a) (hb : SyW w b) :
    Calls Try.prog 45 #[.agg #[.int .u16 (a.p.1 : Int), .int .u32 (a.p.2 : Int), .int .u64 (a.e.1.x.id : Int), .slice a.e.2.ma a.e.1.x.mem.length a.e.2.mc, .slice a.e.2.la a.e.1.x.lvs.length a.e.2.lc, .slice a.e.2.da a.e.1.x.ldr.length a.e.2.dc, .slice a.aa a.all.length a.ac, .slice a.ta a.told.length a.tc, .bool a.fol], .agg #[.int .u16 (b.p.1 : Int), .int .u32 (b.p.2 : Int), .int .u64 (b.e.1.x.id : Int), .slice b.e.2.ma b.e.1.x.mem.length b.e.2.mc, .slice b.e.2.la b.e.1.x.lvs.length b.e.2.lc, .slice b.e.2.da b.e.1.x.ldr.length b.e.2.dc, .slice b.aa b.all.length b.ac, .slice b.ta b.told.length b.tc, .bool b.fol]] w (Ret fun v w' => v = .bool r ∧ Below w.heap.size w w') := by
  have H := St.init w
  have HA := Lib.hid ha
  have HB := Lib.hid hb
  clear ha hb
  obtain ⟨r1, h1⟩ : ∃ r1, begD (evD a.told) (evD b.told) = r1 := ⟨_, rfl⟩
  have HR1 := Lib.hid h1
  unfold bg at hr
  rw [h1] at hr
  clear h1
  obtain ⟨fa, hfa⟩ : ∃ x, a.fol = x := ⟨_, rfl⟩
  obtain ⟨fb, hfb⟩ : ∃ x, b.fol = x := ⟨_, rfl⟩
  rw [hfa, hfb] at hr ⊢
  by_cases hl : a.told.length = b.told.length
  · have hli : ((a.told.length : Int) == (b.told.length : Int)) = true := by simp [hl]
    rw [decide_eq_true hl] at hr
    have HL := Lib.hid hl
    clear hl
    subst hr
    cases fa
    · go_enter Try.func45, Try.ntmps45
      go_wp2_with (first | (go_at_call 14; (with_reducible refine (begins_is _ _ _ _ a.told b.told _ HR1.out HB.out.cap _ (HA.out.told.grow H.below) (HB.out.told.grow H.below) (fun e he => (HA.out.ev e he).grow H.below) (fun e he => (HB.out.ev e he).grow H.below) HA.out.wf HB.out.wf).mono ?_); rintro e w1 ⟨v, rfl, hr⟩; obtain ⟨rfl, hb1⟩ := hr; replace H := H.grow hb1; clear hb1) | (with_reducible refine wpl rfl (dQ 2 rfl ?_); with_reducible refine (Stp.box 2 rfl rfl rfl H ?_); clear H; intro g2 w1 H; simp only [pS]; simp only [pE, nC, pS] at H) | (with_reducible refine wpl rfl (dQ 3 rfl ?_); with_reducible refine (Stp.box 3 rfl rfl rfl H ?_); clear H; intro g3 w1 H; simp only [pS]; simp only [pE, nC, pS] at H) | (with_reducible refine wpl rfl (ldQ (ty := 4) rfl ?_); first | (with_reducible refine (Stp.ldo rfl agg4 rfl H (by assumption) (by assumption) ?_); simp only [pS]) | (with_reducible refine (Stp.ldc rfl agg4 rfl H mR cE ?_); simp only [pS])) | (with_reducible refine wpl rfl (ldQ (ty := 22) rfl ?_); first | (with_reducible refine (Stp.ldo rfl agg22 rfl H (by assumption) (by assumption) ?_); simp only [pS]) | (with_reducible refine (Stp.ldc rfl agg22 rfl H mR cE ?_); simp only [pS])))
      go_ret
      exact ⟨_, rfl, rfl, H.below⟩
    · cases fb
      · go_enter Try.func45, Try.ntmps45
        go_wp2_with (first | (go_at_call 14; (with_reducible refine (begins_is _ _ _ _ a.told b.told _ HR1.out HB.out.cap _ (HA.out.told.grow H.below) (HB.out.told.grow H.below) (fun e he => (HA.out.ev e he).grow H.below) (fun e he => (HB.out.ev e he).grow H.below) HA.out.wf HB.out.wf).mono ?_); rintro e w1 ⟨v, rfl, hr⟩; obtain ⟨rfl, hb1⟩ := hr; replace H := H.grow hb1; clear hb1) | (with_reducible refine wpl rfl (dQ 2 rfl ?_); with_reducible refine (Stp.box 2 rfl rfl rfl H ?_); clear H; intro g2 w1 H; simp only [pS]; simp only [pE, nC, pS] at H) | (with_reducible refine wpl rfl (dQ 3 rfl ?_); with_reducible refine (Stp.box 3 rfl rfl rfl H ?_); clear H; intro g3 w1 H; simp only [pS]; simp only [pE, nC, pS] at H) | (with_reducible refine wpl rfl (ldQ (ty := 4) rfl ?_); first | (with_reducible refine (Stp.ldo rfl agg4 rfl H (by assumption) (by assumption) ?_); simp only [pS]) | (with_reducible refine (Stp.ldc rfl agg4 rfl H mR cE ?_); simp only [pS])) | (with_reducible refine wpl rfl (ldQ (ty := 22) rfl ?_); first | (with_reducible refine (Stp.ldo rfl agg22 rfl H (by assumption) (by assumption) ?_); simp only [pS]) | (with_reducible refine (Stp.ldc rfl agg22 rfl H mR cE ?_); simp only [pS])))
        go_ret
        exact ⟨_, rfl, rfl, H.below⟩
      · go_enter Try.func45, Try.ntmps45
        go_wp2_with (first | (go_at_call 14; (with_reducible refine (begins_is _ _ _ _ a.told b.told _ HR1.out HB.out.cap _ (HA.out.told.grow H.below) (HB.out.told.grow H.below) (fun e he => (HA.out.ev e he).grow H.below) (fun e he => (HB.out.ev e he).grow H.below) HA.out.wf HB.out.wf).mono ?_); rintro e w1 ⟨v, rfl, hr⟩; obtain ⟨rfl, hb1⟩ := hr; replace H := H.grow hb1; clear hb1) | (with_reducible refine wpl rfl (dQ 2 rfl ?_); with_reducible refine (Stp.box 2 rfl rfl rfl H ?_); clear H; intro g2 w1 H; simp only [pS]; simp only [pE, nC, pS] at H) | (with_reducible refine wpl rfl (dQ 3 rfl ?_); with_reducible refine (Stp.box 3 rfl rfl rfl H ?_); clear H; intro g3 w1 H; simp only [pS]; simp only [pE, nC, pS] at H) | (with_reducible refine wpl rfl (ldQ (ty := 4) rfl ?_); first | (with_reducible refine (Stp.ldo rfl agg4 rfl H (by assumption) (by assumption) ?_); simp only [pS]) | (with_reducible refine (Stp.ldc rfl agg4 rfl H mR cE ?_); simp only [pS])) | (with_reducible refine wpl rfl (ldQ (ty := 22) rfl ?_); first | (with_reducible refine (Stp.ldo rfl agg22 rfl H (by assumption) (by assumption) ?_); simp only [pS]) | (with_reducible refine (Stp.ldc rfl agg22 rfl H mR cE ?_); simp only [pS])))
        go_ret
        exact ⟨_, rfl, rfl, H.below⟩
  · have hli : ((a.told.length : Int) == (b.told.length : Int)) = false := by simp; omega
    rw [decide_eq_false hl] at hr
    clear hl
    subst hr
    cases fa
    · go_enter Try.func45, Try.ntmps45
      go_wp2_with (first | (with_reducible refine wpl rfl (dQ 2 rfl ?_); with_reducible refine (Stp.box 2 rfl rfl rfl H ?_); clear H; intro g2 w1 H; simp only [pS]; simp only [pE, nC, pS] at H) | (with_reducible refine wpl rfl (dQ 3 rfl ?_); with_reducible refine (Stp.box 3 rfl rfl rfl H ?_); clear H; intro g3 w1 H; simp only [pS]; simp only [pE, nC, pS] at H) | (with_reducible refine wpl rfl (ldQ (ty := 4) rfl ?_); first | (with_reducible refine (Stp.ldo rfl agg4 rfl H (by assumption) (by assumption) ?_); simp only [pS]) | (with_reducible refine (Stp.ldc rfl agg4 rfl H mR cE ?_); simp only [pS])) | (with_reducible refine wpl rfl (ldQ (ty := 22) rfl ?_); first | (with_reducible refine (Stp.ldo rfl agg22 rfl H (by assumption) (by assumption) ?_); simp only [pS]) | (with_reducible refine (Stp.ldc rfl agg22 rfl H mR cE ?_); simp only [pS])))
      go_ret
      exact ⟨_, rfl, rfl, H.below⟩
    · cases fb
      · go_enter Try.func45, Try.ntmps45
        go_wp2_with (first | (with_reducible refine wpl rfl (dQ 2 rfl ?_); with_reducible refine (Stp.box 2 rfl rfl rfl H ?_); clear H; intro g2 w1 H; simp only [pS]; simp only [pE, nC, pS] at H) | (with_reducible refine wpl rfl (dQ 3 rfl ?_); with_reducible refine (Stp.box 3 rfl rfl rfl H ?_); clear H; intro g3 w1 H; simp only [pS]; simp only [pE, nC, pS] at H) | (with_reducible refine wpl rfl (ldQ (ty := 4) rfl ?_); first | (with_reducible refine (Stp.ldo rfl agg4 rfl H (by assumption) (by assumption) ?_); simp only [pS]) | (with_reducible refine (Stp.ldc rfl agg4 rfl H mR cE ?_); simp only [pS])) | (with_reducible refine wpl rfl (ldQ (ty := 22) rfl ?_); first | (with_reducible refine (Stp.ldo rfl agg22 rfl H (by assumption) (by assumption) ?_); simp only [pS]) | (with_reducible refine (Stp.ldc rfl agg22 rfl H mR cE ?_); simp only [pS])))
        go_ret
        exact ⟨_, rfl, rfl, H.below⟩
      · go_enter Try.func45, Try.ntmps45
        go_wp2_with (first | (with_reducible refine wpl rfl (dQ 2 rfl ?_); with_reducible refine (Stp.box 2 rfl rfl rfl H ?_); clear H; intro g2 w1 H; simp only [pS]; simp only [pE, nC, pS] at H) | (with_reducible refine wpl rfl (dQ 3 rfl ?_); with_reducible refine (Stp.box 3 rfl rfl rfl H ?_); clear H; intro g3 w1 H; simp only [pS]; simp only [pE, nC, pS] at H) | (with_reducible refine wpl rfl (ldQ (ty := 4) rfl ?_); first | (with_reducible refine (Stp.ldo rfl agg4 rfl H (by assumption) (by assumption) ?_); simp only [pS]) | (with_reducible refine (Stp.ldc rfl agg4 rfl H mR cE ?_); simp only [pS])) | (with_reducible refine wpl rfl (ldQ (ty := 22) rfl ?_); first | (with_reducible refine (Stp.ldo rfl agg22 rfl H (by assumption) (by assumption) ?_); simp only [pS]) | (with_reducible refine (Stp.ldc rfl agg22 rfl H mR cE ?_); simp only [pS])))
        go_ret
        exact ⟨_, rfl, rfl, H.below⟩
theorem rule4_ok (a b : Sy) (r : Bool) (hr : (!b.fol || bg a b) = r) (w : World) (ha : SyW w a) (hb : SyW w b) :
    Calls Try.prog 46 #[.agg #[.int .u16 (a.p.1 : Int), .int .u32 (a.p.2 : Int), .int .u64 (a.e.1.x.id : Int), .slice a.e.2.ma a.e.1.x.mem.length a.e.2.mc, .slice a.e.2.la a.e.1.x.lvs.length a.e.2.lc, .slice a.e.2.da a.e.1.x.ldr.length a.e.2.dc, .slice a.aa a.all.length a.ac, .slice a.ta a.told.length a.tc, .bool a.fol], .agg #[.int .u16 (b.p.1 : Int), .int .u32 (b.p.2 : Int), .int .u64 (b.e.1.x.id : Int), .slice b.e.2.ma b.e.1.x.mem.length b.e.2.mc, .slice b.e.2.la b.e.1.x.lvs.length b.e.2.lc, .slice b.e.2.da b.e.1.x.ldr.length b.e.2.dc, .slice b.aa b.all.length b.ac, .slice b.ta b.told.length b.tc, .bool b.fol]] w (Ret fun v w' => v = .bool r ∧ Below w.heap.size w w') := by
  have H := St.init w
  have HA := Lib.hid ha
  have HB := Lib.hid hb
  clear ha hb
  obtain ⟨r1, h1⟩ : ∃ r1, begD (evD a.told) (evD b.told) = r1 := ⟨_, rfl⟩
  have HR1 := Lib.hid h1
  unfold bg at hr
  rw [h1] at hr
  clear h1
  obtain ⟨fb, hfb⟩ : ∃ x, b.fol = x := ⟨_, rfl⟩
  rw [hfb] at hr ⊢
  subst hr
  cases fb
  · go_enter Try.func46, Try.ntmps46
    go_wp2_with (first | (go_at_call 14; (with_reducible refine (begins_is _ _ _ _ a.told b.told _ HR1.out HB.out.cap _ (HA.out.told.grow H.below) (HB.out.told.grow H.below) (fun e he => (HA.out.ev e he).grow H.below) (fun e he => (HB.out.ev e he).grow H.below) HA.out.wf HB.out.wf).mono ?_); rintro e w1 ⟨v, rfl, hr⟩; obtain ⟨rfl, hb1⟩ := hr; replace H := H.grow hb1; clear hb1) | (with_reducible refine wpl rfl (dQ 2 rfl ?_); with_reducible refine (Stp.box 2 rfl rfl rfl H ?_); clear H; intro g2 w1 H; simp only [pS]; simp only [pE, nC, pS] at H) | (with_reducible refine wpl rfl (dQ 3 rfl ?_); with_reducible refine (Stp.box 3 rfl rfl rfl H ?_); clear H; intro g3 w1 H; simp only [pS]; simp only [pE, nC, pS] at H) | (with_reducible refine wpl rfl (ldQ (ty := 4) rfl ?_); first | (with_reducible refine (Stp.ldo rfl agg4 rfl H (by assumption) (by assumption) ?_); simp only [pS]) | (with_reducible refine (Stp.ldc rfl agg4 rfl H mR cE ?_); simp only [pS])) | (with_reducible refine wpl rfl (ldQ (ty := 22) rfl ?_); first | (with_reducible refine (Stp.ldo rfl agg22 rfl H (by assumption) (by assumption) ?_); simp only [pS]) | (with_reducible refine (Stp.ldc rfl agg22 rfl H mR cE ?_); simp only [pS])))
    go_ret
    exact ⟨_, rfl, rfl, H.below⟩
  · go_enter Try.func46, Try.ntmps46
    go_wp2_with (first | (go_at_call 14; (with_reducible refine (begins_is _ _ _ _ a.told b.told _ HR1.out HB.out.cap _ (HA.out.told.grow H.below) (HB.out.told.grow H.below) (fun e he => (HA.out.ev e he).grow H.below) (fun e he => (HB.out.ev e he).grow H.below) HA.out.wf HB.out.wf).mono ?_); rintro e w1 ⟨v, rfl, hr⟩; obtain ⟨rfl, hb1⟩ := hr; replace H := H.grow hb1; clear hb1) | (with_reducible refine wpl rfl (dQ 2 rfl ?_); with_reducible refine (Stp.box 2 rfl rfl rfl H ?_); clear H; intro g2 w1 H; simp only [pS]; simp only [pE, nC, pS] at H) | (with_reducible refine wpl rfl (dQ 3 rfl ?_); with_reducible refine (Stp.box 3 rfl rfl rfl H ?_); clear H; intro g3 w1 H; simp only [pS]; simp only [pE, nC, pS] at H) | (with_reducible refine wpl rfl (ldQ (ty := 4) rfl ?_); first | (with_reducible refine (Stp.ldo rfl agg4 rfl H (by assumption) (by assumption) ?_); simp only [pS]) | (with_reducible refine (Stp.ldc rfl agg4 rfl H mR cE ?_); simp only [pS])) | (with_reducible refine wpl rfl (ldQ (ty := 22) rfl ?_); first | (with_reducible refine (Stp.ldo rfl agg22 rfl H (by assumption) (by assumption) ?_); simp only [pS]) | (with_reducible refine (Stp.ldc rfl agg22 rfl H mR cE ?_); simp only [pS])))
    go_ret
    exact ⟨_, rfl, rfl, H.below⟩
end Go.Proofs.Ytbepaafgcbgmfaa
