/- Layer 29 (flat): each rule (rule); no condition. Layer 29 (flat): what a checker is made of: stays of lives together, messages sent by key; no condition. Layer 29 (flat): what stands in lives' stays; the checker out of what it is made of; no condition. -/
import Derived.Test.YtbepaafgcbgmfaaFz18
import Derived.Test.YtbepaafgcbgmfaaFz19
import Derived.Test.YtbepaafgcbgmfaaFz17
namespace Go.Proofs.Ytbepaafgcbgmfaa
open Go.ChangeShapes Go.WideShapes Go.ChangeAt Go.RowKit Go.Maps Go.Deep
set_option linter.unusedVariables false
set_option linter.unusedSimpArgs false
set_option linter.unusedSectionVars false
set_option maxRecDepth 100000
set_option maxHeartbeats 8000000
theorem ent_once : ∀ (xs : Array Value) (W : World), (callFunc 39 xs).run Try.prog W = .ok (.enter 39 xs) W := fun _ _ => by kernel_rfl
theorem ent_known : ∀ (xs : Array Value) (W : World), (callFunc 42 xs).run Try.prog W = .ok (.enter 42 xs) W := fun _ _ => by kernel_rfl
theorem ent_counted : ∀ (xs : Array Value) (W : World), (callFunc 43 xs).run Try.prog W = .ok (.enter 43 xs) W := fun _ _ => by kernel_rfl
theorem ent_behind : ∀ (xs : Array Value) (W : World), (callFunc 47 xs).run Try.prog W = .ok (.enter 47 xs) W := fun _ _ => by kernel_rfl
theorem ent_r1 : ∀ (xs : Array Value) (W : World), (callFunc 41 xs).run Try.prog W = .ok (.enter 41 xs) W := fun _ _ => by kernel_rfl
theorem ent_r2 : ∀ (xs : Array Value) (W : World), (callFunc 44 xs).run Try.prog W = .ok (.enter 44 xs) W := fun _ _ => by kernel_rfl
theorem ent_r3 : ∀ (xs : Array Value) (W : World), (callFunc 45 xs).run Try.prog W = .ok (.enter 45 xs) W := fun _ _ => by kernel_rfl
theorem ent_r4 : ∀ (xs : Array Value) (W : World), (callFunc 46 xs).run Try.prog W = .ok (.enter 46 xs) W := fun _ _ => by kernel_rfl
/-- Something of any two stays in views of one Id. -/
def pairsD (ss : List Sy) (ok : Sy → Sy → Bool) : Bool := ss.all fun a => ss.all fun b => !(decide (vid a = vid b)) || ok a b
/-- Does a rule hold? -/
def ruleD (D : Ck) : Nat → Bool
  | 1 => ordD D.ls
  | 2 => viewsD D
  | 3 => D.ss.all (fun y => decide (nbl y.all ≤ 1))
  | 4 => pairsD D.ss (fun a b => vSame a.e.1.x b.e.1.x)
  | 5 => D.ss.all (knownD D)
  | 6 => D.ss.all (fun y => cntD y.told)
  | 7 => pairsD D.ss (fun a b => bg a b || bg b a)
  | 8 => pairsD D.ss (fun a b => !a.fol || !b.fol || decide (a.told.length = b.told.length) && bg a b)
  | 9 => pairsD D.ss (fun a b => !b.fol || bg a b)
  | _ => D.ss.all (behD D)
theorem once_fn (gc : Nat) (D : Ck) (w : World) (hD : CkW w gc D) : FnOk w 39 #[] #[] D.ss (fun y => decide (nbl y.all ≤ 1)) := fun y hy W hW => once_ok y _ rfl W ((hD.fy y hy).grow hW)
theorem known_fn (gc : Nat) (D : Ck) (w : World) (hD : CkW w gc D) : FnOk w 42 #[.pointer (some ⟨gc, 0, none⟩)] #[] D.ss (knownD D) := fun y hy W hW => known_ok gc D y _ rfl W (hD.grow hW) ((hD.fy y hy).grow hW)
theorem counted_fn (gc : Nat) (D : Ck) (w : World) (hD : CkW w gc D) : FnOk w 43 #[] #[] D.ss (fun y => cntD y.told) := fun y hy W hW => counted_ok y _ rfl W ((hD.fy y hy).grow hW)
theorem behind_fn (gc : Nat) (D : Ck) (w : World) (hD : CkW w gc D) : FnOk w 47 #[.pointer (some ⟨gc, 0, none⟩)] #[] D.ss (behD D) := fun y hy W hW => behind_ok gc D y _ rfl W (hD.grow hW) ((hD.fy y hy).grow hW)
theorem r1_fn (gc : Nat) (D : Ck) (w : World) (hD : CkW w gc D) : ∀ a ∈ D.ss, ∀ b ∈ D.ss, ∀ W : World, Below w.heap.size w W → Calls Try.prog 41 #[.agg #[.int .u16 (a.p.1 : Int), .int .u32 (a.p.2 : Int), .int .u64 (a.e.1.x.id : Int), .slice a.e.2.ma a.e.1.x.mem.length a.e.2.mc, .slice a.e.2.la a.e.1.x.lvs.length a.e.2.lc, .slice a.e.2.da a.e.1.x.ldr.length a.e.2.dc, .slice a.aa a.all.length a.ac, .slice a.ta a.told.length a.tc, .bool a.fol], .agg #[.int .u16 (b.p.1 : Int), .int .u32 (b.p.2 : Int), .int .u64 (b.e.1.x.id : Int), .slice b.e.2.ma b.e.1.x.mem.length b.e.2.mc, .slice b.e.2.la b.e.1.x.lvs.length b.e.2.lc, .slice b.e.2.da b.e.1.x.ldr.length b.e.2.dc, .slice b.aa b.all.length b.ac, .slice b.ta b.told.length b.tc, .bool b.fol]] W (Ret fun v w' => v = .bool (vSame a.e.1.x b.e.1.x) ∧ Below W.heap.size W w') := fun a ha b hb W hW => rule1_ok a b _ rfl W ((hD.fy a ha).grow hW) ((hD.fy b hb).grow hW)
theorem r2_fn (gc : Nat) (D : Ck) (w : World) (hD : CkW w gc D) : ∀ a ∈ D.ss, ∀ b ∈ D.ss, ∀ W : World, Below w.heap.size w W → Calls Try.prog 44 #[.agg #[.int .u16 (a.p.1 : Int), .int .u32 (a.p.2 : Int), .int .u64 (a.e.1.x.id : Int), .slice a.e.2.ma a.e.1.x.mem.length a.e.2.mc, .slice a.e.2.la a.e.1.x.lvs.length a.e.2.lc, .slice a.e.2.da a.e.1.x.ldr.length a.e.2.dc, .slice a.aa a.all.length a.ac, .slice a.ta a.told.length a.tc, .bool a.fol], .agg #[.int .u16 (b.p.1 : Int), .int .u32 (b.p.2 : Int), .int .u64 (b.e.1.x.id : Int), .slice b.e.2.ma b.e.1.x.mem.length b.e.2.mc, .slice b.e.2.la b.e.1.x.lvs.length b.e.2.lc, .slice b.e.2.da b.e.1.x.ldr.length b.e.2.dc, .slice b.aa b.all.length b.ac, .slice b.ta b.told.length b.tc, .bool b.fol]] W (Ret fun v w' => v = .bool ((bg a b || bg b a)) ∧ Below W.heap.size W w') := fun a ha b hb W hW => rule2_ok a b _ rfl W ((hD.fy a ha).grow hW) ((hD.fy b hb).grow hW)
theorem r3_fn (gc : Nat) (D : Ck) (w : World) (hD : CkW w gc D) : ∀ a ∈ D.ss, ∀ b ∈ D.ss, ∀ W : World, Below w.heap.size w W → Calls Try.prog 45 #[.agg #[.int .u16 (a.p.1 : Int), .int .u32 (a.p.2 : Int), .int .u64 (a.e.1.x.id : Int), .slice a.e.2.ma a.e.1.x.mem.length a.e.2.mc, .slice a.e.2.la a.e.1.x.lvs.length a.e.2.lc, .slice a.e.2.da a.e.1.x.ldr.length a.e.2.dc, .slice a.aa a.all.length a.ac, .slice a.ta a.told.length a.tc, .bool a.fol], .agg #[.int .u16 (b.p.1 : Int), .int .u32 (b.p.2 : Int), .int .u64 (b.e.1.x.id : Int), .slice b.e.2.ma b.e.1.x.mem.length b.e.2.mc, .slice b.e.2.la b.e.1.x.lvs.length b.e.2.lc, .slice b.e.2.da b.e.1.x.ldr.length b.e.2.dc, .slice b.aa b.all.length b.ac, .slice b.ta b.told.length b.tc, .bool b.fol]] W (Ret fun v w' => v = .bool ((!a.fol || !b.fol || decide (a.told.length = b.told.length) && bg a b)) ∧ Below W.heap.size W w') := fun a ha b hb W hW => rule3_ok a b _ rfl W ((hD.fy a ha).grow hW) ((hD.fy b hb).grow hW)
theorem r4_fn (gc : Nat) (D : Ck) (w : World) (hD : CkW w gc D) : ∀ a ∈ D.ss, ∀ b ∈ D.ss, ∀ W : World, Below w.heap.size w W → Calls Try.prog 46 #[.agg #[.int .u16 (a.p.1 : Int), .int .u32 (a.p.2 : Int), .int .u64 (a.e.1.x.id : Int), .slice a.e.2.ma a.e.1.x.mem.length a.e.2.mc, .slice a.e.2.la a.e.1.x.lvs.length a.e.2.lc, .slice a.e.2.da a.e.1.x.ldr.length a.e.2.dc, .slice a.aa a.all.length a.ac, .slice a.ta a.told.length a.tc, .bool a.fol], .agg #[.int .u16 (b.p.1 : Int), .int .u32 (b.p.2 : Int), .int .u64 (b.e.1.x.id : Int), .slice b.e.2.ma b.e.1.x.mem.length b.e.2.mc, .slice b.e.2.la b.e.1.x.lvs.length b.e.2.lc, .slice b.e.2.da b.e.1.x.ldr.length b.e.2.dc, .slice b.aa b.all.length b.ac, .slice b.ta b.told.length b.tc, .bool b.fol]] W (Ret fun v w' => v = .bool ((!b.fol || bg a b)) ∧ Below W.heap.size W w') := fun a ha b hb W hW => rule4_ok a b _ rfl W ((hD.fy a ha).grow hW) ((hD.fy b hb).grow hW)
theorem rule1R_ok (gc : Nat) (D : Ck) (r : Bool) (hr : ruleD D 1 = r) (w : World) (hD : CkW w gc D) :
    Calls Try.prog 31 #[.pointer (some ⟨gc, 0, none⟩), .int .i64 1] w (Ret fun v w' => v = .bool r ∧ Below w.heap.size w w') := by
  have H := St.init w
  have HR : Hid (ordD D.ls = r) := Lib.hid hr
  have HD := Lib.hid hD
  clear hr hD
  go_enter Try.func31, Try.ntmps31
  go_wp2_with (first | (go_at_call 36; (with_reducible refine (order_ok gc D r HR.out _ (HD.out.grow H.below)).mono ?_); rintro e w1 ⟨v, rfl, hr⟩; obtain ⟨rfl, hb1⟩ := hr; replace H := H.grow hb1; clear hb1))
  go_ret
  exact ⟨_, rfl, rfl, H.below⟩
theorem rule2R_ok (gc : Nat) (D : Ck) (r : Bool) (hr : ruleD D 2 = r) (w : World) (hD : CkW w gc D) :
    Calls Try.prog 31 #[.pointer (some ⟨gc, 0, none⟩), .int .i64 2] w (Ret fun v w' => v = .bool r ∧ Below w.heap.size w w') := by
  have H := St.init w
  have HR : Hid (viewsD D = r) := Lib.hid hr
  have HD := Lib.hid hD
  clear hr hD
  go_enter Try.func31, Try.ntmps31
  go_wp2_with (first | (go_at_call 37; (with_reducible refine (views_ok gc D r HR.out _ (HD.out.grow H.below)).mono ?_); rintro e w1 ⟨v, rfl, hr⟩; obtain ⟨rfl, hb1⟩ := hr; replace H := H.grow hb1; clear hb1))
  go_ret
  exact ⟨_, rfl, rfl, H.below⟩
theorem rule3R_ok (gc : Nat) (D : Ck) (r : Bool) (hr : ruleD D 3 = r) (w : World) (hD : CkW w gc D) :
    Calls Try.prog 31 #[.pointer (some ⟨gc, 0, none⟩), .int .i64 3] w (Ret fun v w' => v = .bool r ∧ Below w.heap.size w w') := by
  have H := St.init w
  have HR : Hid (D.ss.all (fun y => decide (nbl y.all ≤ 1)) = r) := Lib.hid hr
  have HD := Lib.hid hD
  clear hr hD
  go_enter Try.func31, Try.ntmps31
  go_wp2_with (first | (go_at_call 38; (with_reducible refine (each_ok gc _ _ _ D.oa D.oc D.ss 39 #[] #[] ent_once (fun y => decide (nbl y.all ≤ 1)) r HR.out _ (fun j hj => (H.below.cell HD.out.lt).trans (HD.out.c j hj)) (Nat.lt_of_lt_of_le HD.out.lt H.below.size) (HD.out.f.grow H.below) (once_fn gc D _ (HD.out.grow H.below))).mono ?_); rintro e w1 ⟨v, rfl, hr⟩; obtain ⟨rfl, hb1⟩ := hr; replace H := H.grow hb1; clear hb1))
  go_ret
  exact ⟨_, rfl, rfl, H.below⟩
theorem rule4R_ok (gc : Nat) (D : Ck) (r : Bool) (hr : ruleD D 4 = r) (w : World) (hD : CkW w gc D) :
    Calls Try.prog 31 #[.pointer (some ⟨gc, 0, none⟩), .int .i64 4] w (Ret fun v w' => v = .bool r ∧ Below w.heap.size w w') := by
  have H := St.init w
  have HR : Hid ((D.ss.all fun a => D.ss.all fun b => !(decide (vid a = vid b)) || (fun a b => vSame a.e.1.x b.e.1.x) a b) = r) := Lib.hid hr
  have HD := Lib.hid hD
  clear hr hD
  go_enter Try.func31, Try.ntmps31
  go_wp2_with (first | (go_at_call 40; (with_reducible refine (pairs_ok gc _ _ _ D.oa D.oc D.ss 41 ent_r1 (fun a b => vSame a.e.1.x b.e.1.x) r HR.out _ (fun j hj => (H.below.cell HD.out.lt).trans (HD.out.c j hj)) (Nat.lt_of_lt_of_le HD.out.lt H.below.size) (HD.out.f.grow H.below) (r1_fn gc D _ (HD.out.grow H.below))).mono ?_); rintro e w1 ⟨v, rfl, hr⟩; obtain ⟨rfl, hb1⟩ := hr; replace H := H.grow hb1; clear hb1))
  go_ret
  exact ⟨_, rfl, rfl, H.below⟩
theorem rule5R_ok (gc : Nat) (D : Ck) (r : Bool) (hr : ruleD D 5 = r) (w : World) (hD : CkW w gc D) :
    Calls Try.prog 31 #[.pointer (some ⟨gc, 0, none⟩), .int .i64 5] w (Ret fun v w' => v = .bool r ∧ Below w.heap.size w w') := by
  have H := St.init w
  have HR : Hid (D.ss.all (knownD D) = r) := Lib.hid hr
  have HD := Lib.hid hD
  clear hr hD
  go_enter Try.func31, Try.ntmps31
  go_wp2_with (first | (go_at_call 38; (with_reducible refine (each_ok gc _ _ _ D.oa D.oc D.ss 42 #[.pointer (some ⟨gc, 0, none⟩)] #[] ent_known (knownD D) r HR.out _ (fun j hj => (H.below.cell HD.out.lt).trans (HD.out.c j hj)) (Nat.lt_of_lt_of_le HD.out.lt H.below.size) (HD.out.f.grow H.below) (known_fn gc D _ (HD.out.grow H.below))).mono ?_); rintro e w1 ⟨v, rfl, hr⟩; obtain ⟨rfl, hb1⟩ := hr; replace H := H.grow hb1; clear hb1))
  go_ret
  exact ⟨_, rfl, rfl, H.below⟩
theorem rule6R_ok (gc : Nat) (D : Ck) (r : Bool) (hr : ruleD D 6 = r) (w : World) (hD : CkW w gc D) :
    Calls Try.prog 31 #[.pointer (some ⟨gc, 0, none⟩), .int .i64 6] w (Ret fun v w' => v = .bool r ∧ Below w.heap.size w w') := by
  have H := St.init w
  have HR : Hid (D.ss.all (fun y => cntD y.told) = r) := Lib.hid hr
  have HD := Lib.hid hD
  clear hr hD
  go_enter Try.func31, Try.ntmps31
  go_wp2_with (first | (go_at_call 38; (with_reducible refine (each_ok gc _ _ _ D.oa D.oc D.ss 43 #[] #[] ent_counted (fun y => cntD y.told) r HR.out _ (fun j hj => (H.below.cell HD.out.lt).trans (HD.out.c j hj)) (Nat.lt_of_lt_of_le HD.out.lt H.below.size) (HD.out.f.grow H.below) (counted_fn gc D _ (HD.out.grow H.below))).mono ?_); rintro e w1 ⟨v, rfl, hr⟩; obtain ⟨rfl, hb1⟩ := hr; replace H := H.grow hb1; clear hb1))
  go_ret
  exact ⟨_, rfl, rfl, H.below⟩
theorem rule7R_ok (gc : Nat) (D : Ck) (r : Bool) (hr : ruleD D 7 = r) (w : World) (hD : CkW w gc D) :
    Calls Try.prog 31 #[.pointer (some ⟨gc, 0, none⟩), .int .i64 7] w (Ret fun v w' => v = .bool r ∧ Below w.heap.size w w') := by
  have H := St.init w
  have HR : Hid ((D.ss.all fun a => D.ss.all fun b => !(decide (vid a = vid b)) || (fun a b => bg a b || bg b a) a b) = r) := Lib.hid hr
  have HD := Lib.hid hD
  clear hr hD
  go_enter Try.func31, Try.ntmps31
  go_wp2_with (first | (go_at_call 40; (with_reducible refine (pairs_ok gc _ _ _ D.oa D.oc D.ss 44 ent_r2 (fun a b => bg a b || bg b a) r HR.out _ (fun j hj => (H.below.cell HD.out.lt).trans (HD.out.c j hj)) (Nat.lt_of_lt_of_le HD.out.lt H.below.size) (HD.out.f.grow H.below) (r2_fn gc D _ (HD.out.grow H.below))).mono ?_); rintro e w1 ⟨v, rfl, hr⟩; obtain ⟨rfl, hb1⟩ := hr; replace H := H.grow hb1; clear hb1))
  go_ret
  exact ⟨_, rfl, rfl, H.below⟩
theorem rule8R_ok (gc : Nat) (D : Ck) (r : Bool) (hr : ruleD D 8 = r) (w : World) (hD : CkW w gc D) :
    Calls Try.prog 31 #[.pointer (some ⟨gc, 0, none⟩), .int .i64 8] w (Ret fun v w' => v = .bool r ∧ Below w.heap.size w w') := by
  have H := St.init w
  have HR : Hid ((D.ss.all fun a => D.ss.all fun b => !(decide (vid a = vid b)) || (fun a b => !a.fol || !b.fol || decide (a.told.length = b.told.length) && bg a b) a b) = r) := Lib.hid hr
  have HD := Lib.hid hD
  clear hr hD
  go_enter Try.func31, Try.ntmps31
  go_wp2_with (first | (go_at_call 40; (with_reducible refine (pairs_ok gc _ _ _ D.oa D.oc D.ss 45 ent_r3 (fun a b => !a.fol || !b.fol || decide (a.told.length = b.told.length) && bg a b) r HR.out _ (fun j hj => (H.below.cell HD.out.lt).trans (HD.out.c j hj)) (Nat.lt_of_lt_of_le HD.out.lt H.below.size) (HD.out.f.grow H.below) (r3_fn gc D _ (HD.out.grow H.below))).mono ?_); rintro e w1 ⟨v, rfl, hr⟩; obtain ⟨rfl, hb1⟩ := hr; replace H := H.grow hb1; clear hb1))
  go_ret
  exact ⟨_, rfl, rfl, H.below⟩
theorem rule9R_ok (gc : Nat) (D : Ck) (r : Bool) (hr : ruleD D 9 = r) (w : World) (hD : CkW w gc D) :
    Calls Try.prog 31 #[.pointer (some ⟨gc, 0, none⟩), .int .i64 9] w (Ret fun v w' => v = .bool r ∧ Below w.heap.size w w') := by
  have H := St.init w
  have HR : Hid ((D.ss.all fun a => D.ss.all fun b => !(decide (vid a = vid b)) || (fun a b => !b.fol || bg a b) a b) = r) := Lib.hid hr
  have HD := Lib.hid hD
  clear hr hD
  go_enter Try.func31, Try.ntmps31
  go_wp2_with (first | (go_at_call 40; (with_reducible refine (pairs_ok gc _ _ _ D.oa D.oc D.ss 46 ent_r4 (fun a b => !b.fol || bg a b) r HR.out _ (fun j hj => (H.below.cell HD.out.lt).trans (HD.out.c j hj)) (Nat.lt_of_lt_of_le HD.out.lt H.below.size) (HD.out.f.grow H.below) (r4_fn gc D _ (HD.out.grow H.below))).mono ?_); rintro e w1 ⟨v, rfl, hr⟩; obtain ⟨rfl, hb1⟩ := hr; replace H := H.grow hb1; clear hb1))
  go_ret
  exact ⟨_, rfl, rfl, H.below⟩
theorem rule10R_ok (gc : Nat) (D : Ck) (r : Bool) (hr : ruleD D 10 = r) (w : World) (hD : CkW w gc D) :
    Calls Try.prog 31 #[.pointer (some ⟨gc, 0, none⟩), .int .i64 10] w (Ret fun v w' => v = .bool r ∧ Below w.heap.size w w') := by
  have H := St.init w
  have HR : Hid (D.ss.all (behD D) = r) := Lib.hid hr
  have HD := Lib.hid hD
  clear hr hD
  go_enter Try.func31, Try.ntmps31
  go_wp2_with (first | (go_at_call 38; (with_reducible refine (each_ok gc _ _ _ D.oa D.oc D.ss 47 #[.pointer (some ⟨gc, 0, none⟩)] #[] ent_behind (behD D) r HR.out _ (fun j hj => (H.below.cell HD.out.lt).trans (HD.out.c j hj)) (Nat.lt_of_lt_of_le HD.out.lt H.below.size) (HD.out.f.grow H.below) (behind_fn gc D _ (HD.out.grow H.below))).mono ?_); rintro e w1 ⟨v, rfl, hr⟩; obtain ⟨rfl, hb1⟩ := hr; replace H := H.grow hb1; clear hb1))
  go_ret
  exact ⟨_, rfl, rfl, H.below⟩

end Go.Proofs.Ytbepaafgcbgmfaa

namespace Go.Proofs.Ytbepaafgcbgmfaa
open Go.ChangeShapes Go.WideShapes Go.ChangeAt Go.RowKit Go.Maps Go.Deep
set_option linter.unusedVariables false
set_option linter.unusedSimpArgs false
set_option linter.unusedSectionVars false
/-! ### Stays of lives, read only -/
def rdS (G : Nat → Prop) (bs : List By) : Res := (G, fun w => ∀ b ∈ bs, SysG G w (hvB b) b.ss)
theorem rdS_loc (G : Nat → Prop) (bs : List By) : Loc (rdS G bs) := fun _ _ hb h x hx => (h x hx).loc hb
theorem St.rdS0 {B : Nat} {w0 w : World} {L : List Res} (H : St B w0 w L) : St B w0 w (rdS (fun _ => False) [] :: L) :=
  St.emp (p := (rdS (fun _ => False) []).2) (fun W x hx => absurd hx List.not_mem_nil) H
def sysr (G : Nat → Prop) (b : By) : Res := (G, fun w => SysG G w (hvB b) b.ss)
theorem sysr_sound {G : Nat → Prop} {w : World} {b : By} {n : Nat} (hG : ∀ g, G g → n ≤ g ∧ g < w.heap.size) (h : SysG G w (hvB b) b.ss) : Sound (sysr G b) w :=
  ⟨h, fun g hg => (hG g hg).2, fun _ _ hb h1 => h1.loc hb⟩
theorem St.joinS {B : Nat} {w0 w : World} {L : List Res} {G G1 : Nat → Prop} {bs : List By} {b : By} (H : St B w0 w (sysr G1 b :: rdS G bs :: L)) : ∃ G' : Nat → Prop, St B w0 w (rdS G' (bs ++ [b]) :: L) :=
  ⟨fun g => G1 g ∨ G g, H.join.conv (r' := rdS (fun g => G1 g ∨ G g) (bs ++ [b])) (fun g h => h) (fun hs => ⟨fun z hz => by
    rcases List.mem_append.1 hz with h1 | h1
    · exact (hs.here.2 z h1).mono (fun g hg => .inr hg)
    · obtain rfl := List.mem_singleton.1 h1
      exact SysG.mono (fun g hg => .inl hg) hs.here.1, hs.lt, rdS_loc _ _⟩)⟩
/-! ### Messages by key -/
def sv0 : Sv := ⟨[], none, 0⟩
def svR (p : Ky × Sv) : Res := slc 64 6 (evS p.2) p.2.l.length (fv snc p.2.l)
theorem perm_pull {α β : Type} (f : α → β) {M : List α} {j : Nat} {p : α} (h : M[j]? = some p) : (M.map f).Perm (f p :: (M.eraseIdx j).map f) := by
  induction M generalizing j with
  | nil => cases h
  | cons a M ih =>
    cases j with
    | zero =>
      have : a = p := by simpa using h
      subst this; exact List.Perm.refl _
    | succ j =>
      have := ih (j := j) (by simpa using h)
      exact (this.cons (f a)).trans (.swap _ _ _)
theorem perm_push {α β : Type} (f : α → β) {M : List α} {j : Nat} {p q : α} (h : M[j]? = some p) : (f q :: (M.eraseIdx j).map f).Perm ((M.set j q).map f) := by
  have hj := (List.getElem?_eq_some_iff.1 h).1
  have h2 : (M.set j q)[j]? = some q := by rw [List.getElem?_set_self hj]
  have := perm_pull f h2
  rw [List.eraseIdx_set_eq] at this
  exact this.symm
theorem mget_idx {α β : Type} [DecidableEq α] {M : List (α × β)} {q : α} {v : β} (h : mget M q = some v) : ∃ j : Nat, M[j]? = some (q, v) := by
  obtain ⟨j, hj, e⟩ := List.getElem_of_mem (mget_mem h)
  exact ⟨j, by rw [List.getElem?_eq_getElem hj, e]⟩
/-- The messages of a key are taken out, to be added to. -/
theorem St.svOut {B : Nat} {w0 w : World} {M : List (Ky × Sv)} (q : Ky) (hn : M.Pairwise fun p q => p.1 ≠ q.1) {A : List Res} (H : St B w0 w (A ++ M.map svR)) :
    ∃ LS : List Res, St B w0 w (svR (q, (mget M q).getD sv0) :: (A ++ LS)) ∧ ∀ s : Sv, (svR (q, s) :: LS).Perm ((mput M q s).map svR) := by
  cases hm : mget M q with
  | none =>
    refine ⟨M.map svR, H.nil 64 6, fun s => ?_⟩
    rw [mput_new hm, List.map_append]
    exact (List.perm_append_comm (l₁ := [svR (q, s)]) (l₂ := M.map svR))
  | some v =>
    obtain ⟨j, hj⟩ := mget_idx hm
    refine ⟨(M.eraseIdx j).map svR, H.perm ?_, fun s => ?_⟩
    · exact ((perm_pull svR hj).append_left A).trans List.perm_middle
    · rw [mput_set hn hj]; exact perm_push svR hj
theorem St.svIn {B : Nat} {w0 w : World} {A LS LT : List Res} {r : Res} (h : (r :: LS).Perm LT) (H : St B w0 w (r :: (A ++ LS))) : St B w0 w (A ++ LT) :=
  H.perm (List.perm_middle.symm.trans (h.append_left A))
end Go.Proofs.Ytbepaafgcbgmfaa

namespace Go.Proofs.Ytbepaafgcbgmfaa
open Go.ChangeShapes Go.WideShapes Go.ChangeAt Go.RowKit Go.Maps Go.Deep
set_option linter.unusedVariables false
set_option linter.unusedSimpArgs false
set_option linter.unusedSectionVars false
theorem staysH_sub (l : List Eh) : ∀ es ∈ staysH l, ∀ e ∈ es, e ∈ l := by
  have : ∀ (l : List Eh) (S : List (List Eh)) (p : Eh → Prop), (∀ es ∈ S, ∀ e ∈ es, p e) → (∀ e ∈ l, p e) → ∀ es ∈ l.foldl stA S, ∀ e ∈ es, p e := by
    intro l
    induction l with
    | nil => intro S p h _; exact h
    | cons a l ih =>
      intro S p h hl
      refine ih _ p ?_ (fun e he => hl e (List.mem_cons_of_mem _ he))
      have ha := hl a List.mem_cons_self
      unfold stA
      intro es hes e he
      split at hes
      · rcases List.mem_append.1 hes with h1 | h1
        · exact h es h1 e he
        · obtain rfl := List.mem_singleton.1 h1
          obtain rfl := List.mem_singleton.1 he
          exact ha
      · split at hes
        · cases hes
        · rename_i x hx
          rcases List.mem_append.1 hes with h1 | h1
          · exact h es (List.dropLast_subset _ h1) e he
          · obtain rfl := List.mem_singleton.1 h1
            rcases List.mem_append.1 he with h2 | h2
            · exact h x (List.mem_of_getLast? hx) e h2
            · obtain rfl := List.mem_singleton.1 h2; exact ha
  exact this l [] (fun e => e ∈ l) (fun es h => absurd h List.not_mem_nil) (fun e he => he)
theorem lifeN_mem (p : Pr) (n : Nat) : ∀ (T : List (List Eh)) (k : Nat) (d : Sd), d ∈ lifeN p n k T → d.1 = p ∧ d.2.1 = d.2.2.1.headD eh0 ∧ d.2.2.1 ∈ T ∧ d.2.2.2.1 = tlE d.2.2.1
  | [], k, d, h => by simp [lifeN] at h
  | es :: T, k, d, h => by
    simp only [lifeN, List.mem_cons] at h
    rcases h with rfl | h
    · exact ⟨rfl, rfl, List.mem_cons_self, rfl⟩
    · obtain ⟨h1, h2, h3, h4⟩ := lifeN_mem p n T (k + 1) d h
      exact ⟨h1, h2, List.mem_cons_of_mem _ h3, h4⟩
theorem lifeN_len (p : Pr) (n : Nat) : ∀ (T : List (List Eh)) (k : Nat), (lifeN p n k T).length = T.length
  | [], k => rfl
  | es :: T, k => by simp [lifeN, lifeN_len p n T (k + 1)]
theorem lifeH_len (p : Pr) (l : List Eh) : (lifeH p l).length ≤ l.length := by
  unfold lifeH; rw [lifeN_len]; exact (staysH_sum l).1
structure InLife (x : Lv) (d : Sd) : Prop where
  p : d.1 = x.p
  e : d.2.1 ∈ x.l
  all : ∀ e ∈ d.2.2.1, e ∈ x.l
  told : ∀ e ∈ d.2.2.2.1, e ∈ x.l
  la : d.2.2.1.length ≤ x.l.length
  lt : d.2.2.2.1.length ≤ x.l.length
theorem lifeH_in (x : Lv) (d : Sd) (h : d ∈ lifeH x.p x.l) : InLife x d := by
  obtain ⟨h1, h2, h3, h4⟩ := lifeN_mem _ _ _ _ _ h
  have hs := staysH_sub x.l _ h3
  have hl := (staysH_sum x.l).2 _ h3
  obtain ⟨e, r, her⟩ := staysH_head x.l _ h3
  refine ⟨h1, ?_, hs, fun e he => ?_, hl, ?_⟩
  · rw [h2, her]; exact hs e (by rw [her]; exact List.mem_cons_self)
  · rw [h4] at he; exact hs e (List.mem_filter.1 he).1
  · rw [h4]; exact Nat.le_trans (List.length_filter_le _ _) hl
/-- A stay that is some life's reads as it must. -/
theorem SyW.of {w : World} {x : Lv} {y : Sy} (hx : LvW w x) (hi : InLife x (syd y)) (ha : InR All w ⟨y.all, y.aa, y.ac⟩) (ht : InR All w ⟨y.told, y.ta, y.tc⟩) : SyW w y :=
  ⟨hx.ev _ hi.e, hx.wf _ hi.e, hx.sm _ hi.e, ha.1.sl, ht.1.sl, ht.2, fun e he => hx.ev e (hi.told e he), fun e he => hx.wf e (hi.told e he), Nat.le_trans hi.la hx.len, Nat.le_trans hi.lt hx.len, by have := hi.p; simp only [syd] at this; rw [this]; exact hx.p1, by have := hi.p; simp only [syd] at this; rw [this]; exact hx.p2⟩
/-- What the checker is made of. -/
structure CkD (D : Ck) (ls : List Lv) (sn : List Sn) : Prop where
  eq : D.ls = ls
  by_ : D.bys.map (fun b => b.ss.map syd) = ls.map (fun x => lifeH x.p x.l)
  ss : D.ss = D.bys.flatMap (·.ss)
  se : ∀ q : Ky, sentOf D q = sn.filter (fun x => decide ((x.p, x.vw, x.num) = q))
theorem by_life {bys : List By} {ls : List Lv} (h : bys.map (fun b => b.ss.map syd) = ls.map (fun x => lifeH x.p x.l)) {b : By} (hb : b ∈ bys) : ∃ x ∈ ls, ∀ y ∈ b.ss, InLife x (syd y) := by
  have h1 : b.ss.map syd ∈ ls.map (fun x => lifeH x.p x.l) := by rw [← h]; exact List.mem_map.2 ⟨b, hb, rfl⟩
  obtain ⟨x, hx, e⟩ := List.mem_map.1 h1
  exact ⟨x, hx, fun y hy => lifeH_in x _ (by rw [e]; exact List.mem_map.2 ⟨y, hy, rfl⟩)⟩
theorem fvs_one (ss : List Sy) : ∀ u ∈ fv syc ss, u.oneCell' = true := by
  intro u hu
  unfold fv at hu
  obtain ⟨y, _, hy⟩ := List.mem_flatMap.1 hu
  unfold syc at hy
  simp only [List.mem_cons, List.not_mem_nil, or_false] at hy
  rcases hy with rfl | rfl | rfl | rfl | rfl | rfl | rfl | rfl | rfl <;> rfl
theorem snc_one (x : Sn) : ∀ u ∈ (#[.int .u16 (x.p.1 : Int), .int .u32 (x.p.2 : Int), .int .u64 (x.vw : Int), .int .u64 (x.num : Int), .slice x.a x.data.length x.c, .int .i64 x.seen] : Array Value).toList, u.oneCell' = true := by
  intro u hu
  simp only [List.mem_cons, List.not_mem_nil, or_false] at hu
  rcases hu with rfl | rfl | rfl | rfl | rfl | rfl <;> rfl
end Go.Proofs.Ytbepaafgcbgmfaa
