/- Layer 21's laws' script: acts in memory, opened; is there more than is looked at? The law's do, of any act; no condition. Structs of one size as values of a slice; plain. -/
import Derived.Test.YtjghcmejmdllbaaEz1
import Derived.Test.YtjghcmejmdllbaaEz24
import Derived.Test.YtjghcmejmdllbaaEz25
import Derived.Test.YtjghcmejmdllbaaEz26
import Derived.Test.YtjghcmejmdllbaaEz27
import Derived.Test.YtjghcmejmdllbaaEz28
namespace Go.Proofs.Ytjghcmejmdllbaa
open Go.ChangeShapes Go.WideShapes Go.ChangeAt Go.RowKit Go.Maps Go.Deep
set_option linter.unusedVariables false
set_option linter.unusedSimpArgs false
set_option linter.unusedSectionVars false
set_option maxRecDepth 100000
set_option maxHeartbeats 4000000
/-- An act of the law's script. -/
structure Ag where
  kind : Int
  x : Vw
  xh : Hd
  s0 : Nat
  q : Pr
  kd : Int
  m1 : Int
  m2 : Int
  m3 : Int
  m5 : Int
  m6 : Int
  ms : Nat
  mb : Bl
  ma : Bl
  mh : Bool
  mc : Cm
  me : Hd
  mv : Vw
  mx : Hd
  my : Option Addr
  m7 : Nat
  mz : Nat
  ft : Bool
  c : Cm
  h : Hd
def ag0 : Ag := ⟨0, vw0, hd0, 0, (0, 0), 0, 0, 0, 0, 0, 0, 0, bl0, bl0, false, cm0, hd0, vw0, hd0, none, 0, 0, false, cm0, hd0⟩
abbrev agC (a : Ag) : Array Value := #[.int .i64 a.kind, .int .u64 (a.x.id : Int), .slice a.xh.ma a.x.mem.length a.xh.mc, .slice a.xh.la a.x.lvs.length a.xh.lc, .slice a.xh.da a.x.ldr.length a.xh.dc, .int .u64 (a.s0 : Int), .int .u16 (a.q.1 : Int), .int .u32 (a.q.2 : Int), .int .i64 a.kd, .int .u16 a.m1, .int .u32 a.m2, .int .u64 a.m3, .int .u64 (a.ms : Int), .int .u64 a.m5, .int .i64 a.m6, .int .u32 (a.mb.r : Int), .int .u16 (a.mb.w.1 : Int), .int .u32 (a.mb.w.2 : Int), .int .u32 (a.ma.r : Int), .int .u16 (a.ma.w.1 : Int), .int .u32 (a.ma.w.2 : Int), .bool a.mh, .int .i64 a.mc.kind, .int .u16 (a.mc.fr.1 : Int), .int .u32 (a.mc.fr.2 : Int), .int .u64 (a.mc.num : Int), .int .u64 (a.mc.vw : Int), .slice a.me.ba a.mc.data.length a.me.bc, .int .u64 (a.mc.v.id : Int), .slice a.me.ma a.mc.v.mem.length a.me.mc, .slice a.me.la a.mc.v.lvs.length a.me.lc, .slice a.me.da a.mc.v.ldr.length a.me.dc, .int .u64 (a.mv.id : Int), .slice a.mx.ma a.mv.mem.length a.mx.mc, .slice a.mx.la a.mv.lvs.length a.mx.lc, .slice a.mx.da a.mv.ldr.length a.mx.dc, .slice a.my a.m7 a.mz, .bool a.ft, .int .i64 a.c.kind, .int .u16 (a.c.fr.1 : Int), .int .u32 (a.c.fr.2 : Int), .int .u64 (a.c.num : Int), .int .u64 (a.c.vw : Int), .slice a.h.ba a.c.data.length a.h.bc, .int .u64 (a.c.v.id : Int), .slice a.h.ma a.c.v.mem.length a.h.mc, .slice a.h.la a.c.v.lvs.length a.h.lc, .slice a.h.da a.c.v.ldr.length a.h.dc]
structure wfAg (W : World) (a : Ag) : Prop where
  v : wfV a.x
  vx : VwG (Old W) W (.slice a.xh.ma a.x.mem.length a.xh.mc) (.slice a.xh.la a.x.lvs.length a.xh.lc) (.slice a.xh.da a.x.ldr.length a.xh.dc) a.x
  s0 : a.s0 < 18446744073709551616
  q1 : a.q.1 < 65536
  q2 : a.q.2 < 4294967296
  m : wfM W a.ms a.mb a.ma a.mc a.me a.mv a.mx a.m7 a.mz
  c : wfC a.c
  cx : CmG (Old W) W (.slice a.h.ba a.c.data.length a.h.bc) (.slice a.h.ma a.c.v.mem.length a.h.mc) (.slice a.h.la a.c.v.lvs.length a.h.lc) (.slice a.h.da a.c.v.ldr.length a.h.dc) a.c
def elG (l : List Ag) (i : Nat) : Array Value := agC (l.getD i ag0)
section
variable {H : Type} {enc : TypeId × Value → H}
theorem cells_ag {fuel : Nat} {W : World} {cs : List Value} {y : DataW H × List MemPlace} (hf : DataW.trod enc Try.prog W 0 (fun _ => true) true fuel 76 cs = some y) :
    ∃ a : Ag, cs = (agC a).toList ∧ wfAg W a := by
  obtain ⟨xs, n, _, _, hl, hx, hfl⟩ := DataW.trod_struct Try.underlying76 hf
  have hC76 : Try.prog.cellsOf 76 = 48 := by kernel_rfl
  have hC3 : Try.prog.cellsOf 3 = 1 := by kernel_rfl
  have hC26 : Try.prog.cellsOf 26 = 4 := by kernel_rfl
  have hC22 : Try.prog.cellsOf 22 = 1 := by kernel_rfl
  have hC36 : Try.prog.cellsOf 36 = 2 := by kernel_rfl
  have hC74 : Try.prog.cellsOf 74 = 29 := by kernel_rfl
  have hC4 : Try.prog.cellsOf 4 = 1 := by kernel_rfl
  have hC43 : Try.prog.cellsOf 43 = 10 := by kernel_rfl
  rw [hC76] at hl
  match xs, hx with
  | [x0, x1, x2, x3, x4, x5, x6], _ =>
    have h0 := hfl 0 _ rfl
    have h1 := hfl 1 _ rfl
    have h2 := hfl 2 _ rfl
    have h3 := hfl 3 _ rfl
    have h4 := hfl 4 _ rfl
    have h5 := hfl 5 _ rfl
    have h6 := hfl 6 _ rfl
    simp only [List.getElem_toArray, List.getElem_cons_zero, List.getElem_cons_succ, hC3, hC26, hC22, hC36, hC74, hC4, hC43, List.drop_zero, List.getElem?_cons_zero, List.getElem?_cons_succ] at h0 h1 h2 h3 h4 h5 h6
    obtain ⟨k0, e0, _, w0⟩ := DataW.trod_int Try.underlying3 h0
    obtain ⟨x, ma1, la1, da1, mc1, lc1, dc1, e1, hv, sv⟩ := cells_vw h1
    obtain ⟨k2, e2, _, w2⟩ := DataW.trod_int Try.underlying22 h2
    obtain ⟨p, q, e3, hp, hq⟩ := cells_pid h3
    obtain ⟨kd, m1, m2, m3, m5, m6, ms, mb, ma, mh, mc, me, mv, mx, my, m7, mz, e4, hm⟩ := cells_msg h4
    obtain ⟨tv, e5, _⟩ := DataW.trod_bool Try.underlying4 h5
    obtain ⟨c, ba, ma2, la2, da2, bc, mc2, lc2, dc2, e6, hcap, hw, hc⟩ := cells_cmM h6
    have b2 := bounds_u64 w2
    have t0 := (List.take_append_drop 1 cs).symm
    have t1 : cs.drop 1 = (cs.drop 1).take 4 ++ cs.drop 5 := by have := (List.take_append_drop 4 (cs.drop 1)).symm; rwa [List.drop_drop] at this
    have t2 : cs.drop 5 = (cs.drop 5).take 1 ++ cs.drop 6 := by have := (List.take_append_drop 1 (cs.drop 5)).symm; rwa [List.drop_drop] at this
    have t3 : cs.drop 6 = (cs.drop 6).take 2 ++ cs.drop 8 := by have := (List.take_append_drop 2 (cs.drop 6)).symm; rwa [List.drop_drop] at this
    have t4 : cs.drop 8 = (cs.drop 8).take 29 ++ cs.drop 37 := by have := (List.take_append_drop 29 (cs.drop 8)).symm; rwa [List.drop_drop] at this
    have t5 : cs.drop 37 = (cs.drop 37).take 1 ++ cs.drop 38 := by have := (List.take_append_drop 1 (cs.drop 37)).symm; rwa [List.drop_drop] at this
    have t6 : cs.drop 38 = (cs.drop 38).take 10 := (List.take_of_length_le (by rw [List.length_drop, hl]; decide)).symm
    rw [e0] at t0
    rw [e1] at t1
    rw [e2] at t2
    rw [e3] at t3
    rw [e4] at t4
    rw [e5] at t5
    rw [e6] at t6
    rw [t1, t2, t3, t4, t5, t6] at t0
    refine ⟨⟨k0, x, ⟨none, ma1, la1, da1, 0, mc1, lc1, dc1⟩, k2.toNat, (p, q), kd, m1, m2, m3, m5, m6, ms, mb, ma, mh, mc, me, mv, mx, my, m7, mz, tv, c, ⟨ba, ma2, la2, da2, bc, mc2, lc2, dc2⟩⟩, ?_, ⟨hv, sv, by simp only; omega, hp, hq, hm, hw, hc⟩⟩
    rw [t0]
    simp only [agC, vwC, cmC]
    rw [show ((k2.toNat : Nat) : Int) = k2 by omega]
    rfl
/-- Acts that came in. -/
theorem open_ags {W : World} {base : Nat} {v : Value} {d : DataW H} {p : List MemPlace} (hv : Value.okWide Try.prog W .any base 61 v) (h : DataW.Trod enc Try.prog W 0 (fun _ => true) true 61 v d p) :
    ∃ (l : List Ag) (va : Option Addr) (vc : Nat), v = .slice va l.length vc ∧ Sl W 48 l.length (.slice va l.length vc) (elG l) ∧ ∀ a ∈ l, wfAg W a := by
  obtain ⟨n, E, hs, hE⟩ := open_sl Try.underlying61 (by kernel_rfl : Try.prog.cellsOf 76 = 48) (by omega) hv h
  obtain ⟨l, rfl, hl⟩ := collect (fun i (a : Ag) => E i = agC a ∧ wfAg W a) n (fun i hi => by
    obtain ⟨_, fuel, y, hf⟩ := hE i hi
    obtain ⟨a, e, hw⟩ := cells_ag hf
    exact ⟨a, Array.toList_inj.1 e, hw⟩)
  obtain ⟨va, vc, rfl, hm, hc⟩ := hs
  refine ⟨l, va, vc, rfl, ⟨va, vc, rfl, hm, fun h0 => ?_⟩, fun a ha => ?_⟩
  · obtain ⟨b, off, e, hb, hh⟩ := hc h0
    exact ⟨b, off, e, hb, fun i hi j hj => by rw [hh i hi j hj, (hl i hi).1]; unfold elG; rw [getD_at hi]⟩
  · obtain ⟨i, hi, rfl⟩ := List.getElem_of_mem ha
    exact (hl i hi).2
end
def gA (a : Ag) : Bool := gV a.x || (gM a.mc a.mv a.m7 || gC a.c)
theorem any_take {α : Type} {l : List α} {p : α → Bool} {n k : Nat} (h : (l.take n).any p = false) (hk : k < l.length) (hn : k < n) : p l[k] = false := by
  rw [List.any_eq_false] at h
  have := h l[k] (List.mem_iff_getElem.2 ⟨k, by rw [List.length_take]; omega, by rw [List.getElem_take]⟩)
  simpa using this
theorem agC_msg (a : Ag) (j : Nat) (hj : j < 29) : (agC a)[8 + j]? = (#[.int .i64 a.kd, .int .u16 a.m1, .int .u32 a.m2, .int .u64 a.m3, .int .u64 (a.ms : Int), .int .u64 a.m5, .int .i64 a.m6, .int .u32 (a.mb.r : Int), .int .u16 (a.mb.w.1 : Int), .int .u32 (a.mb.w.2 : Int), .int .u32 (a.ma.r : Int), .int .u16 (a.ma.w.1 : Int), .int .u32 (a.ma.w.2 : Int), .bool a.mh, .int .i64 a.mc.kind, .int .u16 (a.mc.fr.1 : Int), .int .u32 (a.mc.fr.2 : Int), .int .u64 (a.mc.num : Int), .int .u64 (a.mc.vw : Int), .slice a.me.ba a.mc.data.length a.me.bc, .int .u64 (a.mc.v.id : Int), .slice a.me.ma a.mc.v.mem.length a.me.mc, .slice a.me.la a.mc.v.lvs.length a.me.lc, .slice a.me.da a.mc.v.ldr.length a.me.dc, .int .u64 (a.mv.id : Int), .slice a.mx.ma a.mv.mem.length a.mx.mc, .slice a.mx.la a.mv.lvs.length a.mx.lc, .slice a.mx.da a.mv.ldr.length a.mx.dc, .slice a.my a.m7 a.mz] : Array Value)[j]? := by
  have hj' : j = 0 ∨ j = 1 ∨ j = 2 ∨ j = 3 ∨ j = 4 ∨ j = 5 ∨ j = 6 ∨ j = 7 ∨ j = 8 ∨ j = 9 ∨ j = 10 ∨ j = 11 ∨ j = 12 ∨ j = 13 ∨ j = 14 ∨ j = 15 ∨ j = 16 ∨ j = 17 ∨ j = 18 ∨ j = 19 ∨ j = 20 ∨ j = 21 ∨ j = 22 ∨ j = 23 ∨ j = 24 ∨ j = 25 ∨ j = 26 ∨ j = 27 ∨ j = 28 := by omega
  rcases hj' with rfl | rfl | rfl | rfl | rfl | rfl | rfl | rfl | rfl | rfl | rfl | rfl | rfl | rfl | rfl | rfl | rfl | rfl | rfl | rfl | rfl | rfl | rfl | rfl | rfl | rfl | rfl | rfl | rfl <;> rfl
attribute [local irreducible] gC gV gM
theorem great21_n (va : Option Addr) (vc : Nat) (l : List Ag) (n : Nat) (hn : l.length = n) (w : World) (hs : Sl w 48 n (.slice va n vc) (elG l)) (hx : ∀ a ∈ l, wfAg w a) :
    Calls Try.prog 28 #[.slice va n vc] w (Ret fun v w' => v = .bool ((l.take 60).any fun a => gA a) ∧ Below w.heap.size w w') := by
  have H := St.init w
  have HN := Lib.hid hn
  have HXX := Lib.hid hx
  obtain ⟨_, _, _, hm, _⟩ := id hs
  unfold maxLen at hm
  clear hn hx
  go_enter Try.func28, Try.ntmps28
  go_wp2_with fail
  go_loopw [3] (fun i wr => ∃ k : Nat, k ≤ n ∧ k ≤ 60 ∧ i = .int .i64 k ∧ Hid ((l.take k).any (fun a => gA a) = false) ∧ St w.heap.size w wr []) (fun i _ => 60 - (intOf i).toNat)
  case atStart => exact ⟨0, Nat.zero_le _, Nat.zero_le _, rfl, Lib.hid (by simp), H⟩
  case round =>
    clear H
    obtain ⟨k, hk, hk60, rfl, HT, H⟩ := hrel
    by_cases hlt : k < n
    · have kli : (k : Int) < (n : Int) := by omega
      by_cases h60 : k < 60
      · have k60i : (k : Int) < 60 := by omega
        have hl1 : k < l.length := by rw [HN.out]; exact hlt
        obtain ⟨b1, o1, rfl, hb1⟩ := hs.addr (by omega)
        have hc1 := hs.cell hlt
        unfold elG at hc1
        rw [getD_at hl1] at hc1
        have hs1 := List.take_succ_eq_append_getElem hl1
        have hmm := List.getElem_mem hl1
        obtain ⟨a, ha⟩ : ∃ a, l[k] = a := ⟨_, rfl⟩
        rw [ha] at hc1 hs1 hmm
        have HWA := Lib.hid (HXX.out a hmm)
        have HS1 := Lib.hid hs1
        have HMM := Lib.hid hmm
        have hsub : ∀ o n' : Nat, o + n' ≤ 48 → ∀ j, j < n' → w.cell? ⟨b1, o1 + k * 48 + o + j, none⟩ = (agC a)[o + j]? := fun o n' ho j hj => by
          rw [Nat.add_assoc (o1 + k * 48) o j]
          exact hc1 (o + j) (by omega)
        have hv1 : ∀ j, j < 4 → w.cell? ⟨b1, o1 + k * 48 + 1 + j, none⟩ = (#[.int .u64 (a.x.id : Int), .slice a.xh.ma a.x.mem.length a.xh.mc, .slice a.xh.la a.x.lvs.length a.xh.lc, .slice a.xh.da a.x.ldr.length a.xh.dc] : Array Value)[j]? := fun j hj => by
          rw [hsub 1 4 (by omega) j hj]
          have hj' : j = 0 ∨ j = 1 ∨ j = 2 ∨ j = 3 := by omega
          rcases hj' with rfl | rfl | rfl | rfl <;> rfl
        have hv2 : ∀ j, j < 29 → w.cell? ⟨b1, o1 + k * 48 + 8 + j, none⟩ = (#[.int .i64 a.kd, .int .u16 a.m1, .int .u32 a.m2, .int .u64 a.m3, .int .u64 (a.ms : Int), .int .u64 a.m5, .int .i64 a.m6, .int .u32 (a.mb.r : Int), .int .u16 (a.mb.w.1 : Int), .int .u32 (a.mb.w.2 : Int), .int .u32 (a.ma.r : Int), .int .u16 (a.ma.w.1 : Int), .int .u32 (a.ma.w.2 : Int), .bool a.mh, .int .i64 a.mc.kind, .int .u16 (a.mc.fr.1 : Int), .int .u32 (a.mc.fr.2 : Int), .int .u64 (a.mc.num : Int), .int .u64 (a.mc.vw : Int), .slice a.me.ba a.mc.data.length a.me.bc, .int .u64 (a.mc.v.id : Int), .slice a.me.ma a.mc.v.mem.length a.me.mc, .slice a.me.la a.mc.v.lvs.length a.me.lc, .slice a.me.da a.mc.v.ldr.length a.me.dc, .int .u64 (a.mv.id : Int), .slice a.mx.ma a.mv.mem.length a.mx.mc, .slice a.mx.la a.mv.lvs.length a.mx.lc, .slice a.mx.da a.mv.ldr.length a.mx.dc, .slice a.my a.m7 a.mz] : Array Value)[j]? := fun j hj => by
          rw [hsub 8 29 (by omega) j hj]
          exact agC_msg a j hj
        have hv3 : ∀ j, j < 10 → w.cell? ⟨b1, o1 + k * 48 + 38 + j, none⟩ = (#[.int .i64 a.c.kind, .int .u16 (a.c.fr.1 : Int), .int .u32 (a.c.fr.2 : Int), .int .u64 (a.c.num : Int), .int .u64 (a.c.vw : Int), .slice a.h.ba a.c.data.length a.h.bc, .int .u64 (a.c.v.id : Int), .slice a.h.ma a.c.v.mem.length a.h.mc, .slice a.h.la a.c.v.lvs.length a.h.lc, .slice a.h.da a.c.v.ldr.length a.h.dc] : Array Value)[j]? := fun j hj => by
          rw [hsub 38 10 (by omega) j hj]
          have hj' : j = 0 ∨ j = 1 ∨ j = 2 ∨ j = 3 ∨ j = 4 ∨ j = 5 ∨ j = 6 ∨ j = 7 ∨ j = 8 ∨ j = 9 := by omega
          rcases hj' with rfl | rfl | rfl | rfl | rfl | rfl | rfl | rfl | rfl | rfl <;> rfl
        clear hc1 hs1 ha hsub hmm hl1
        obtain ⟨e1, he1⟩ : ∃ e, gV a.x = e := ⟨_, rfl⟩
        obtain ⟨e2, he2⟩ : ∃ e, gM a.mc a.mv a.m7 = e := ⟨_, rfl⟩
        obtain ⟨e3, he3⟩ : ∃ e, gC a.c = e := ⟨_, rfl⟩
        have HE1 := Lib.hid he1
        have HE2 := Lib.hid he2
        have HE3 := Lib.hid he3
        have HGA : Hid (gA a = (e1 || (e2 || e3))) := Lib.hid (by unfold gA; rw [he1, he2, he3])
        clear he1 he2 he3
        have HV : Hid ((e1 || (e2 || e3)) = true → (l.take 60).any (fun a => gA a) = true) := Lib.hid (fun h => List.any_eq_true.2 ⟨a, (by
          have h2 : a ∈ l.take (k + 1) := by rw [HS1.out]; simp
          exact List.take_subset_take_left l (show k + 1 ≤ 60 by omega) h2), by rw [HGA.out]; exact h⟩)
        cases e1
        · cases e2
          · cases e3
            · have HV2 : Hid ((l.take (k + 1)).any (fun a => gA a) = false) := Lib.hid (by rw [HS1.out, List.any_append, HT.out]; simp [HGA.out])
              go_wp2_with (first | (go_at_call 27; (with_reducible refine (rgreat_is a.x _ _ _ _ _ _ _ _ HE1.out (HWA.out.vx.grow H.below)).mono ?_); rintro e w1 ⟨v, rfl, hr⟩; obtain ⟨rfl, hb1⟩ := hr; replace H := H.grow hb1; clear hb1) | (go_at_call 35; (with_reducible refine (rmgreat_is a.kd a.m1 a.m2 a.m3 a.m5 a.m6 a.ms a.mb a.ma a.mh a.mc a.me a.mv a.mx a.my a.m7 a.mz _ _ HE2.out (HWA.out.m.x.grow H.below) (HWA.out.m.y.grow H.below)).mono ?_); rintro e w1 ⟨v, rfl, hr⟩; obtain ⟨rfl, hb1⟩ := hr; replace H := H.grow hb1; clear hb1) | (go_at_call 58; (with_reducible refine (rcgreat_is a.c _ _ _ _ _ _ _ _ _ _ HE3.out (HWA.out.cx.grow H.below)).mono ?_); rintro e w1 ⟨v, rfl, hr⟩; obtain ⟨rfl, hb1⟩ := hr; replace H := H.grow hb1; clear hb1) | (with_reducible refine wpl rfl (Stp.ldor rfl agg26 size26 rfl H (by assumption) sZ (by assumption) ?_); simp only [pS]) | (with_reducible refine wpl rfl (Stp.ldor rfl agg74 size74 rfl H (by assumption) sZ (by assumption) ?_); simp only [pS]) | (with_reducible refine wpl rfl (Stp.ldor rfl agg43 size43 rfl H (by assumption) sZ (by assumption) ?_); simp only [pS]))
              go_roundw
              case rel => exact ⟨k + 1, by omega, by omega, by go_num, HV2, H⟩
              case measure => simp [intOf]; omega
            · go_wp2_with (first | (go_at_call 27; (with_reducible refine (rgreat_is a.x _ _ _ _ _ _ _ _ HE1.out (HWA.out.vx.grow H.below)).mono ?_); rintro e w1 ⟨v, rfl, hr⟩; obtain ⟨rfl, hb1⟩ := hr; replace H := H.grow hb1; clear hb1) | (go_at_call 35; (with_reducible refine (rmgreat_is a.kd a.m1 a.m2 a.m3 a.m5 a.m6 a.ms a.mb a.ma a.mh a.mc a.me a.mv a.mx a.my a.m7 a.mz _ _ HE2.out (HWA.out.m.x.grow H.below) (HWA.out.m.y.grow H.below)).mono ?_); rintro e w1 ⟨v, rfl, hr⟩; obtain ⟨rfl, hb1⟩ := hr; replace H := H.grow hb1; clear hb1) | (go_at_call 58; (with_reducible refine (rcgreat_is a.c _ _ _ _ _ _ _ _ _ _ HE3.out (HWA.out.cx.grow H.below)).mono ?_); rintro e w1 ⟨v, rfl, hr⟩; obtain ⟨rfl, hb1⟩ := hr; replace H := H.grow hb1; clear hb1) | (with_reducible refine wpl rfl (Stp.ldor rfl agg26 size26 rfl H (by assumption) sZ (by assumption) ?_); simp only [pS]) | (with_reducible refine wpl rfl (Stp.ldor rfl agg74 size74 rfl H (by assumption) sZ (by assumption) ?_); simp only [pS]) | (with_reducible refine wpl rfl (Stp.ldor rfl agg43 size43 rfl H (by assumption) sZ (by assumption) ?_); simp only [pS]))
              go_ret
              exact ⟨_, rfl, by rw [HV.out rfl]; rfl, H.below⟩
          · go_wp2_with (first | (go_at_call 27; (with_reducible refine (rgreat_is a.x _ _ _ _ _ _ _ _ HE1.out (HWA.out.vx.grow H.below)).mono ?_); rintro e w1 ⟨v, rfl, hr⟩; obtain ⟨rfl, hb1⟩ := hr; replace H := H.grow hb1; clear hb1) | (go_at_call 35; (with_reducible refine (rmgreat_is a.kd a.m1 a.m2 a.m3 a.m5 a.m6 a.ms a.mb a.ma a.mh a.mc a.me a.mv a.mx a.my a.m7 a.mz _ _ HE2.out (HWA.out.m.x.grow H.below) (HWA.out.m.y.grow H.below)).mono ?_); rintro e w1 ⟨v, rfl, hr⟩; obtain ⟨rfl, hb1⟩ := hr; replace H := H.grow hb1; clear hb1) | (with_reducible refine wpl rfl (Stp.ldor rfl agg26 size26 rfl H (by assumption) sZ (by assumption) ?_); simp only [pS]) | (with_reducible refine wpl rfl (Stp.ldor rfl agg74 size74 rfl H (by assumption) sZ (by assumption) ?_); simp only [pS]))
            go_ret
            exact ⟨_, rfl, by rw [HV.out rfl]; rfl, H.below⟩
        · go_wp2_with (first | (go_at_call 27; (with_reducible refine (rgreat_is a.x _ _ _ _ _ _ _ _ HE1.out (HWA.out.vx.grow H.below)).mono ?_); rintro e w1 ⟨v, rfl, hr⟩; obtain ⟨rfl, hb1⟩ := hr; replace H := H.grow hb1; clear hb1) | (with_reducible refine wpl rfl (Stp.ldor rfl agg26 size26 rfl H (by assumption) sZ (by assumption) ?_); simp only [pS]))
          go_ret
          exact ⟨_, rfl, by rw [HV.out rfl]; rfl, H.below⟩
      · obtain rfl : k = 60 := by omega
        have k60i : ¬ ((60 : Nat) : Int) < 60 := by omega
        go_wp2_with fail
        go_ret
        exact ⟨_, rfl, by rw [HT.out]; rfl, H.below⟩
    · obtain rfl : k = n := by omega
      have HV : Hid ((l.take 60).any (fun a => gA a) = false) := Lib.hid (by
        have := HT.out
        rw [List.take_of_length_le (by rw [HN.out]; omega)] at this ⊢
        exact this)
      go_wp2_with fail
      go_ret
      exact ⟨_, rfl, by rw [HV.out]; rfl, H.below⟩
end Go.Proofs.Ytjghcmejmdllbaa
namespace Go.Proofs.Ytjghcmejmdllbaa
set_option linter.unusedVariables false
set_option linter.unusedSimpArgs false
def fv {α : Type} (f : α → Array Value) (l : List α) : List Value := l.flatMap fun a => (f a).toList
section
variable {α : Type} {f : α → Array Value} {s : Nat}
theorem fv_cons (a : α) (l : List α) : fv f (a :: l) = (f a).toList ++ fv f l := by simp [fv]
theorem fv_app (l m : List α) : fv f (l ++ m) = fv f l ++ fv f m := by unfold fv; rw [List.flatMap_append]
theorem fv_one (a : α) : fv f [a] = (f a).toList := by simp [fv]
theorem fv_get (hs : ∀ a, (f a).size = s) (l : List α) : ∀ (k : Nat) (a : α), l[k]? = some a → ∀ j, j < s → (fv f l)[k * s + j]? = (f a)[j]? := by
  induction l with
  | nil => intro k a h; cases h
  | cons b l ih =>
    intro k a h j hj
    rw [fv_cons]
    cases k with
    | zero =>
      have : b = a := by simpa using h
      subst this
      rw [Nat.zero_mul, Nat.zero_add, List.getElem?_append_left (by rw [Array.length_toList, hs]; exact hj)]
      simp
    | succ k =>
      have e : (k + 1) * s + j = s + (k * s + j) := by rw [Nat.succ_mul]; omega
      rw [List.getElem?_append_right (by rw [Array.length_toList, hs]; omega), e, Array.length_toList, hs, Nat.add_sub_cancel_left]
      exact ih k a (by simpa using h) j hj
end
end Go.Proofs.Ytjghcmejmdllbaa
