/- Layer 21's reference: Has, answer, See, Stop, Nack, Move: that they run, and how its Proposer then lies. -/
import Derived.Test.YtjghcmejmdllbaaEz17
import Derived.Test.YtjghcmejmdllbaaEz19
namespace Go.Proofs.Ytjghcmejmdllbaa
open Go.ChangeShapes Go.WideShapes Go.ChangeAt Go.RowKit Go.Maps Go.Deep
set_option linter.unusedVariables false
set_option linter.unusedSimpArgs false
set_option linter.unusedSectionVars false
set_option maxRecDepth 100000
set_option maxHeartbeats 4000000
theorem rhas3_ok (va : Value) (l : List Pr) (p : Pr) (e : Bool) (he : decide (p ∈ l) = e) (w : World) (ha : Sl w 2 l.length va (elQ l)) :
    Calls Try.prog 131 #[va, .agg #[.int .u16 (p.1 : Int), .int .u32 (p.2 : Int)]] w (Ret fun v w' => v = .bool e ∧ Below w.heap.size w w') := by
  have H := St.init w
  have ha' := ha
  obtain ⟨aa, ca, rfl, hma, _⟩ := ha'
  unfold maxLen at hma
  have HEE := Lib.hid he
  clear he
  obtain ⟨n, hn⟩ : ∃ n, l.length = n := ⟨_, rfl⟩
  have HN := Lib.hid hn
  rw [hn] at ha hma ⊢
  clear hn
  go_enter Try.func131, Try.ntmps131
  go_wp2_with (first | (with_reducible refine wpl rfl (Stp.box 3 rfl rfl rfl H ?_); clear H; intro g3 w1 H; simp only [pS]; simp only [pE, nC, pS] at H))
  go_loopw [5] (fun i wr => ∃ k : Nat, k ≤ n ∧ i = .int .i64 k ∧ Hid (p ∉ l.take k) ∧ St w.heap.size w wr [row 36 g3 #[.int .u16 (p.1 : Int), .int .u32 (p.2 : Int)]]) (fun i _ => n - (intOf i).toNat)
  case atStart => exact ⟨0, Nat.zero_le _, rfl, Lib.hid (by simp), H⟩
  case round =>
    clear H
    obtain ⟨k, hk, rfl, HT, H⟩ := hrel
    by_cases hlt : k < n
    · have hl1 : k < l.length := by rw [HN.out]; exact hlt
      obtain ⟨b1, o1, rfl, hb1⟩ := ha.addr (by omega)
      have hc1 := ha.cell hlt
      unfold elQ at hc1
      rw [getD_at hl1] at hc1
      have hs1 := List.take_succ_eq_append_getElem hl1
      have hme : l[k] ∈ l := List.getElem_mem hl1
      obtain ⟨⟨x, y⟩, hx⟩ : ∃ x, l[k] = x := ⟨_, rfl⟩
      rw [hx] at hc1 hs1 hme
      have kli : (k : Int) < (n : Int) := by omega
      by_cases he0 : (x, y) = p
      · have HV : Hid (e = true) := Lib.hid (by rw [← HEE.out, ← he0]; exact decide_eq_true hme)
        obtain ⟨z, t⟩ := p
        injection he0 with e1 e2
        subst e1 e2
        have he := eqPD_yes x y
        clear hs1 hx hme
        go_wp2_with fail
        refine rg_begin 6 rfl (S := fun W => St _ _ W _) (by kernel_rfl) H.drew ?_
        replace H := H.drew
        have HS := H
        refine rg_take (i := 0) rfl kR kR kR (Yld.move rfl rfl) HS ?_; simp only [pS, pE]
        refine rg_take (i := 1) rfl kR kR kR (Yld.move rfl rfl) HS ?_; simp only [pS, pE]
        refine rg_take (i := 2) rfl kR kR kR (Yld.o rfl) HS ?_; simp only [pS]
        first | (refine rg_take (i := 3) rfl kR kR kR (Yld.ldr rfl rfl agg36 size36 rfl mR sZ) HS ?_; simp only [pS]) | (refine rg_take (i := 3) rfl kR kR kR (Yld.ldl rfl rfl agg36 size36 rfl mR (by simp)) HS ?_; simp only [pS]; simp only [List.drop_succ_cons, List.drop_zero, List.take_succ_cons, List.take_zero]) | (refine rg_take (i := 3) rfl kR kR kR (Yld.ldor rfl rfl agg36 size36 rfl (by assumption) sZ (by assumption)) HS ?_; simp only [pS])
        first | (refine rg_take (i := 4) rfl kR kR kR (Yld.ldr rfl rfl agg36 size36 rfl mR sZ) HS ?_; simp only [pS]) | (refine rg_take (i := 4) rfl kR kR kR (Yld.ldl rfl rfl agg36 size36 rfl mR (by simp)) HS ?_; simp only [pS]; simp only [List.drop_succ_cons, List.drop_zero, List.take_succ_cons, List.take_zero]) | (refine rg_take (i := 4) rfl kR kR kR (Yld.ldor rfl rfl agg36 size36 rfl (by assumption) sZ (by assumption)) HS ?_; simp only [pS])
        refine rg_take (i := 5) rfl kR kR kR (Yld.o rfl) HS ?_; simp only [pS]
        refine rg_done (by kernel_rfl) ?_
        go_wp2_with fail
        go_ret
        exact ⟨_, rfl, by rw [HV.out]; rfl, H.below⟩
      · have HRK : Hid (p ∉ l.take (k + 1)) := Lib.hid (by rw [hs1]; simp only [List.mem_append, List.mem_singleton, not_or]; exact ⟨HT.out, fun g => he0 g.symm⟩)
        obtain ⟨z, t⟩ := p
        have he := eqPD_no x y z t he0
        clear hs1 hx hme he0
        go_wp2_with fail
        refine rg_begin 6 rfl (S := fun W => St _ _ W _) (by kernel_rfl) H.drew ?_
        replace H := H.drew
        have HS := H
        refine rg_take (i := 0) rfl kR kR kR (Yld.move rfl rfl) HS ?_; simp only [pS, pE]
        refine rg_take (i := 1) rfl kR kR kR (Yld.move rfl rfl) HS ?_; simp only [pS, pE]
        refine rg_take (i := 2) rfl kR kR kR (Yld.o rfl) HS ?_; simp only [pS]
        first | (refine rg_take (i := 3) rfl kR kR kR (Yld.ldr rfl rfl agg36 size36 rfl mR sZ) HS ?_; simp only [pS]) | (refine rg_take (i := 3) rfl kR kR kR (Yld.ldl rfl rfl agg36 size36 rfl mR (by simp)) HS ?_; simp only [pS]; simp only [List.drop_succ_cons, List.drop_zero, List.take_succ_cons, List.take_zero]) | (refine rg_take (i := 3) rfl kR kR kR (Yld.ldor rfl rfl agg36 size36 rfl (by assumption) sZ (by assumption)) HS ?_; simp only [pS])
        first | (refine rg_take (i := 4) rfl kR kR kR (Yld.ldr rfl rfl agg36 size36 rfl mR sZ) HS ?_; simp only [pS]) | (refine rg_take (i := 4) rfl kR kR kR (Yld.ldl rfl rfl agg36 size36 rfl mR (by simp)) HS ?_; simp only [pS]; simp only [List.drop_succ_cons, List.drop_zero, List.take_succ_cons, List.take_zero]) | (refine rg_take (i := 4) rfl kR kR kR (Yld.ldor rfl rfl agg36 size36 rfl (by assumption) sZ (by assumption)) HS ?_; simp only [pS])
        refine rg_take (i := 5) rfl kR kR kR (Yld.o rfl) HS ?_; simp only [pS]
        refine rg_done (by kernel_rfl) ?_
        go_wp2_with fail
        go_roundw
        case rel => exact ⟨k + 1, by omega, by go_num, HRK, H⟩
        case measure => simp [intOf]; omega
    · obtain rfl : k = n := by omega
      have HV : Hid (e = false) := Lib.hid (by
        have := HT.out
        rw [List.take_of_length_le (by rw [HN.out]; omega)] at this
        rw [← HEE.out]; exact decide_eq_false this)
      go_wp2_with fail
      go_ret
      exact ⟨_, rfl, by rw [HV.out]; rfl, H.below⟩
theorem pvs (l : List Pr) (p : Pr) : pv (l ++ [p]) = pv l ++ [.int .u16 (p.1 : Int), .int .u32 (p.2 : Int)] := by simp [pv]
/-- Who has answered now. -/
def ansL (r : Bool) (q : Pr) (an : List Pr) : List Pr := if r = true then an ++ [q] else an
/-- What an answer leaves: who has answered now. -/
def AnsP (B : Nat) (w0 w : World) (gx : Nat) (se : Pr) (sn bl : Bl) (ph : Int) (la : Option Addr) (lc : Nat) (ld : List Pr) (sl : Nat) (hs : Bool) (un : Bl) (c : Cm) (hd : Hd) (an : List Pr) (L : List Res) : Prop :=
  ∃ (aa : Option Addr) (ac : Nat), St B w0 w (row 69 gx #[.int .u16 (se.1 : Int), .int .u32 (se.2 : Int), .int .u32 (sn.r : Int), .int .u16 (sn.w.1 : Int), .int .u32 (sn.w.2 : Int), .int .u32 (bl.r : Int), .int .u16 (bl.w.1 : Int), .int .u32 (bl.w.2 : Int), .int .i64 ph, .slice la ld.length lc, .int .u64 (sl : Int), .bool hs, .int .u32 (un.r : Int), .int .u16 (un.w.1 : Int), .int .u32 (un.w.2 : Int), .int .i64 c.kind, .int .u16 (c.fr.1 : Int), .int .u32 (c.fr.2 : Int), .int .u64 (c.num : Int), .int .u64 (c.vw : Int), .slice hd.ba c.data.length hd.bc, .int .u64 (c.v.id : Int), .slice hd.ma c.v.mem.length hd.mc, .slice hd.la c.v.lvs.length hd.lc, .slice hd.da c.v.ldr.length hd.dc, .slice aa an.length ac] :: slc 36 2 (.slice aa an.length ac) an.length (pv an) :: L)
theorem AnsP.no {B : Nat} {w0 : World} {L : List Res} {w : World} {gx : Nat} {se : Pr} {sn bl : Bl} {ph : Int} {la : Option Addr} {lc : Nat} {ld : List Pr} {sl : Nat} {hs : Bool} {un : Bl} {c : Cm} {hd : Hd} {aa : Option Addr} {ac : Nat} {an : List Pr} {q : Pr} {r : Bool} (hr : r = false) (H : St B w0 w (row 69 gx #[.int .u16 (se.1 : Int), .int .u32 (se.2 : Int), .int .u32 (sn.r : Int), .int .u16 (sn.w.1 : Int), .int .u32 (sn.w.2 : Int), .int .u32 (bl.r : Int), .int .u16 (bl.w.1 : Int), .int .u32 (bl.w.2 : Int), .int .i64 ph, .slice la ld.length lc, .int .u64 (sl : Int), .bool hs, .int .u32 (un.r : Int), .int .u16 (un.w.1 : Int), .int .u32 (un.w.2 : Int), .int .i64 c.kind, .int .u16 (c.fr.1 : Int), .int .u32 (c.fr.2 : Int), .int .u64 (c.num : Int), .int .u64 (c.vw : Int), .slice hd.ba c.data.length hd.bc, .int .u64 (c.v.id : Int), .slice hd.ma c.v.mem.length hd.mc, .slice hd.la c.v.lvs.length hd.lc, .slice hd.da c.v.ldr.length hd.dc, .slice aa an.length ac] :: slc 36 2 (.slice aa an.length ac) an.length (pv an) :: L)) : AnsP B w0 w gx se sn bl ph la lc ld sl hs un c hd (ansL r q an) L := by
  subst hr; exact ⟨aa, ac, H⟩
theorem AnsP.yes {B : Nat} {w0 : World} {L : List Res} {w : World} {gx : Nat} {se : Pr} {sn bl : Bl} {ph : Int} {la : Option Addr} {lc : Nat} {ld : List Pr} {sl : Nat} {hs : Bool} {un : Bl} {c : Cm} {hd : Hd} {aa : Option Addr} {ac : Nat} {an : List Pr} {q : Pr} {r : Bool} (hr : r = true) (H : St B w0 w (row 69 gx #[.int .u16 (se.1 : Int), .int .u32 (se.2 : Int), .int .u32 (sn.r : Int), .int .u16 (sn.w.1 : Int), .int .u32 (sn.w.2 : Int), .int .u32 (bl.r : Int), .int .u16 (bl.w.1 : Int), .int .u32 (bl.w.2 : Int), .int .i64 ph, .slice la ld.length lc, .int .u64 (sl : Int), .bool hs, .int .u32 (un.r : Int), .int .u16 (un.w.1 : Int), .int .u32 (un.w.2 : Int), .int .i64 c.kind, .int .u16 (c.fr.1 : Int), .int .u32 (c.fr.2 : Int), .int .u64 (c.num : Int), .int .u64 (c.vw : Int), .slice hd.ba c.data.length hd.bc, .int .u64 (c.v.id : Int), .slice hd.ma c.v.mem.length hd.mc, .slice hd.la c.v.lvs.length hd.lc, .slice hd.da c.v.ldr.length hd.dc, .slice aa (an.length + 1) ac] :: slc 36 2 (.slice aa (an.length + 1) ac) (an.length + 1) (pv an ++ [.int .u16 (q.1 : Int), .int .u32 (q.2 : Int)]) :: L)) : AnsP B w0 w gx se sn bl ph la lc ld sl hs un c hd (ansL r q an) L := by
  subst hr
  refine ⟨aa, ac, ?_⟩
  unfold ansL
  rw [if_pos rfl, show (an ++ [q]).length = an.length + 1 from by simp, pvs]
  exact H
attribute [local irreducible] blt
theorem ransw_ok {B : Nat} {w0 : World} {L : List Res} (gx : Nat) (se : Pr) (sn bl : Bl) (ph : Int) (la : Option Addr) (lc : Nat) (ld : List Pr) (sl : Nat) (hs : Bool) (un : Bl) (c : Cm) (hd : Hd) (aa : Option Addr) (ac : Nat) (an : List Pr) (p0 k0 : Int) (q : Pr) (kd m1 m2 m3 m5 m6 : Int) (ms : Nat) (mb ma : Bl) (mh : Bool) (mc : Cm) (me : Hd) (mv : Vw) (mx : Hd) (my : Option Addr) (m7 mz : Nat) (hn : an.length ≤ 1000) (hl : Rd B w0 L fun W => Sl W 2 ld.length (.slice la ld.length lc) (elQ ld)) (r : Bool) (hr : decide (ph = p0 ∧ kd = k0 ∧ ms = sl ∧ mb = bl ∧ q ∈ ld ∧ q ∉ an) = r) (w : World) (H : St B w0 w (row 69 gx #[.int .u16 (se.1 : Int), .int .u32 (se.2 : Int), .int .u32 (sn.r : Int), .int .u16 (sn.w.1 : Int), .int .u32 (sn.w.2 : Int), .int .u32 (bl.r : Int), .int .u16 (bl.w.1 : Int), .int .u32 (bl.w.2 : Int), .int .i64 ph, .slice la ld.length lc, .int .u64 (sl : Int), .bool hs, .int .u32 (un.r : Int), .int .u16 (un.w.1 : Int), .int .u32 (un.w.2 : Int), .int .i64 c.kind, .int .u16 (c.fr.1 : Int), .int .u32 (c.fr.2 : Int), .int .u64 (c.num : Int), .int .u64 (c.vw : Int), .slice hd.ba c.data.length hd.bc, .int .u64 (c.v.id : Int), .slice hd.ma c.v.mem.length hd.mc, .slice hd.la c.v.lvs.length hd.lc, .slice hd.da c.v.ldr.length hd.dc, .slice aa an.length ac] :: slc 36 2 (.slice aa an.length ac) an.length (pv an) :: L)) :
    Calls Try.prog 109 #[.pointer (some ⟨gx, 0, none⟩), .int .i64 p0, .int .i64 k0, .agg #[.int .u16 (q.1 : Int), .int .u32 (q.2 : Int)], .agg #[.int .i64 kd, .int .u16 m1, .int .u32 m2, .int .u64 m3, .int .u64 (ms : Int), .int .u64 m5, .int .i64 m6, .int .u32 (mb.r : Int), .int .u16 (mb.w.1 : Int), .int .u32 (mb.w.2 : Int), .int .u32 (ma.r : Int), .int .u16 (ma.w.1 : Int), .int .u32 (ma.w.2 : Int), .bool mh, .int .i64 mc.kind, .int .u16 (mc.fr.1 : Int), .int .u32 (mc.fr.2 : Int), .int .u64 (mc.num : Int), .int .u64 (mc.vw : Int), .slice me.ba mc.data.length me.bc, .int .u64 (mc.v.id : Int), .slice me.ma mc.v.mem.length me.mc, .slice me.la mc.v.lvs.length me.lc, .slice me.da mc.v.ldr.length me.dc, .int .u64 (mv.id : Int), .slice mx.ma mv.mem.length mx.mc, .slice mx.la mv.lvs.length mx.lc, .slice mx.da mv.ldr.length mx.dc, .slice my m7 mz]] w (Ret fun v w' => v = .bool r ∧ AnsP B w0 w' gx se sn bl ph la lc ld sl hs un c hd (ansL r q an) L) := by
  by_cases h1 : ph = p0
  · have HP : Hid ((ph != p0) = false) := Lib.hid (by simp [h1])
    by_cases h2 : kd = k0
    · have HK : Hid ((kd != k0) = false) := Lib.hid (by simp [h2])
      by_cases h3 : ms = sl
      · have HSL : Hid (((ms : Int) != (sl : Int)) = false) := Lib.hid (by simp [h3])
        by_cases h4 : mb = bl
        · have HB : Hid ((!(decide (mb = bl))) = false) := Lib.hid (by simp [h4])
          by_cases h5 : q ∈ ld
          · have HE1 := Lib.hid (decide_eq_true h5)
            by_cases h6 : q ∈ an
            · have HE2 := Lib.hid (decide_eq_true h6)
              have HR0 : Hid (r = false) := Lib.hid (by rw [← hr]; exact decide_eq_false (fun g => g.2.2.2.2.2 h6))
              clear h1 h2 h3 h4 h5 h6 hr
              go_enter Try.func109, Try.ntmps109
              go_wp2_with (first | (with_reducible refine wpl rfl (Stp.box 8 rfl rfl rfl H ?_); clear H; intro g8 w1 H; simp only [pS]; simp only [pE, nC, pS] at H) | (with_reducible refine wpl rfl (Stp.box 9 rfl rfl rfl H ?_); clear H; intro g9 w1 H; simp only [pS]; simp only [pE, nC, pS] at H))
              refine rg_begin 47 rfl (S := fun W => St _ _ W (row 74 g9 #[.int .i64 kd, .int .u16 m1, .int .u32 m2, .int .u64 m3, .int .u64 (ms : Int), .int .u64 m5, .int .i64 m6, .int .u32 (mb.r : Int), .int .u16 (mb.w.1 : Int), .int .u32 (mb.w.2 : Int), .int .u32 (ma.r : Int), .int .u16 (ma.w.1 : Int), .int .u32 (ma.w.2 : Int), .bool mh, .int .i64 mc.kind, .int .u16 (mc.fr.1 : Int), .int .u32 (mc.fr.2 : Int), .int .u64 (mc.num : Int), .int .u64 (mc.vw : Int), .slice me.ba mc.data.length me.bc, .int .u64 (mc.v.id : Int), .slice me.ma mc.v.mem.length me.mc, .slice me.la mc.v.lvs.length me.lc, .slice me.da mc.v.ldr.length me.dc, .int .u64 (mv.id : Int), .slice mx.ma mv.mem.length mx.mc, .slice mx.la mv.lvs.length mx.lc, .slice mx.da mv.ldr.length mx.dc, .slice my m7 mz] :: row 36 g8 #[.int .u16 (q.1 : Int), .int .u32 (q.2 : Int)] :: row 69 gx #[.int .u16 (se.1 : Int), .int .u32 (se.2 : Int), .int .u32 (sn.r : Int), .int .u16 (sn.w.1 : Int), .int .u32 (sn.w.2 : Int), .int .u32 (bl.r : Int), .int .u16 (bl.w.1 : Int), .int .u32 (bl.w.2 : Int), .int .i64 ph, .slice la ld.length lc, .int .u64 (sl : Int), .bool hs, .int .u32 (un.r : Int), .int .u16 (un.w.1 : Int), .int .u32 (un.w.2 : Int), .int .i64 c.kind, .int .u16 (c.fr.1 : Int), .int .u32 (c.fr.2 : Int), .int .u64 (c.num : Int), .int .u64 (c.vw : Int), .slice hd.ba c.data.length hd.bc, .int .u64 (c.v.id : Int), .slice hd.ma c.v.mem.length hd.mc, .slice hd.la c.v.lvs.length hd.lc, .slice hd.da c.v.ldr.length hd.dc, .slice aa an.length ac] :: slc 36 2 (.slice aa an.length ac) an.length (pv an) :: L)) (by kernel_rfl) (H.drew.sub sU) ?_
              replace H := H.drew
              have HS := H
              refine rg_take (i := 0) rfl kR kR kR (Yld.move rfl rfl) (H.sub sU) ?_; simp only [pS, pE]
              refine rg_take (i := 1) rfl kR kR kR (Yld.o rfl) (H.sub sU) ?_; simp only [pS]
              refine rg_take (i := 2) rfl kR kR kR (Yld.o rfl) (H.sub sU) ?_; simp only [pS]
              first | (refine rg_take (i := 3) rfl kR kR kR (Yld.ldc rfl rfl agg3 rfl mR cE) (H.sub sU) ?_; simp only [pS]) | (refine rg_take (i := 3) rfl kR kR kR (Yld.ldo rfl rfl agg3 rfl (by assumption) (by assumption)) (H.sub sU) ?_; simp only [pS])
              refine rg_take (i := 4) rfl kR kR kR (Yld.move rfl rfl) (H.sub sU) ?_; simp only [pS, pE]
              refine rg_take (i := 5) rfl kR kR kR (Yld.of (v := .bool false) rfl (fun W _ => by go_simp; first | done | exact HP.out | (rw [HP.out]) | (simpa using HP.out))) (H.sub sU) ?_; simp only [pS, pE]
              refine rg_take (i := 6) rfl kR kR kR (Yld.move rfl rfl) (H.sub sU) ?_; simp only [pS, pE]
              refine rg_take (i := 7) rfl kR kR kR (Yld.o rfl) (H.sub sU) ?_; simp only [pS]
              first | (refine rg_take (i := 8) rfl kR kR kR (Yld.ldc rfl rfl agg3 rfl mR cE) (H.sub sU) ?_; simp only [pS]) | (refine rg_take (i := 8) rfl kR kR kR (Yld.ldo rfl rfl agg3 rfl (by assumption) (by assumption)) (H.sub sU) ?_; simp only [pS])
              refine rg_take (i := 9) rfl kR kR kR (Yld.move rfl rfl) (H.sub sU) ?_; simp only [pS, pE]
              refine rg_take (i := 10) rfl kR kR kR (Yld.of (v := .bool false) rfl (fun W _ => by go_simp; first | done | exact HK.out | (rw [HK.out]) | (simpa using HK.out))) (H.sub sU) ?_; simp only [pS, pE]
              refine rg_take (i := 11) rfl kR kR kR (Yld.pick rfl rfl rfl) (H.sub sU) ?_; simp only [pS, pE]
              refine rg_take (i := 12) rfl kR kR kR (Yld.move rfl rfl) (H.sub sU) ?_; simp only [pS, pE]
              refine rg_take (i := 13) rfl kR kR kR (Yld.o rfl) (H.sub sU) ?_; simp only [pS]
              first | (refine rg_take (i := 14) rfl kR kR kR (Yld.ldc rfl rfl agg22 rfl mR cE) (H.sub sU) ?_; simp only [pS]) | (refine rg_take (i := 14) rfl kR kR kR (Yld.ldo rfl rfl agg22 rfl (by assumption) (by assumption)) (H.sub sU) ?_; simp only [pS])
              refine rg_take (i := 15) rfl kR kR kR (Yld.move rfl rfl) (H.sub sU) ?_; simp only [pS, pE]
              refine rg_take (i := 16) rfl kR kR kR (Yld.o rfl) (H.sub sU) ?_; simp only [pS]
              refine rg_take (i := 17) rfl kR kR kR (Yld.o rfl) (H.sub sU) ?_; simp only [pS]
              first | (refine rg_take (i := 18) rfl kR kR kR (Yld.ldc rfl rfl agg22 rfl mR cE) (H.sub sU) ?_; simp only [pS]) | (refine rg_take (i := 18) rfl kR kR kR (Yld.ldo rfl rfl agg22 rfl (by assumption) (by assumption)) (H.sub sU) ?_; simp only [pS])
              refine rg_take (i := 19) rfl kR kR kR (Yld.of (v := .bool false) rfl (fun W _ => by go_simp; first | done | exact HSL.out | (rw [HSL.out]) | (simpa using HSL.out))) (H.sub sU) ?_; simp only [pS, pE]
              refine rg_take (i := 20) rfl kR kR kR (Yld.pick rfl rfl rfl) (H.sub sU) ?_; simp only [pS, pE]
              refine rg_take (i := 21) rfl kR kR kR (Yld.move rfl rfl) (H.sub sU) ?_; simp only [pS, pE]
              refine rg_take (i := 22) rfl kR kR kR (Yld.o rfl) (H.sub sU) ?_; simp only [pS]
              first | (refine rg_take (i := 23) rfl kR kR kR (Yld.ldr rfl rfl agg67 size67 rfl mR sZ) (H.sub sU) ?_; simp only [pS]) | (refine rg_take (i := 23) rfl kR kR kR (Yld.ldl rfl rfl agg67 size67 rfl mR (by simp)) (H.sub sU) ?_; simp only [pS]; simp only [List.drop_succ_cons, List.drop_zero, List.take_succ_cons, List.take_zero]) | (refine rg_take (i := 23) rfl kR kR kR (Yld.ldor rfl rfl agg67 size67 rfl (by assumption) sZ (by assumption)) (H.sub sU) ?_; simp only [pS])
              refine rg_take (i := 24) rfl kR kR kR (Yld.move rfl rfl) (H.sub sU) ?_; simp only [pS, pE]
              refine rg_take (i := 25) rfl kR kR kR (Yld.o rfl) (H.sub sU) ?_; simp only [pS]
              refine rg_take (i := 26) rfl kR kR kR (Yld.o rfl) (H.sub sU) ?_; simp only [pS]
              first | (refine rg_take (i := 27) rfl kR kR kR (Yld.ldr rfl rfl agg67 size67 rfl mR sZ) (H.sub sU) ?_; simp only [pS]) | (refine rg_take (i := 27) rfl kR kR kR (Yld.ldl rfl rfl agg67 size67 rfl mR (by simp)) (H.sub sU) ?_; simp only [pS]; simp only [List.drop_succ_cons, List.drop_zero, List.take_succ_cons, List.take_zero]) | (refine rg_take (i := 27) rfl kR kR kR (Yld.ldor rfl rfl agg67 size67 rfl (by assumption) sZ (by assumption)) (H.sub sU) ?_; simp only [pS])
              refine rg_take (i := 28) rfl kR kR kR (Yld.neqBl rfl rfl rfl rfl HB.out) (H.sub sU) ?_; simp only [pS, pE]
              refine rg_take (i := 29) rfl kR kR kR (Yld.pick rfl rfl rfl) (H.sub sU) ?_; simp only [pS, pE]
              refine rg_take (i := 30) rfl kR kR kR (Yld.move rfl rfl) (H.sub sU) ?_; simp only [pS, pE]
              refine rg_take (i := 31) rfl kR kR kR (Yld.move rfl rfl) (H.sub sU) ?_; simp only [pS, pE]
              refine rg_take (i := 32) rfl kR kR kR (Yld.o rfl) (H.sub sU) ?_; simp only [pS]
              refine rg_take (i := 33) rfl kR kR kR (Yld.o rfl) (H.sub sU) ?_; simp only [pS]
              first | (refine rg_take (i := 34) rfl kR kR kR (Yld.ldc rfl rfl agg23 rfl mR cE) (H.sub sU) ?_; simp only [pS]) | (refine rg_take (i := 34) rfl kR kR kR (Yld.ldo rfl rfl agg23 rfl (by assumption) (by assumption)) (H.sub sU) ?_; simp only [pS])
              first | (refine rg_take (i := 35) rfl kR kR kR (Yld.ldr rfl rfl agg36 size36 rfl mR sZ) (H.sub sU) ?_; simp only [pS]) | (refine rg_take (i := 35) rfl kR kR kR (Yld.ldl rfl rfl agg36 size36 rfl mR (by simp)) (H.sub sU) ?_; simp only [pS]; simp only [List.drop_succ_cons, List.drop_zero, List.take_succ_cons, List.take_zero]) | (refine rg_take (i := 35) rfl kR kR kR (Yld.ldor rfl rfl agg36 size36 rfl (by assumption) sZ (by assumption)) (H.sub sU) ?_; simp only [pS])
              refine rg_one (i := 36) (by kernel_rfl) rfl rfl (fun K hK => ?_)
              refine wp_callf rfl ent131 (rhas3_ok (.slice la ld.length lc) ld q true HE1.out _ (hl.at H (by repeat (first | exact List.Sublist.refl _ | apply List.Sublist.cons)))) rfl (fun v w1 hr => ?_)
              obtain ⟨rfl, hb1⟩ := hr
              replace H := H.grow hb1
              clear hb1
              clear HS
              have HS := H
              refine hK.out _ _ (H.sub sU) ?_
              clear hK K
              simp only [pS]
              refine rg_take (i := 37) rfl kR kR kR (Yld.o rfl) (H.sub sU) ?_; simp only [pS]
              refine rg_take (i := 38) rfl kR kR kR (Yld.pick rfl rfl rfl) (H.sub sU) ?_; simp only [pS, pE]
              refine rg_take (i := 39) rfl kR kR kR (Yld.move rfl rfl) (H.sub sU) ?_; simp only [pS, pE]
              refine rg_take (i := 40) rfl kR kR kR (Yld.move rfl rfl) (H.sub sU) ?_; simp only [pS, pE]
              refine rg_take (i := 41) rfl kR kR kR (Yld.o rfl) (H.sub sU) ?_; simp only [pS]
              refine rg_take (i := 42) rfl kR kR kR (Yld.o rfl) (H.sub sU) ?_; simp only [pS]
              first | (refine rg_take (i := 43) rfl kR kR kR (Yld.ldc rfl rfl agg23 rfl mR cE) (H.sub sU) ?_; simp only [pS]) | (refine rg_take (i := 43) rfl kR kR kR (Yld.ldo rfl rfl agg23 rfl (by assumption) (by assumption)) (H.sub sU) ?_; simp only [pS])
              first | (refine rg_take (i := 44) rfl kR kR kR (Yld.ldr rfl rfl agg36 size36 rfl mR sZ) (H.sub sU) ?_; simp only [pS]) | (refine rg_take (i := 44) rfl kR kR kR (Yld.ldl rfl rfl agg36 size36 rfl mR (by simp)) (H.sub sU) ?_; simp only [pS]; simp only [List.drop_succ_cons, List.drop_zero, List.take_succ_cons, List.take_zero]) | (refine rg_take (i := 44) rfl kR kR kR (Yld.ldor rfl rfl agg36 size36 rfl (by assumption) sZ (by assumption)) (H.sub sU) ?_; simp only [pS])
              refine rg_one (i := 45) (by kernel_rfl) rfl rfl (fun K hK => ?_)
              refine wp_callf rfl ent131 (rhas3_ok (.slice aa an.length ac) an q true HE2.out _ (own_pvk (H.getSlc mE) rfl (by omega))) rfl (fun v w1 hr => ?_)
              obtain ⟨rfl, hb1⟩ := hr
              replace H := H.grow hb1
              clear hb1
              clear HS
              have HS := H
              refine hK.out _ _ (H.sub sU) ?_
              clear hK K
              simp only [pS]
              refine rg_take (i := 46) rfl kR kR kR (Yld.pick rfl rfl rfl) (H.sub sU) ?_; simp only [pS, pE]
              refine rg_done (by kernel_rfl) ?_
              go_wp2_with fail
              go_ret
              exact ⟨_, rfl, by rw [HR0.out]; rfl, AnsP.no HR0.out (H.sub sU)⟩
            · have HE2 := Lib.hid (decide_eq_false h6)
              have HR0 : Hid (r = true) := Lib.hid (by rw [← hr]; exact decide_eq_true ⟨h1, h2, h3, h4, h5, h6⟩)
              clear h1 h2 h3 h4 h5 h6 hr
              go_enter Try.func109, Try.ntmps109
              go_wp2_with (first | (with_reducible refine wpl rfl (Stp.box 8 rfl rfl rfl H ?_); clear H; intro g8 w1 H; simp only [pS]; simp only [pE, nC, pS] at H) | (with_reducible refine wpl rfl (Stp.box 9 rfl rfl rfl H ?_); clear H; intro g9 w1 H; simp only [pS]; simp only [pE, nC, pS] at H))
              refine rg_begin 47 rfl (S := fun W => St _ _ W (row 74 g9 #[.int .i64 kd, .int .u16 m1, .int .u32 m2, .int .u64 m3, .int .u64 (ms : Int), .int .u64 m5, .int .i64 m6, .int .u32 (mb.r : Int), .int .u16 (mb.w.1 : Int), .int .u32 (mb.w.2 : Int), .int .u32 (ma.r : Int), .int .u16 (ma.w.1 : Int), .int .u32 (ma.w.2 : Int), .bool mh, .int .i64 mc.kind, .int .u16 (mc.fr.1 : Int), .int .u32 (mc.fr.2 : Int), .int .u64 (mc.num : Int), .int .u64 (mc.vw : Int), .slice me.ba mc.data.length me.bc, .int .u64 (mc.v.id : Int), .slice me.ma mc.v.mem.length me.mc, .slice me.la mc.v.lvs.length me.lc, .slice me.da mc.v.ldr.length me.dc, .int .u64 (mv.id : Int), .slice mx.ma mv.mem.length mx.mc, .slice mx.la mv.lvs.length mx.lc, .slice mx.da mv.ldr.length mx.dc, .slice my m7 mz] :: row 36 g8 #[.int .u16 (q.1 : Int), .int .u32 (q.2 : Int)] :: row 69 gx #[.int .u16 (se.1 : Int), .int .u32 (se.2 : Int), .int .u32 (sn.r : Int), .int .u16 (sn.w.1 : Int), .int .u32 (sn.w.2 : Int), .int .u32 (bl.r : Int), .int .u16 (bl.w.1 : Int), .int .u32 (bl.w.2 : Int), .int .i64 ph, .slice la ld.length lc, .int .u64 (sl : Int), .bool hs, .int .u32 (un.r : Int), .int .u16 (un.w.1 : Int), .int .u32 (un.w.2 : Int), .int .i64 c.kind, .int .u16 (c.fr.1 : Int), .int .u32 (c.fr.2 : Int), .int .u64 (c.num : Int), .int .u64 (c.vw : Int), .slice hd.ba c.data.length hd.bc, .int .u64 (c.v.id : Int), .slice hd.ma c.v.mem.length hd.mc, .slice hd.la c.v.lvs.length hd.lc, .slice hd.da c.v.ldr.length hd.dc, .slice aa an.length ac] :: slc 36 2 (.slice aa an.length ac) an.length (pv an) :: L)) (by kernel_rfl) (H.drew.sub sU) ?_
              replace H := H.drew
              have HS := H
              refine rg_take (i := 0) rfl kR kR kR (Yld.move rfl rfl) (H.sub sU) ?_; simp only [pS, pE]
              refine rg_take (i := 1) rfl kR kR kR (Yld.o rfl) (H.sub sU) ?_; simp only [pS]
              refine rg_take (i := 2) rfl kR kR kR (Yld.o rfl) (H.sub sU) ?_; simp only [pS]
              first | (refine rg_take (i := 3) rfl kR kR kR (Yld.ldc rfl rfl agg3 rfl mR cE) (H.sub sU) ?_; simp only [pS]) | (refine rg_take (i := 3) rfl kR kR kR (Yld.ldo rfl rfl agg3 rfl (by assumption) (by assumption)) (H.sub sU) ?_; simp only [pS])
              refine rg_take (i := 4) rfl kR kR kR (Yld.move rfl rfl) (H.sub sU) ?_; simp only [pS, pE]
              refine rg_take (i := 5) rfl kR kR kR (Yld.of (v := .bool false) rfl (fun W _ => by go_simp; first | done | exact HP.out | (rw [HP.out]) | (simpa using HP.out))) (H.sub sU) ?_; simp only [pS, pE]
              refine rg_take (i := 6) rfl kR kR kR (Yld.move rfl rfl) (H.sub sU) ?_; simp only [pS, pE]
              refine rg_take (i := 7) rfl kR kR kR (Yld.o rfl) (H.sub sU) ?_; simp only [pS]
              first | (refine rg_take (i := 8) rfl kR kR kR (Yld.ldc rfl rfl agg3 rfl mR cE) (H.sub sU) ?_; simp only [pS]) | (refine rg_take (i := 8) rfl kR kR kR (Yld.ldo rfl rfl agg3 rfl (by assumption) (by assumption)) (H.sub sU) ?_; simp only [pS])
              refine rg_take (i := 9) rfl kR kR kR (Yld.move rfl rfl) (H.sub sU) ?_; simp only [pS, pE]
              refine rg_take (i := 10) rfl kR kR kR (Yld.of (v := .bool false) rfl (fun W _ => by go_simp; first | done | exact HK.out | (rw [HK.out]) | (simpa using HK.out))) (H.sub sU) ?_; simp only [pS, pE]
              refine rg_take (i := 11) rfl kR kR kR (Yld.pick rfl rfl rfl) (H.sub sU) ?_; simp only [pS, pE]
              refine rg_take (i := 12) rfl kR kR kR (Yld.move rfl rfl) (H.sub sU) ?_; simp only [pS, pE]
              refine rg_take (i := 13) rfl kR kR kR (Yld.o rfl) (H.sub sU) ?_; simp only [pS]
              first | (refine rg_take (i := 14) rfl kR kR kR (Yld.ldc rfl rfl agg22 rfl mR cE) (H.sub sU) ?_; simp only [pS]) | (refine rg_take (i := 14) rfl kR kR kR (Yld.ldo rfl rfl agg22 rfl (by assumption) (by assumption)) (H.sub sU) ?_; simp only [pS])
              refine rg_take (i := 15) rfl kR kR kR (Yld.move rfl rfl) (H.sub sU) ?_; simp only [pS, pE]
              refine rg_take (i := 16) rfl kR kR kR (Yld.o rfl) (H.sub sU) ?_; simp only [pS]
              refine rg_take (i := 17) rfl kR kR kR (Yld.o rfl) (H.sub sU) ?_; simp only [pS]
              first | (refine rg_take (i := 18) rfl kR kR kR (Yld.ldc rfl rfl agg22 rfl mR cE) (H.sub sU) ?_; simp only [pS]) | (refine rg_take (i := 18) rfl kR kR kR (Yld.ldo rfl rfl agg22 rfl (by assumption) (by assumption)) (H.sub sU) ?_; simp only [pS])
              refine rg_take (i := 19) rfl kR kR kR (Yld.of (v := .bool false) rfl (fun W _ => by go_simp; first | done | exact HSL.out | (rw [HSL.out]) | (simpa using HSL.out))) (H.sub sU) ?_; simp only [pS, pE]
              refine rg_take (i := 20) rfl kR kR kR (Yld.pick rfl rfl rfl) (H.sub sU) ?_; simp only [pS, pE]
              refine rg_take (i := 21) rfl kR kR kR (Yld.move rfl rfl) (H.sub sU) ?_; simp only [pS, pE]
              refine rg_take (i := 22) rfl kR kR kR (Yld.o rfl) (H.sub sU) ?_; simp only [pS]
              first | (refine rg_take (i := 23) rfl kR kR kR (Yld.ldr rfl rfl agg67 size67 rfl mR sZ) (H.sub sU) ?_; simp only [pS]) | (refine rg_take (i := 23) rfl kR kR kR (Yld.ldl rfl rfl agg67 size67 rfl mR (by simp)) (H.sub sU) ?_; simp only [pS]; simp only [List.drop_succ_cons, List.drop_zero, List.take_succ_cons, List.take_zero]) | (refine rg_take (i := 23) rfl kR kR kR (Yld.ldor rfl rfl agg67 size67 rfl (by assumption) sZ (by assumption)) (H.sub sU) ?_; simp only [pS])
              refine rg_take (i := 24) rfl kR kR kR (Yld.move rfl rfl) (H.sub sU) ?_; simp only [pS, pE]
              refine rg_take (i := 25) rfl kR kR kR (Yld.o rfl) (H.sub sU) ?_; simp only [pS]
              refine rg_take (i := 26) rfl kR kR kR (Yld.o rfl) (H.sub sU) ?_; simp only [pS]
              first | (refine rg_take (i := 27) rfl kR kR kR (Yld.ldr rfl rfl agg67 size67 rfl mR sZ) (H.sub sU) ?_; simp only [pS]) | (refine rg_take (i := 27) rfl kR kR kR (Yld.ldl rfl rfl agg67 size67 rfl mR (by simp)) (H.sub sU) ?_; simp only [pS]; simp only [List.drop_succ_cons, List.drop_zero, List.take_succ_cons, List.take_zero]) | (refine rg_take (i := 27) rfl kR kR kR (Yld.ldor rfl rfl agg67 size67 rfl (by assumption) sZ (by assumption)) (H.sub sU) ?_; simp only [pS])
              refine rg_take (i := 28) rfl kR kR kR (Yld.neqBl rfl rfl rfl rfl HB.out) (H.sub sU) ?_; simp only [pS, pE]
              refine rg_take (i := 29) rfl kR kR kR (Yld.pick rfl rfl rfl) (H.sub sU) ?_; simp only [pS, pE]
              refine rg_take (i := 30) rfl kR kR kR (Yld.move rfl rfl) (H.sub sU) ?_; simp only [pS, pE]
              refine rg_take (i := 31) rfl kR kR kR (Yld.move rfl rfl) (H.sub sU) ?_; simp only [pS, pE]
              refine rg_take (i := 32) rfl kR kR kR (Yld.o rfl) (H.sub sU) ?_; simp only [pS]
              refine rg_take (i := 33) rfl kR kR kR (Yld.o rfl) (H.sub sU) ?_; simp only [pS]
              first | (refine rg_take (i := 34) rfl kR kR kR (Yld.ldc rfl rfl agg23 rfl mR cE) (H.sub sU) ?_; simp only [pS]) | (refine rg_take (i := 34) rfl kR kR kR (Yld.ldo rfl rfl agg23 rfl (by assumption) (by assumption)) (H.sub sU) ?_; simp only [pS])
              first | (refine rg_take (i := 35) rfl kR kR kR (Yld.ldr rfl rfl agg36 size36 rfl mR sZ) (H.sub sU) ?_; simp only [pS]) | (refine rg_take (i := 35) rfl kR kR kR (Yld.ldl rfl rfl agg36 size36 rfl mR (by simp)) (H.sub sU) ?_; simp only [pS]; simp only [List.drop_succ_cons, List.drop_zero, List.take_succ_cons, List.take_zero]) | (refine rg_take (i := 35) rfl kR kR kR (Yld.ldor rfl rfl agg36 size36 rfl (by assumption) sZ (by assumption)) (H.sub sU) ?_; simp only [pS])
              refine rg_one (i := 36) (by kernel_rfl) rfl rfl (fun K hK => ?_)
              refine wp_callf rfl ent131 (rhas3_ok (.slice la ld.length lc) ld q true HE1.out _ (hl.at H (by repeat (first | exact List.Sublist.refl _ | apply List.Sublist.cons)))) rfl (fun v w1 hr => ?_)
              obtain ⟨rfl, hb1⟩ := hr
              replace H := H.grow hb1
              clear hb1
              clear HS
              have HS := H
              refine hK.out _ _ (H.sub sU) ?_
              clear hK K
              simp only [pS]
              refine rg_take (i := 37) rfl kR kR kR (Yld.o rfl) (H.sub sU) ?_; simp only [pS]
              refine rg_take (i := 38) rfl kR kR kR (Yld.pick rfl rfl rfl) (H.sub sU) ?_; simp only [pS, pE]
              refine rg_take (i := 39) rfl kR kR kR (Yld.move rfl rfl) (H.sub sU) ?_; simp only [pS, pE]
              refine rg_take (i := 40) rfl kR kR kR (Yld.move rfl rfl) (H.sub sU) ?_; simp only [pS, pE]
              refine rg_take (i := 41) rfl kR kR kR (Yld.o rfl) (H.sub sU) ?_; simp only [pS]
              refine rg_take (i := 42) rfl kR kR kR (Yld.o rfl) (H.sub sU) ?_; simp only [pS]
              first | (refine rg_take (i := 43) rfl kR kR kR (Yld.ldc rfl rfl agg23 rfl mR cE) (H.sub sU) ?_; simp only [pS]) | (refine rg_take (i := 43) rfl kR kR kR (Yld.ldo rfl rfl agg23 rfl (by assumption) (by assumption)) (H.sub sU) ?_; simp only [pS])
              first | (refine rg_take (i := 44) rfl kR kR kR (Yld.ldr rfl rfl agg36 size36 rfl mR sZ) (H.sub sU) ?_; simp only [pS]) | (refine rg_take (i := 44) rfl kR kR kR (Yld.ldl rfl rfl agg36 size36 rfl mR (by simp)) (H.sub sU) ?_; simp only [pS]; simp only [List.drop_succ_cons, List.drop_zero, List.take_succ_cons, List.take_zero]) | (refine rg_take (i := 44) rfl kR kR kR (Yld.ldor rfl rfl agg36 size36 rfl (by assumption) sZ (by assumption)) (H.sub sU) ?_; simp only [pS])
              refine rg_one (i := 45) (by kernel_rfl) rfl rfl (fun K hK => ?_)
              refine wp_callf rfl ent131 (rhas3_ok (.slice aa an.length ac) an q false HE2.out _ (own_pvk (H.getSlc mE) rfl (by omega))) rfl (fun v w1 hr => ?_)
              obtain ⟨rfl, hb1⟩ := hr
              replace H := H.grow hb1
              clear hb1
              clear HS
              have HS := H
              refine hK.out _ _ (H.sub sU) ?_
              clear hK K
              simp only [pS]
              refine rg_take (i := 46) rfl kR kR kR (Yld.pick rfl rfl rfl) (H.sub sU) ?_; simp only [pS, pE]
              refine rg_done (by kernel_rfl) ?_
              go_wp2_with fail
              refine rk_begin 10 11 (fun W => St B w0 W (row 36 g8 #[.int .u16 (q.1 : Int), .int .u32 (q.2 : Int)] :: row 69 gx #[.int .u16 (se.1 : Int), .int .u32 (se.2 : Int), .int .u32 (sn.r : Int), .int .u16 (sn.w.1 : Int), .int .u32 (sn.w.2 : Int), .int .u32 (bl.r : Int), .int .u16 (bl.w.1 : Int), .int .u32 (bl.w.2 : Int), .int .i64 ph, .slice la ld.length lc, .int .u64 (sl : Int), .bool hs, .int .u32 (un.r : Int), .int .u16 (un.w.1 : Int), .int .u32 (un.w.2 : Int), .int .i64 c.kind, .int .u16 (c.fr.1 : Int), .int .u32 (c.fr.2 : Int), .int .u64 (c.num : Int), .int .u64 (c.vw : Int), .slice hd.ba c.data.length hd.bc, .int .u64 (c.v.id : Int), .slice hd.ma c.v.mem.length hd.mc, .slice hd.la c.v.lvs.length hd.lc, .slice hd.da c.v.ldr.length hd.dc, .slice aa an.length ac] :: [])) rfl (by kernel_rfl) ?_
              replace H := H.drew
              have HS := H
              refine rk_free (i := 0) rfl kR kR kR kR (Yld.move rfl rfl) (fun _ => (H.sub sU)) ?_; simp only [pS, pE]
              refine rk_free (i := 1) rfl kR kR kR kR (Yld.move rfl rfl) (fun _ => (H.sub sU)) ?_; simp only [pS, pE]
              refine rk_free (i := 2) rfl kR kR kR kR (Yld.o rfl) (fun _ => (H.sub sU)) ?_; simp only [pS]
              refine rk_free (i := 3) rfl kR kR kR kR (Yld.o rfl) (fun _ => (H.sub sU)) ?_; simp only [pS]
              first | (refine rk_take (i := 4) rfl kR kR kR kR kR kR (Yld.ldc rfl rfl agg23 rfl mR cE) (H.sub sU) ?_; simp only [pS]) | (refine rk_take (i := 4) rfl kR kR kR kR kR kR (Yld.ldo rfl rfl agg23 rfl (by assumption) (by assumption)) (H.sub sU) ?_; simp only [pS])
              first | (refine rk_take (i := 5) rfl kR kR kR kR kR kR (Yld.ldr rfl rfl agg36 size36 rfl mR sZ) (H.sub sU) ?_; simp only [pS]) | (refine rk_take (i := 5) rfl kR kR kR kR kR kR (Yld.ldl rfl rfl agg36 size36 rfl mR (by simp)) (H.sub sU) ?_; simp only [pS]; simp only [List.drop_succ_cons, List.drop_zero, List.take_succ_cons, List.take_zero]) | (refine rk_take (i := 5) rfl kR kR kR kR kR kR (Yld.ldor rfl rfl agg36 size36 rfl (by assumption) sZ (by assumption)) (H.sub sU) ?_; simp only [pS])
              refine rk_one (i := 6) (by kernel_rfl) rfl rfl (fun K hK => ?_)
              refine Stp.wp (Stp.bsl (e := 36) (cs := #[.int .u16 (q.1 : Int), .int .u32 (q.2 : Int)]) 64 rfl rfl (fun W => by kernel_rfl) H ?_)
              clear H
              intro g64 w1 H
              clear HS
              have HS := H
              refine hK.out _ _ (fun _ => (H.sub sU)) ?_
              clear hK K
              simp only [pS]
              refine rk_one (i := 7) (by kernel_rfl) rfl rfl (fun K hK => ?_)
              refine Stp.wp (Stp.app 65 rfl rfl Try.underlying23 info36 rfl (by decide) rfl rfl H (fun _ => uP) (show ((#[.int .u16 (q.1 : Int), .int .u32 (q.2 : Int)] : Array Value).toList).length = 1 * 2 from rfl) (newN (H.gr 36)) (by simp [Value.oneCell']) (by unfold maxLen; omega) (by omega) ?_)
              clear H
              intro a65 c65 w1 H
              clear HS
              have HS := H
              refine hK.out _ _ (fun _ => (H.sub sU)) ?_
              clear hK K
              simp only [pS]
              refine rk_free (i := 8) rfl kR kR kR kR (Yld.o rfl) (fun _ => (H.sub sU)) ?_; simp only [pS]
              refine rk_free (i := 9) rfl kR kR kR kR (Yld.o rfl) (fun _ => (H.sub sU)) ?_; simp only [pS]
              refine rk_one (i := 10) (by kernel_rfl) rfl rfl (fun K hK => ?_)
              refine Stp.wp (Stp.stc rfl size23 rfl rfl rfl rfl H uP (by simp) ?_)
              clear H
              intro w1 H
              simp only [pE, nC, pS] at H
              clear HS
              have HS := H
              refine hK.out _ _ (fun h => by cases (show true = false from h)) ?_
              clear hK K
              simp only [pS]
              refine rk_done (by kernel_rfl) ?_
              go_wp2_with fail
              go_ret
              exact ⟨_, rfl, by rw [HR0.out]; rfl, AnsP.yes HR0.out ((H.pull (r := slc 36 2 _ _ _) pU).pull (r := row 69 gx _) pU |>.sub sU)⟩
          · have HE1 := Lib.hid (decide_eq_false h5)
            have HR0 : Hid (r = false) := Lib.hid (by rw [← hr]; exact decide_eq_false (fun g => h5 g.2.2.2.2.1))
            clear h1 h2 h3 h4 h5 hr
            go_enter Try.func109, Try.ntmps109
            go_wp2_with (first | (with_reducible refine wpl rfl (Stp.box 8 rfl rfl rfl H ?_); clear H; intro g8 w1 H; simp only [pS]; simp only [pE, nC, pS] at H) | (with_reducible refine wpl rfl (Stp.box 9 rfl rfl rfl H ?_); clear H; intro g9 w1 H; simp only [pS]; simp only [pE, nC, pS] at H))
            refine rg_begin 47 rfl (S := fun W => St _ _ W (row 74 g9 #[.int .i64 kd, .int .u16 m1, .int .u32 m2, .int .u64 m3, .int .u64 (ms : Int), .int .u64 m5, .int .i64 m6, .int .u32 (mb.r : Int), .int .u16 (mb.w.1 : Int), .int .u32 (mb.w.2 : Int), .int .u32 (ma.r : Int), .int .u16 (ma.w.1 : Int), .int .u32 (ma.w.2 : Int), .bool mh, .int .i64 mc.kind, .int .u16 (mc.fr.1 : Int), .int .u32 (mc.fr.2 : Int), .int .u64 (mc.num : Int), .int .u64 (mc.vw : Int), .slice me.ba mc.data.length me.bc, .int .u64 (mc.v.id : Int), .slice me.ma mc.v.mem.length me.mc, .slice me.la mc.v.lvs.length me.lc, .slice me.da mc.v.ldr.length me.dc, .int .u64 (mv.id : Int), .slice mx.ma mv.mem.length mx.mc, .slice mx.la mv.lvs.length mx.lc, .slice mx.da mv.ldr.length mx.dc, .slice my m7 mz] :: row 36 g8 #[.int .u16 (q.1 : Int), .int .u32 (q.2 : Int)] :: row 69 gx #[.int .u16 (se.1 : Int), .int .u32 (se.2 : Int), .int .u32 (sn.r : Int), .int .u16 (sn.w.1 : Int), .int .u32 (sn.w.2 : Int), .int .u32 (bl.r : Int), .int .u16 (bl.w.1 : Int), .int .u32 (bl.w.2 : Int), .int .i64 ph, .slice la ld.length lc, .int .u64 (sl : Int), .bool hs, .int .u32 (un.r : Int), .int .u16 (un.w.1 : Int), .int .u32 (un.w.2 : Int), .int .i64 c.kind, .int .u16 (c.fr.1 : Int), .int .u32 (c.fr.2 : Int), .int .u64 (c.num : Int), .int .u64 (c.vw : Int), .slice hd.ba c.data.length hd.bc, .int .u64 (c.v.id : Int), .slice hd.ma c.v.mem.length hd.mc, .slice hd.la c.v.lvs.length hd.lc, .slice hd.da c.v.ldr.length hd.dc, .slice aa an.length ac] :: slc 36 2 (.slice aa an.length ac) an.length (pv an) :: L)) (by kernel_rfl) (H.drew.sub sU) ?_
            replace H := H.drew
            have HS := H
            refine rg_take (i := 0) rfl kR kR kR (Yld.move rfl rfl) (H.sub sU) ?_; simp only [pS, pE]
            refine rg_take (i := 1) rfl kR kR kR (Yld.o rfl) (H.sub sU) ?_; simp only [pS]
            refine rg_take (i := 2) rfl kR kR kR (Yld.o rfl) (H.sub sU) ?_; simp only [pS]
            first | (refine rg_take (i := 3) rfl kR kR kR (Yld.ldc rfl rfl agg3 rfl mR cE) (H.sub sU) ?_; simp only [pS]) | (refine rg_take (i := 3) rfl kR kR kR (Yld.ldo rfl rfl agg3 rfl (by assumption) (by assumption)) (H.sub sU) ?_; simp only [pS])
            refine rg_take (i := 4) rfl kR kR kR (Yld.move rfl rfl) (H.sub sU) ?_; simp only [pS, pE]
            refine rg_take (i := 5) rfl kR kR kR (Yld.of (v := .bool false) rfl (fun W _ => by go_simp; first | done | exact HP.out | (rw [HP.out]) | (simpa using HP.out))) (H.sub sU) ?_; simp only [pS, pE]
            refine rg_take (i := 6) rfl kR kR kR (Yld.move rfl rfl) (H.sub sU) ?_; simp only [pS, pE]
            refine rg_take (i := 7) rfl kR kR kR (Yld.o rfl) (H.sub sU) ?_; simp only [pS]
            first | (refine rg_take (i := 8) rfl kR kR kR (Yld.ldc rfl rfl agg3 rfl mR cE) (H.sub sU) ?_; simp only [pS]) | (refine rg_take (i := 8) rfl kR kR kR (Yld.ldo rfl rfl agg3 rfl (by assumption) (by assumption)) (H.sub sU) ?_; simp only [pS])
            refine rg_take (i := 9) rfl kR kR kR (Yld.move rfl rfl) (H.sub sU) ?_; simp only [pS, pE]
            refine rg_take (i := 10) rfl kR kR kR (Yld.of (v := .bool false) rfl (fun W _ => by go_simp; first | done | exact HK.out | (rw [HK.out]) | (simpa using HK.out))) (H.sub sU) ?_; simp only [pS, pE]
            refine rg_take (i := 11) rfl kR kR kR (Yld.pick rfl rfl rfl) (H.sub sU) ?_; simp only [pS, pE]
            refine rg_take (i := 12) rfl kR kR kR (Yld.move rfl rfl) (H.sub sU) ?_; simp only [pS, pE]
            refine rg_take (i := 13) rfl kR kR kR (Yld.o rfl) (H.sub sU) ?_; simp only [pS]
            first | (refine rg_take (i := 14) rfl kR kR kR (Yld.ldc rfl rfl agg22 rfl mR cE) (H.sub sU) ?_; simp only [pS]) | (refine rg_take (i := 14) rfl kR kR kR (Yld.ldo rfl rfl agg22 rfl (by assumption) (by assumption)) (H.sub sU) ?_; simp only [pS])
            refine rg_take (i := 15) rfl kR kR kR (Yld.move rfl rfl) (H.sub sU) ?_; simp only [pS, pE]
            refine rg_take (i := 16) rfl kR kR kR (Yld.o rfl) (H.sub sU) ?_; simp only [pS]
            refine rg_take (i := 17) rfl kR kR kR (Yld.o rfl) (H.sub sU) ?_; simp only [pS]
            first | (refine rg_take (i := 18) rfl kR kR kR (Yld.ldc rfl rfl agg22 rfl mR cE) (H.sub sU) ?_; simp only [pS]) | (refine rg_take (i := 18) rfl kR kR kR (Yld.ldo rfl rfl agg22 rfl (by assumption) (by assumption)) (H.sub sU) ?_; simp only [pS])
            refine rg_take (i := 19) rfl kR kR kR (Yld.of (v := .bool false) rfl (fun W _ => by go_simp; first | done | exact HSL.out | (rw [HSL.out]) | (simpa using HSL.out))) (H.sub sU) ?_; simp only [pS, pE]
            refine rg_take (i := 20) rfl kR kR kR (Yld.pick rfl rfl rfl) (H.sub sU) ?_; simp only [pS, pE]
            refine rg_take (i := 21) rfl kR kR kR (Yld.move rfl rfl) (H.sub sU) ?_; simp only [pS, pE]
            refine rg_take (i := 22) rfl kR kR kR (Yld.o rfl) (H.sub sU) ?_; simp only [pS]
            first | (refine rg_take (i := 23) rfl kR kR kR (Yld.ldr rfl rfl agg67 size67 rfl mR sZ) (H.sub sU) ?_; simp only [pS]) | (refine rg_take (i := 23) rfl kR kR kR (Yld.ldl rfl rfl agg67 size67 rfl mR (by simp)) (H.sub sU) ?_; simp only [pS]; simp only [List.drop_succ_cons, List.drop_zero, List.take_succ_cons, List.take_zero]) | (refine rg_take (i := 23) rfl kR kR kR (Yld.ldor rfl rfl agg67 size67 rfl (by assumption) sZ (by assumption)) (H.sub sU) ?_; simp only [pS])
            refine rg_take (i := 24) rfl kR kR kR (Yld.move rfl rfl) (H.sub sU) ?_; simp only [pS, pE]
            refine rg_take (i := 25) rfl kR kR kR (Yld.o rfl) (H.sub sU) ?_; simp only [pS]
            refine rg_take (i := 26) rfl kR kR kR (Yld.o rfl) (H.sub sU) ?_; simp only [pS]
            first | (refine rg_take (i := 27) rfl kR kR kR (Yld.ldr rfl rfl agg67 size67 rfl mR sZ) (H.sub sU) ?_; simp only [pS]) | (refine rg_take (i := 27) rfl kR kR kR (Yld.ldl rfl rfl agg67 size67 rfl mR (by simp)) (H.sub sU) ?_; simp only [pS]; simp only [List.drop_succ_cons, List.drop_zero, List.take_succ_cons, List.take_zero]) | (refine rg_take (i := 27) rfl kR kR kR (Yld.ldor rfl rfl agg67 size67 rfl (by assumption) sZ (by assumption)) (H.sub sU) ?_; simp only [pS])
            refine rg_take (i := 28) rfl kR kR kR (Yld.neqBl rfl rfl rfl rfl HB.out) (H.sub sU) ?_; simp only [pS, pE]
            refine rg_take (i := 29) rfl kR kR kR (Yld.pick rfl rfl rfl) (H.sub sU) ?_; simp only [pS, pE]
            refine rg_take (i := 30) rfl kR kR kR (Yld.move rfl rfl) (H.sub sU) ?_; simp only [pS, pE]
            refine rg_take (i := 31) rfl kR kR kR (Yld.move rfl rfl) (H.sub sU) ?_; simp only [pS, pE]
            refine rg_take (i := 32) rfl kR kR kR (Yld.o rfl) (H.sub sU) ?_; simp only [pS]
            refine rg_take (i := 33) rfl kR kR kR (Yld.o rfl) (H.sub sU) ?_; simp only [pS]
            first | (refine rg_take (i := 34) rfl kR kR kR (Yld.ldc rfl rfl agg23 rfl mR cE) (H.sub sU) ?_; simp only [pS]) | (refine rg_take (i := 34) rfl kR kR kR (Yld.ldo rfl rfl agg23 rfl (by assumption) (by assumption)) (H.sub sU) ?_; simp only [pS])
            first | (refine rg_take (i := 35) rfl kR kR kR (Yld.ldr rfl rfl agg36 size36 rfl mR sZ) (H.sub sU) ?_; simp only [pS]) | (refine rg_take (i := 35) rfl kR kR kR (Yld.ldl rfl rfl agg36 size36 rfl mR (by simp)) (H.sub sU) ?_; simp only [pS]; simp only [List.drop_succ_cons, List.drop_zero, List.take_succ_cons, List.take_zero]) | (refine rg_take (i := 35) rfl kR kR kR (Yld.ldor rfl rfl agg36 size36 rfl (by assumption) sZ (by assumption)) (H.sub sU) ?_; simp only [pS])
            refine rg_one (i := 36) (by kernel_rfl) rfl rfl (fun K hK => ?_)
            refine wp_callf rfl ent131 (rhas3_ok (.slice la ld.length lc) ld q false HE1.out _ (hl.at H (by repeat (first | exact List.Sublist.refl _ | apply List.Sublist.cons)))) rfl (fun v w1 hr => ?_)
            obtain ⟨rfl, hb1⟩ := hr
            replace H := H.grow hb1
            clear hb1
            clear HS
            have HS := H
            refine hK.out _ _ (H.sub sU) ?_
            clear hK K
            simp only [pS]
            refine rg_take (i := 37) rfl kR kR kR (Yld.o rfl) (H.sub sU) ?_; simp only [pS]
            refine rg_take (i := 38) rfl kR kR kR (Yld.pick rfl rfl rfl) (H.sub sU) ?_; simp only [pS, pE]
            refine rg_take (i := 39) rfl kR kR kR (Yld.move rfl rfl) (H.sub sU) ?_; simp only [pS, pE]
            refine rg_take (i := 40) rfl kR kR kR (Yld.skip rfl) (H.sub sU) ?_; simp only [pS]
            refine rg_take (i := 41) rfl kR kR kR (Yld.skip rfl) (H.sub sU) ?_; simp only [pS]
            refine rg_take (i := 42) rfl kR kR kR (Yld.skip rfl) (H.sub sU) ?_; simp only [pS]
            refine rg_take (i := 43) rfl kR kR kR (Yld.skip rfl) (H.sub sU) ?_; simp only [pS]
            refine rg_take (i := 44) rfl kR kR kR (Yld.skip rfl) (H.sub sU) ?_; simp only [pS]
            refine rg_take (i := 45) rfl kR kR kR (Yld.skip rfl) (H.sub sU) ?_; simp only [pS]
            refine rg_take (i := 46) rfl kR kR kR (Yld.pick rfl rfl rfl) (H.sub sU) ?_; simp only [pS, pE]
            refine rg_done (by kernel_rfl) ?_
            go_wp2_with fail
            go_ret
            exact ⟨_, rfl, by rw [HR0.out]; rfl, AnsP.no HR0.out (H.sub sU)⟩
        · have HB : Hid ((!(decide (mb = bl))) = true) := Lib.hid (by simp [h4])
          have HR0 : Hid (r = false) := Lib.hid (by rw [← hr]; exact decide_eq_false (fun g => h4 g.2.2.2.1))
          clear h1 h2 h3 h4 hr
          go_enter Try.func109, Try.ntmps109
          go_wp2_with (first | (with_reducible refine wpl rfl (Stp.box 8 rfl rfl rfl H ?_); clear H; intro g8 w1 H; simp only [pS]; simp only [pE, nC, pS] at H) | (with_reducible refine wpl rfl (Stp.box 9 rfl rfl rfl H ?_); clear H; intro g9 w1 H; simp only [pS]; simp only [pE, nC, pS] at H))
          refine rg_begin 47 rfl (S := fun W => St _ _ W (row 74 g9 #[.int .i64 kd, .int .u16 m1, .int .u32 m2, .int .u64 m3, .int .u64 (ms : Int), .int .u64 m5, .int .i64 m6, .int .u32 (mb.r : Int), .int .u16 (mb.w.1 : Int), .int .u32 (mb.w.2 : Int), .int .u32 (ma.r : Int), .int .u16 (ma.w.1 : Int), .int .u32 (ma.w.2 : Int), .bool mh, .int .i64 mc.kind, .int .u16 (mc.fr.1 : Int), .int .u32 (mc.fr.2 : Int), .int .u64 (mc.num : Int), .int .u64 (mc.vw : Int), .slice me.ba mc.data.length me.bc, .int .u64 (mc.v.id : Int), .slice me.ma mc.v.mem.length me.mc, .slice me.la mc.v.lvs.length me.lc, .slice me.da mc.v.ldr.length me.dc, .int .u64 (mv.id : Int), .slice mx.ma mv.mem.length mx.mc, .slice mx.la mv.lvs.length mx.lc, .slice mx.da mv.ldr.length mx.dc, .slice my m7 mz] :: row 36 g8 #[.int .u16 (q.1 : Int), .int .u32 (q.2 : Int)] :: row 69 gx #[.int .u16 (se.1 : Int), .int .u32 (se.2 : Int), .int .u32 (sn.r : Int), .int .u16 (sn.w.1 : Int), .int .u32 (sn.w.2 : Int), .int .u32 (bl.r : Int), .int .u16 (bl.w.1 : Int), .int .u32 (bl.w.2 : Int), .int .i64 ph, .slice la ld.length lc, .int .u64 (sl : Int), .bool hs, .int .u32 (un.r : Int), .int .u16 (un.w.1 : Int), .int .u32 (un.w.2 : Int), .int .i64 c.kind, .int .u16 (c.fr.1 : Int), .int .u32 (c.fr.2 : Int), .int .u64 (c.num : Int), .int .u64 (c.vw : Int), .slice hd.ba c.data.length hd.bc, .int .u64 (c.v.id : Int), .slice hd.ma c.v.mem.length hd.mc, .slice hd.la c.v.lvs.length hd.lc, .slice hd.da c.v.ldr.length hd.dc, .slice aa an.length ac] :: slc 36 2 (.slice aa an.length ac) an.length (pv an) :: L)) (by kernel_rfl) (H.drew.sub sU) ?_
          replace H := H.drew
          have HS := H
          refine rg_take (i := 0) rfl kR kR kR (Yld.move rfl rfl) (H.sub sU) ?_; simp only [pS, pE]
          refine rg_take (i := 1) rfl kR kR kR (Yld.o rfl) (H.sub sU) ?_; simp only [pS]
          refine rg_take (i := 2) rfl kR kR kR (Yld.o rfl) (H.sub sU) ?_; simp only [pS]
          first | (refine rg_take (i := 3) rfl kR kR kR (Yld.ldc rfl rfl agg3 rfl mR cE) (H.sub sU) ?_; simp only [pS]) | (refine rg_take (i := 3) rfl kR kR kR (Yld.ldo rfl rfl agg3 rfl (by assumption) (by assumption)) (H.sub sU) ?_; simp only [pS])
          refine rg_take (i := 4) rfl kR kR kR (Yld.move rfl rfl) (H.sub sU) ?_; simp only [pS, pE]
          refine rg_take (i := 5) rfl kR kR kR (Yld.of (v := .bool false) rfl (fun W _ => by go_simp; first | done | exact HP.out | (rw [HP.out]) | (simpa using HP.out))) (H.sub sU) ?_; simp only [pS, pE]
          refine rg_take (i := 6) rfl kR kR kR (Yld.move rfl rfl) (H.sub sU) ?_; simp only [pS, pE]
          refine rg_take (i := 7) rfl kR kR kR (Yld.o rfl) (H.sub sU) ?_; simp only [pS]
          first | (refine rg_take (i := 8) rfl kR kR kR (Yld.ldc rfl rfl agg3 rfl mR cE) (H.sub sU) ?_; simp only [pS]) | (refine rg_take (i := 8) rfl kR kR kR (Yld.ldo rfl rfl agg3 rfl (by assumption) (by assumption)) (H.sub sU) ?_; simp only [pS])
          refine rg_take (i := 9) rfl kR kR kR (Yld.move rfl rfl) (H.sub sU) ?_; simp only [pS, pE]
          refine rg_take (i := 10) rfl kR kR kR (Yld.of (v := .bool false) rfl (fun W _ => by go_simp; first | done | exact HK.out | (rw [HK.out]) | (simpa using HK.out))) (H.sub sU) ?_; simp only [pS, pE]
          refine rg_take (i := 11) rfl kR kR kR (Yld.pick rfl rfl rfl) (H.sub sU) ?_; simp only [pS, pE]
          refine rg_take (i := 12) rfl kR kR kR (Yld.move rfl rfl) (H.sub sU) ?_; simp only [pS, pE]
          refine rg_take (i := 13) rfl kR kR kR (Yld.o rfl) (H.sub sU) ?_; simp only [pS]
          first | (refine rg_take (i := 14) rfl kR kR kR (Yld.ldc rfl rfl agg22 rfl mR cE) (H.sub sU) ?_; simp only [pS]) | (refine rg_take (i := 14) rfl kR kR kR (Yld.ldo rfl rfl agg22 rfl (by assumption) (by assumption)) (H.sub sU) ?_; simp only [pS])
          refine rg_take (i := 15) rfl kR kR kR (Yld.move rfl rfl) (H.sub sU) ?_; simp only [pS, pE]
          refine rg_take (i := 16) rfl kR kR kR (Yld.o rfl) (H.sub sU) ?_; simp only [pS]
          refine rg_take (i := 17) rfl kR kR kR (Yld.o rfl) (H.sub sU) ?_; simp only [pS]
          first | (refine rg_take (i := 18) rfl kR kR kR (Yld.ldc rfl rfl agg22 rfl mR cE) (H.sub sU) ?_; simp only [pS]) | (refine rg_take (i := 18) rfl kR kR kR (Yld.ldo rfl rfl agg22 rfl (by assumption) (by assumption)) (H.sub sU) ?_; simp only [pS])
          refine rg_take (i := 19) rfl kR kR kR (Yld.of (v := .bool false) rfl (fun W _ => by go_simp; first | done | exact HSL.out | (rw [HSL.out]) | (simpa using HSL.out))) (H.sub sU) ?_; simp only [pS, pE]
          refine rg_take (i := 20) rfl kR kR kR (Yld.pick rfl rfl rfl) (H.sub sU) ?_; simp only [pS, pE]
          refine rg_take (i := 21) rfl kR kR kR (Yld.move rfl rfl) (H.sub sU) ?_; simp only [pS, pE]
          refine rg_take (i := 22) rfl kR kR kR (Yld.o rfl) (H.sub sU) ?_; simp only [pS]
          first | (refine rg_take (i := 23) rfl kR kR kR (Yld.ldr rfl rfl agg67 size67 rfl mR sZ) (H.sub sU) ?_; simp only [pS]) | (refine rg_take (i := 23) rfl kR kR kR (Yld.ldl rfl rfl agg67 size67 rfl mR (by simp)) (H.sub sU) ?_; simp only [pS]; simp only [List.drop_succ_cons, List.drop_zero, List.take_succ_cons, List.take_zero]) | (refine rg_take (i := 23) rfl kR kR kR (Yld.ldor rfl rfl agg67 size67 rfl (by assumption) sZ (by assumption)) (H.sub sU) ?_; simp only [pS])
          refine rg_take (i := 24) rfl kR kR kR (Yld.move rfl rfl) (H.sub sU) ?_; simp only [pS, pE]
          refine rg_take (i := 25) rfl kR kR kR (Yld.o rfl) (H.sub sU) ?_; simp only [pS]
          refine rg_take (i := 26) rfl kR kR kR (Yld.o rfl) (H.sub sU) ?_; simp only [pS]
          first | (refine rg_take (i := 27) rfl kR kR kR (Yld.ldr rfl rfl agg67 size67 rfl mR sZ) (H.sub sU) ?_; simp only [pS]) | (refine rg_take (i := 27) rfl kR kR kR (Yld.ldl rfl rfl agg67 size67 rfl mR (by simp)) (H.sub sU) ?_; simp only [pS]; simp only [List.drop_succ_cons, List.drop_zero, List.take_succ_cons, List.take_zero]) | (refine rg_take (i := 27) rfl kR kR kR (Yld.ldor rfl rfl agg67 size67 rfl (by assumption) sZ (by assumption)) (H.sub sU) ?_; simp only [pS])
          refine rg_take (i := 28) rfl kR kR kR (Yld.neqBl rfl rfl rfl rfl HB.out) (H.sub sU) ?_; simp only [pS, pE]
          refine rg_take (i := 29) rfl kR kR kR (Yld.pick rfl rfl rfl) (H.sub sU) ?_; simp only [pS, pE]
          refine rg_take (i := 30) rfl kR kR kR (Yld.move rfl rfl) (H.sub sU) ?_; simp only [pS, pE]
          refine rg_take (i := 31) rfl kR kR kR (Yld.skip rfl) (H.sub sU) ?_; simp only [pS]
          refine rg_take (i := 32) rfl kR kR kR (Yld.skip rfl) (H.sub sU) ?_; simp only [pS]
          refine rg_take (i := 33) rfl kR kR kR (Yld.skip rfl) (H.sub sU) ?_; simp only [pS]
          refine rg_take (i := 34) rfl kR kR kR (Yld.skip rfl) (H.sub sU) ?_; simp only [pS]
          refine rg_take (i := 35) rfl kR kR kR (Yld.skip rfl) (H.sub sU) ?_; simp only [pS]
          refine rg_take (i := 36) rfl kR kR kR (Yld.skip rfl) (H.sub sU) ?_; simp only [pS]
          refine rg_take (i := 37) rfl kR kR kR (Yld.skip rfl) (H.sub sU) ?_; simp only [pS]
          refine rg_take (i := 38) rfl kR kR kR (Yld.pick rfl rfl rfl) (H.sub sU) ?_; simp only [pS, pE]
          refine rg_take (i := 39) rfl kR kR kR (Yld.move rfl rfl) (H.sub sU) ?_; simp only [pS, pE]
          refine rg_take (i := 40) rfl kR kR kR (Yld.skip rfl) (H.sub sU) ?_; simp only [pS]
          refine rg_take (i := 41) rfl kR kR kR (Yld.skip rfl) (H.sub sU) ?_; simp only [pS]
          refine rg_take (i := 42) rfl kR kR kR (Yld.skip rfl) (H.sub sU) ?_; simp only [pS]
          refine rg_take (i := 43) rfl kR kR kR (Yld.skip rfl) (H.sub sU) ?_; simp only [pS]
          refine rg_take (i := 44) rfl kR kR kR (Yld.skip rfl) (H.sub sU) ?_; simp only [pS]
          refine rg_take (i := 45) rfl kR kR kR (Yld.skip rfl) (H.sub sU) ?_; simp only [pS]
          refine rg_take (i := 46) rfl kR kR kR (Yld.pick rfl rfl rfl) (H.sub sU) ?_; simp only [pS, pE]
          refine rg_done (by kernel_rfl) ?_
          go_wp2_with fail
          go_ret
          exact ⟨_, rfl, by rw [HR0.out]; rfl, AnsP.no HR0.out (H.sub sU)⟩
      · have HSL : Hid (((ms : Int) != (sl : Int)) = true) := Lib.hid (by simp; omega)
        have HB : Hid ((!(decide (mb = bl))) = (!(decide (mb = bl)))) := Lib.hid rfl
        have HR0 : Hid (r = false) := Lib.hid (by rw [← hr]; exact decide_eq_false (fun g => h3 g.2.2.1))
        clear h1 h2 h3 hr
        go_enter Try.func109, Try.ntmps109
        go_wp2_with (first | (with_reducible refine wpl rfl (Stp.box 8 rfl rfl rfl H ?_); clear H; intro g8 w1 H; simp only [pS]; simp only [pE, nC, pS] at H) | (with_reducible refine wpl rfl (Stp.box 9 rfl rfl rfl H ?_); clear H; intro g9 w1 H; simp only [pS]; simp only [pE, nC, pS] at H))
        refine rg_begin 47 rfl (S := fun W => St _ _ W (row 74 g9 #[.int .i64 kd, .int .u16 m1, .int .u32 m2, .int .u64 m3, .int .u64 (ms : Int), .int .u64 m5, .int .i64 m6, .int .u32 (mb.r : Int), .int .u16 (mb.w.1 : Int), .int .u32 (mb.w.2 : Int), .int .u32 (ma.r : Int), .int .u16 (ma.w.1 : Int), .int .u32 (ma.w.2 : Int), .bool mh, .int .i64 mc.kind, .int .u16 (mc.fr.1 : Int), .int .u32 (mc.fr.2 : Int), .int .u64 (mc.num : Int), .int .u64 (mc.vw : Int), .slice me.ba mc.data.length me.bc, .int .u64 (mc.v.id : Int), .slice me.ma mc.v.mem.length me.mc, .slice me.la mc.v.lvs.length me.lc, .slice me.da mc.v.ldr.length me.dc, .int .u64 (mv.id : Int), .slice mx.ma mv.mem.length mx.mc, .slice mx.la mv.lvs.length mx.lc, .slice mx.da mv.ldr.length mx.dc, .slice my m7 mz] :: row 36 g8 #[.int .u16 (q.1 : Int), .int .u32 (q.2 : Int)] :: row 69 gx #[.int .u16 (se.1 : Int), .int .u32 (se.2 : Int), .int .u32 (sn.r : Int), .int .u16 (sn.w.1 : Int), .int .u32 (sn.w.2 : Int), .int .u32 (bl.r : Int), .int .u16 (bl.w.1 : Int), .int .u32 (bl.w.2 : Int), .int .i64 ph, .slice la ld.length lc, .int .u64 (sl : Int), .bool hs, .int .u32 (un.r : Int), .int .u16 (un.w.1 : Int), .int .u32 (un.w.2 : Int), .int .i64 c.kind, .int .u16 (c.fr.1 : Int), .int .u32 (c.fr.2 : Int), .int .u64 (c.num : Int), .int .u64 (c.vw : Int), .slice hd.ba c.data.length hd.bc, .int .u64 (c.v.id : Int), .slice hd.ma c.v.mem.length hd.mc, .slice hd.la c.v.lvs.length hd.lc, .slice hd.da c.v.ldr.length hd.dc, .slice aa an.length ac] :: slc 36 2 (.slice aa an.length ac) an.length (pv an) :: L)) (by kernel_rfl) (H.drew.sub sU) ?_
        replace H := H.drew
        have HS := H
        refine rg_take (i := 0) rfl kR kR kR (Yld.move rfl rfl) (H.sub sU) ?_; simp only [pS, pE]
        refine rg_take (i := 1) rfl kR kR kR (Yld.o rfl) (H.sub sU) ?_; simp only [pS]
        refine rg_take (i := 2) rfl kR kR kR (Yld.o rfl) (H.sub sU) ?_; simp only [pS]
        first | (refine rg_take (i := 3) rfl kR kR kR (Yld.ldc rfl rfl agg3 rfl mR cE) (H.sub sU) ?_; simp only [pS]) | (refine rg_take (i := 3) rfl kR kR kR (Yld.ldo rfl rfl agg3 rfl (by assumption) (by assumption)) (H.sub sU) ?_; simp only [pS])
        refine rg_take (i := 4) rfl kR kR kR (Yld.move rfl rfl) (H.sub sU) ?_; simp only [pS, pE]
        refine rg_take (i := 5) rfl kR kR kR (Yld.of (v := .bool false) rfl (fun W _ => by go_simp; first | done | exact HP.out | (rw [HP.out]) | (simpa using HP.out))) (H.sub sU) ?_; simp only [pS, pE]
        refine rg_take (i := 6) rfl kR kR kR (Yld.move rfl rfl) (H.sub sU) ?_; simp only [pS, pE]
        refine rg_take (i := 7) rfl kR kR kR (Yld.o rfl) (H.sub sU) ?_; simp only [pS]
        first | (refine rg_take (i := 8) rfl kR kR kR (Yld.ldc rfl rfl agg3 rfl mR cE) (H.sub sU) ?_; simp only [pS]) | (refine rg_take (i := 8) rfl kR kR kR (Yld.ldo rfl rfl agg3 rfl (by assumption) (by assumption)) (H.sub sU) ?_; simp only [pS])
        refine rg_take (i := 9) rfl kR kR kR (Yld.move rfl rfl) (H.sub sU) ?_; simp only [pS, pE]
        refine rg_take (i := 10) rfl kR kR kR (Yld.of (v := .bool false) rfl (fun W _ => by go_simp; first | done | exact HK.out | (rw [HK.out]) | (simpa using HK.out))) (H.sub sU) ?_; simp only [pS, pE]
        refine rg_take (i := 11) rfl kR kR kR (Yld.pick rfl rfl rfl) (H.sub sU) ?_; simp only [pS, pE]
        refine rg_take (i := 12) rfl kR kR kR (Yld.move rfl rfl) (H.sub sU) ?_; simp only [pS, pE]
        refine rg_take (i := 13) rfl kR kR kR (Yld.o rfl) (H.sub sU) ?_; simp only [pS]
        first | (refine rg_take (i := 14) rfl kR kR kR (Yld.ldc rfl rfl agg22 rfl mR cE) (H.sub sU) ?_; simp only [pS]) | (refine rg_take (i := 14) rfl kR kR kR (Yld.ldo rfl rfl agg22 rfl (by assumption) (by assumption)) (H.sub sU) ?_; simp only [pS])
        refine rg_take (i := 15) rfl kR kR kR (Yld.move rfl rfl) (H.sub sU) ?_; simp only [pS, pE]
        refine rg_take (i := 16) rfl kR kR kR (Yld.o rfl) (H.sub sU) ?_; simp only [pS]
        refine rg_take (i := 17) rfl kR kR kR (Yld.o rfl) (H.sub sU) ?_; simp only [pS]
        first | (refine rg_take (i := 18) rfl kR kR kR (Yld.ldc rfl rfl agg22 rfl mR cE) (H.sub sU) ?_; simp only [pS]) | (refine rg_take (i := 18) rfl kR kR kR (Yld.ldo rfl rfl agg22 rfl (by assumption) (by assumption)) (H.sub sU) ?_; simp only [pS])
        refine rg_take (i := 19) rfl kR kR kR (Yld.of (v := .bool true) rfl (fun W _ => by go_simp; first | done | exact HSL.out | (rw [HSL.out]) | (simpa using HSL.out))) (H.sub sU) ?_; simp only [pS, pE]
        refine rg_take (i := 20) rfl kR kR kR (Yld.pick rfl rfl rfl) (H.sub sU) ?_; simp only [pS, pE]
        refine rg_take (i := 21) rfl kR kR kR (Yld.move rfl rfl) (H.sub sU) ?_; simp only [pS, pE]
        refine rg_take (i := 22) rfl kR kR kR (Yld.skip rfl) (H.sub sU) ?_; simp only [pS]
        refine rg_take (i := 23) rfl kR kR kR (Yld.skip rfl) (H.sub sU) ?_; simp only [pS]
        refine rg_take (i := 24) rfl kR kR kR (Yld.skip rfl) (H.sub sU) ?_; simp only [pS]
        refine rg_take (i := 25) rfl kR kR kR (Yld.skip rfl) (H.sub sU) ?_; simp only [pS]
        refine rg_take (i := 26) rfl kR kR kR (Yld.skip rfl) (H.sub sU) ?_; simp only [pS]
        refine rg_take (i := 27) rfl kR kR kR (Yld.skip rfl) (H.sub sU) ?_; simp only [pS]
        refine rg_take (i := 28) rfl kR kR kR (Yld.skip rfl) (H.sub sU) ?_; simp only [pS]
        refine rg_take (i := 29) rfl kR kR kR (Yld.pick rfl rfl rfl) (H.sub sU) ?_; simp only [pS, pE]
        refine rg_take (i := 30) rfl kR kR kR (Yld.move rfl rfl) (H.sub sU) ?_; simp only [pS, pE]
        refine rg_take (i := 31) rfl kR kR kR (Yld.skip rfl) (H.sub sU) ?_; simp only [pS]
        refine rg_take (i := 32) rfl kR kR kR (Yld.skip rfl) (H.sub sU) ?_; simp only [pS]
        refine rg_take (i := 33) rfl kR kR kR (Yld.skip rfl) (H.sub sU) ?_; simp only [pS]
        refine rg_take (i := 34) rfl kR kR kR (Yld.skip rfl) (H.sub sU) ?_; simp only [pS]
        refine rg_take (i := 35) rfl kR kR kR (Yld.skip rfl) (H.sub sU) ?_; simp only [pS]
        refine rg_take (i := 36) rfl kR kR kR (Yld.skip rfl) (H.sub sU) ?_; simp only [pS]
        refine rg_take (i := 37) rfl kR kR kR (Yld.skip rfl) (H.sub sU) ?_; simp only [pS]
        refine rg_take (i := 38) rfl kR kR kR (Yld.pick rfl rfl rfl) (H.sub sU) ?_; simp only [pS, pE]
        refine rg_take (i := 39) rfl kR kR kR (Yld.move rfl rfl) (H.sub sU) ?_; simp only [pS, pE]
        refine rg_take (i := 40) rfl kR kR kR (Yld.skip rfl) (H.sub sU) ?_; simp only [pS]
        refine rg_take (i := 41) rfl kR kR kR (Yld.skip rfl) (H.sub sU) ?_; simp only [pS]
        refine rg_take (i := 42) rfl kR kR kR (Yld.skip rfl) (H.sub sU) ?_; simp only [pS]
        refine rg_take (i := 43) rfl kR kR kR (Yld.skip rfl) (H.sub sU) ?_; simp only [pS]
        refine rg_take (i := 44) rfl kR kR kR (Yld.skip rfl) (H.sub sU) ?_; simp only [pS]
        refine rg_take (i := 45) rfl kR kR kR (Yld.skip rfl) (H.sub sU) ?_; simp only [pS]
        refine rg_take (i := 46) rfl kR kR kR (Yld.pick rfl rfl rfl) (H.sub sU) ?_; simp only [pS, pE]
        refine rg_done (by kernel_rfl) ?_
        go_wp2_with fail
        go_ret
        exact ⟨_, rfl, by rw [HR0.out]; rfl, AnsP.no HR0.out (H.sub sU)⟩
    · have HK : Hid ((kd != k0) = true) := Lib.hid (by simp [h2])
      have HSL : Hid (True) := Lib.hid trivial
      have HB : Hid ((!(decide (mb = bl))) = (!(decide (mb = bl)))) := Lib.hid rfl
      have HR0 : Hid (r = false) := Lib.hid (by rw [← hr]; exact decide_eq_false (fun g => h2 g.2.1))
      clear h1 h2 hr
      go_enter Try.func109, Try.ntmps109
      go_wp2_with (first | (with_reducible refine wpl rfl (Stp.box 8 rfl rfl rfl H ?_); clear H; intro g8 w1 H; simp only [pS]; simp only [pE, nC, pS] at H) | (with_reducible refine wpl rfl (Stp.box 9 rfl rfl rfl H ?_); clear H; intro g9 w1 H; simp only [pS]; simp only [pE, nC, pS] at H))
      refine rg_begin 47 rfl (S := fun W => St _ _ W (row 74 g9 #[.int .i64 kd, .int .u16 m1, .int .u32 m2, .int .u64 m3, .int .u64 (ms : Int), .int .u64 m5, .int .i64 m6, .int .u32 (mb.r : Int), .int .u16 (mb.w.1 : Int), .int .u32 (mb.w.2 : Int), .int .u32 (ma.r : Int), .int .u16 (ma.w.1 : Int), .int .u32 (ma.w.2 : Int), .bool mh, .int .i64 mc.kind, .int .u16 (mc.fr.1 : Int), .int .u32 (mc.fr.2 : Int), .int .u64 (mc.num : Int), .int .u64 (mc.vw : Int), .slice me.ba mc.data.length me.bc, .int .u64 (mc.v.id : Int), .slice me.ma mc.v.mem.length me.mc, .slice me.la mc.v.lvs.length me.lc, .slice me.da mc.v.ldr.length me.dc, .int .u64 (mv.id : Int), .slice mx.ma mv.mem.length mx.mc, .slice mx.la mv.lvs.length mx.lc, .slice mx.da mv.ldr.length mx.dc, .slice my m7 mz] :: row 36 g8 #[.int .u16 (q.1 : Int), .int .u32 (q.2 : Int)] :: row 69 gx #[.int .u16 (se.1 : Int), .int .u32 (se.2 : Int), .int .u32 (sn.r : Int), .int .u16 (sn.w.1 : Int), .int .u32 (sn.w.2 : Int), .int .u32 (bl.r : Int), .int .u16 (bl.w.1 : Int), .int .u32 (bl.w.2 : Int), .int .i64 ph, .slice la ld.length lc, .int .u64 (sl : Int), .bool hs, .int .u32 (un.r : Int), .int .u16 (un.w.1 : Int), .int .u32 (un.w.2 : Int), .int .i64 c.kind, .int .u16 (c.fr.1 : Int), .int .u32 (c.fr.2 : Int), .int .u64 (c.num : Int), .int .u64 (c.vw : Int), .slice hd.ba c.data.length hd.bc, .int .u64 (c.v.id : Int), .slice hd.ma c.v.mem.length hd.mc, .slice hd.la c.v.lvs.length hd.lc, .slice hd.da c.v.ldr.length hd.dc, .slice aa an.length ac] :: slc 36 2 (.slice aa an.length ac) an.length (pv an) :: L)) (by kernel_rfl) (H.drew.sub sU) ?_
      replace H := H.drew
      have HS := H
      refine rg_take (i := 0) rfl kR kR kR (Yld.move rfl rfl) (H.sub sU) ?_; simp only [pS, pE]
      refine rg_take (i := 1) rfl kR kR kR (Yld.o rfl) (H.sub sU) ?_; simp only [pS]
      refine rg_take (i := 2) rfl kR kR kR (Yld.o rfl) (H.sub sU) ?_; simp only [pS]
      first | (refine rg_take (i := 3) rfl kR kR kR (Yld.ldc rfl rfl agg3 rfl mR cE) (H.sub sU) ?_; simp only [pS]) | (refine rg_take (i := 3) rfl kR kR kR (Yld.ldo rfl rfl agg3 rfl (by assumption) (by assumption)) (H.sub sU) ?_; simp only [pS])
      refine rg_take (i := 4) rfl kR kR kR (Yld.move rfl rfl) (H.sub sU) ?_; simp only [pS, pE]
      refine rg_take (i := 5) rfl kR kR kR (Yld.of (v := .bool false) rfl (fun W _ => by go_simp; first | done | exact HP.out | (rw [HP.out]) | (simpa using HP.out))) (H.sub sU) ?_; simp only [pS, pE]
      refine rg_take (i := 6) rfl kR kR kR (Yld.move rfl rfl) (H.sub sU) ?_; simp only [pS, pE]
      refine rg_take (i := 7) rfl kR kR kR (Yld.o rfl) (H.sub sU) ?_; simp only [pS]
      first | (refine rg_take (i := 8) rfl kR kR kR (Yld.ldc rfl rfl agg3 rfl mR cE) (H.sub sU) ?_; simp only [pS]) | (refine rg_take (i := 8) rfl kR kR kR (Yld.ldo rfl rfl agg3 rfl (by assumption) (by assumption)) (H.sub sU) ?_; simp only [pS])
      refine rg_take (i := 9) rfl kR kR kR (Yld.move rfl rfl) (H.sub sU) ?_; simp only [pS, pE]
      refine rg_take (i := 10) rfl kR kR kR (Yld.of (v := .bool true) rfl (fun W _ => by go_simp; first | done | exact HK.out | (rw [HK.out]) | (simpa using HK.out))) (H.sub sU) ?_; simp only [pS, pE]
      refine rg_take (i := 11) rfl kR kR kR (Yld.pick rfl rfl rfl) (H.sub sU) ?_; simp only [pS, pE]
      refine rg_take (i := 12) rfl kR kR kR (Yld.move rfl rfl) (H.sub sU) ?_; simp only [pS, pE]
      refine rg_take (i := 13) rfl kR kR kR (Yld.skip rfl) (H.sub sU) ?_; simp only [pS]
      refine rg_take (i := 14) rfl kR kR kR (Yld.skip rfl) (H.sub sU) ?_; simp only [pS]
      refine rg_take (i := 15) rfl kR kR kR (Yld.skip rfl) (H.sub sU) ?_; simp only [pS]
      refine rg_take (i := 16) rfl kR kR kR (Yld.skip rfl) (H.sub sU) ?_; simp only [pS]
      refine rg_take (i := 17) rfl kR kR kR (Yld.skip rfl) (H.sub sU) ?_; simp only [pS]
      refine rg_take (i := 18) rfl kR kR kR (Yld.skip rfl) (H.sub sU) ?_; simp only [pS]
      refine rg_take (i := 19) rfl kR kR kR (Yld.skip rfl) (H.sub sU) ?_; simp only [pS]
      refine rg_take (i := 20) rfl kR kR kR (Yld.pick rfl rfl rfl) (H.sub sU) ?_; simp only [pS, pE]
      refine rg_take (i := 21) rfl kR kR kR (Yld.move rfl rfl) (H.sub sU) ?_; simp only [pS, pE]
      refine rg_take (i := 22) rfl kR kR kR (Yld.skip rfl) (H.sub sU) ?_; simp only [pS]
      refine rg_take (i := 23) rfl kR kR kR (Yld.skip rfl) (H.sub sU) ?_; simp only [pS]
      refine rg_take (i := 24) rfl kR kR kR (Yld.skip rfl) (H.sub sU) ?_; simp only [pS]
      refine rg_take (i := 25) rfl kR kR kR (Yld.skip rfl) (H.sub sU) ?_; simp only [pS]
      refine rg_take (i := 26) rfl kR kR kR (Yld.skip rfl) (H.sub sU) ?_; simp only [pS]
      refine rg_take (i := 27) rfl kR kR kR (Yld.skip rfl) (H.sub sU) ?_; simp only [pS]
      refine rg_take (i := 28) rfl kR kR kR (Yld.skip rfl) (H.sub sU) ?_; simp only [pS]
      refine rg_take (i := 29) rfl kR kR kR (Yld.pick rfl rfl rfl) (H.sub sU) ?_; simp only [pS, pE]
      refine rg_take (i := 30) rfl kR kR kR (Yld.move rfl rfl) (H.sub sU) ?_; simp only [pS, pE]
      refine rg_take (i := 31) rfl kR kR kR (Yld.skip rfl) (H.sub sU) ?_; simp only [pS]
      refine rg_take (i := 32) rfl kR kR kR (Yld.skip rfl) (H.sub sU) ?_; simp only [pS]
      refine rg_take (i := 33) rfl kR kR kR (Yld.skip rfl) (H.sub sU) ?_; simp only [pS]
      refine rg_take (i := 34) rfl kR kR kR (Yld.skip rfl) (H.sub sU) ?_; simp only [pS]
      refine rg_take (i := 35) rfl kR kR kR (Yld.skip rfl) (H.sub sU) ?_; simp only [pS]
      refine rg_take (i := 36) rfl kR kR kR (Yld.skip rfl) (H.sub sU) ?_; simp only [pS]
      refine rg_take (i := 37) rfl kR kR kR (Yld.skip rfl) (H.sub sU) ?_; simp only [pS]
      refine rg_take (i := 38) rfl kR kR kR (Yld.pick rfl rfl rfl) (H.sub sU) ?_; simp only [pS, pE]
      refine rg_take (i := 39) rfl kR kR kR (Yld.move rfl rfl) (H.sub sU) ?_; simp only [pS, pE]
      refine rg_take (i := 40) rfl kR kR kR (Yld.skip rfl) (H.sub sU) ?_; simp only [pS]
      refine rg_take (i := 41) rfl kR kR kR (Yld.skip rfl) (H.sub sU) ?_; simp only [pS]
      refine rg_take (i := 42) rfl kR kR kR (Yld.skip rfl) (H.sub sU) ?_; simp only [pS]
      refine rg_take (i := 43) rfl kR kR kR (Yld.skip rfl) (H.sub sU) ?_; simp only [pS]
      refine rg_take (i := 44) rfl kR kR kR (Yld.skip rfl) (H.sub sU) ?_; simp only [pS]
      refine rg_take (i := 45) rfl kR kR kR (Yld.skip rfl) (H.sub sU) ?_; simp only [pS]
      refine rg_take (i := 46) rfl kR kR kR (Yld.pick rfl rfl rfl) (H.sub sU) ?_; simp only [pS, pE]
      refine rg_done (by kernel_rfl) ?_
      go_wp2_with fail
      go_ret
      exact ⟨_, rfl, by rw [HR0.out]; rfl, AnsP.no HR0.out (H.sub sU)⟩
  · have HP : Hid ((ph != p0) = true) := Lib.hid (by simp [h1])
    have HK : Hid True := Lib.hid trivial
    have HSL : Hid (True) := Lib.hid trivial
    have HB : Hid ((!(decide (mb = bl))) = (!(decide (mb = bl)))) := Lib.hid rfl
    have HR0 : Hid (r = false) := Lib.hid (by rw [← hr]; exact decide_eq_false (fun g => h1 g.1))
    clear h1 hr
    go_enter Try.func109, Try.ntmps109
    go_wp2_with (first | (with_reducible refine wpl rfl (Stp.box 8 rfl rfl rfl H ?_); clear H; intro g8 w1 H; simp only [pS]; simp only [pE, nC, pS] at H) | (with_reducible refine wpl rfl (Stp.box 9 rfl rfl rfl H ?_); clear H; intro g9 w1 H; simp only [pS]; simp only [pE, nC, pS] at H))
    refine rg_begin 47 rfl (S := fun W => St _ _ W (row 74 g9 #[.int .i64 kd, .int .u16 m1, .int .u32 m2, .int .u64 m3, .int .u64 (ms : Int), .int .u64 m5, .int .i64 m6, .int .u32 (mb.r : Int), .int .u16 (mb.w.1 : Int), .int .u32 (mb.w.2 : Int), .int .u32 (ma.r : Int), .int .u16 (ma.w.1 : Int), .int .u32 (ma.w.2 : Int), .bool mh, .int .i64 mc.kind, .int .u16 (mc.fr.1 : Int), .int .u32 (mc.fr.2 : Int), .int .u64 (mc.num : Int), .int .u64 (mc.vw : Int), .slice me.ba mc.data.length me.bc, .int .u64 (mc.v.id : Int), .slice me.ma mc.v.mem.length me.mc, .slice me.la mc.v.lvs.length me.lc, .slice me.da mc.v.ldr.length me.dc, .int .u64 (mv.id : Int), .slice mx.ma mv.mem.length mx.mc, .slice mx.la mv.lvs.length mx.lc, .slice mx.da mv.ldr.length mx.dc, .slice my m7 mz] :: row 36 g8 #[.int .u16 (q.1 : Int), .int .u32 (q.2 : Int)] :: row 69 gx #[.int .u16 (se.1 : Int), .int .u32 (se.2 : Int), .int .u32 (sn.r : Int), .int .u16 (sn.w.1 : Int), .int .u32 (sn.w.2 : Int), .int .u32 (bl.r : Int), .int .u16 (bl.w.1 : Int), .int .u32 (bl.w.2 : Int), .int .i64 ph, .slice la ld.length lc, .int .u64 (sl : Int), .bool hs, .int .u32 (un.r : Int), .int .u16 (un.w.1 : Int), .int .u32 (un.w.2 : Int), .int .i64 c.kind, .int .u16 (c.fr.1 : Int), .int .u32 (c.fr.2 : Int), .int .u64 (c.num : Int), .int .u64 (c.vw : Int), .slice hd.ba c.data.length hd.bc, .int .u64 (c.v.id : Int), .slice hd.ma c.v.mem.length hd.mc, .slice hd.la c.v.lvs.length hd.lc, .slice hd.da c.v.ldr.length hd.dc, .slice aa an.length ac] :: slc 36 2 (.slice aa an.length ac) an.length (pv an) :: L)) (by kernel_rfl) (H.drew.sub sU) ?_
    replace H := H.drew
    have HS := H
    refine rg_take (i := 0) rfl kR kR kR (Yld.move rfl rfl) (H.sub sU) ?_; simp only [pS, pE]
    refine rg_take (i := 1) rfl kR kR kR (Yld.o rfl) (H.sub sU) ?_; simp only [pS]
    refine rg_take (i := 2) rfl kR kR kR (Yld.o rfl) (H.sub sU) ?_; simp only [pS]
    first | (refine rg_take (i := 3) rfl kR kR kR (Yld.ldc rfl rfl agg3 rfl mR cE) (H.sub sU) ?_; simp only [pS]) | (refine rg_take (i := 3) rfl kR kR kR (Yld.ldo rfl rfl agg3 rfl (by assumption) (by assumption)) (H.sub sU) ?_; simp only [pS])
    refine rg_take (i := 4) rfl kR kR kR (Yld.move rfl rfl) (H.sub sU) ?_; simp only [pS, pE]
    refine rg_take (i := 5) rfl kR kR kR (Yld.of (v := .bool true) rfl (fun W _ => by go_simp; first | done | exact HP.out | (rw [HP.out]) | (simpa using HP.out))) (H.sub sU) ?_; simp only [pS, pE]
    refine rg_take (i := 6) rfl kR kR kR (Yld.move rfl rfl) (H.sub sU) ?_; simp only [pS, pE]
    refine rg_take (i := 7) rfl kR kR kR (Yld.skip rfl) (H.sub sU) ?_; simp only [pS]
    refine rg_take (i := 8) rfl kR kR kR (Yld.skip rfl) (H.sub sU) ?_; simp only [pS]
    refine rg_take (i := 9) rfl kR kR kR (Yld.skip rfl) (H.sub sU) ?_; simp only [pS]
    refine rg_take (i := 10) rfl kR kR kR (Yld.skip rfl) (H.sub sU) ?_; simp only [pS]
    refine rg_take (i := 11) rfl kR kR kR (Yld.pick rfl rfl rfl) (H.sub sU) ?_; simp only [pS, pE]
    refine rg_take (i := 12) rfl kR kR kR (Yld.move rfl rfl) (H.sub sU) ?_; simp only [pS, pE]
    refine rg_take (i := 13) rfl kR kR kR (Yld.skip rfl) (H.sub sU) ?_; simp only [pS]
    refine rg_take (i := 14) rfl kR kR kR (Yld.skip rfl) (H.sub sU) ?_; simp only [pS]
    refine rg_take (i := 15) rfl kR kR kR (Yld.skip rfl) (H.sub sU) ?_; simp only [pS]
    refine rg_take (i := 16) rfl kR kR kR (Yld.skip rfl) (H.sub sU) ?_; simp only [pS]
    refine rg_take (i := 17) rfl kR kR kR (Yld.skip rfl) (H.sub sU) ?_; simp only [pS]
    refine rg_take (i := 18) rfl kR kR kR (Yld.skip rfl) (H.sub sU) ?_; simp only [pS]
    refine rg_take (i := 19) rfl kR kR kR (Yld.skip rfl) (H.sub sU) ?_; simp only [pS]
    refine rg_take (i := 20) rfl kR kR kR (Yld.pick rfl rfl rfl) (H.sub sU) ?_; simp only [pS, pE]
    refine rg_take (i := 21) rfl kR kR kR (Yld.move rfl rfl) (H.sub sU) ?_; simp only [pS, pE]
    refine rg_take (i := 22) rfl kR kR kR (Yld.skip rfl) (H.sub sU) ?_; simp only [pS]
    refine rg_take (i := 23) rfl kR kR kR (Yld.skip rfl) (H.sub sU) ?_; simp only [pS]
    refine rg_take (i := 24) rfl kR kR kR (Yld.skip rfl) (H.sub sU) ?_; simp only [pS]
    refine rg_take (i := 25) rfl kR kR kR (Yld.skip rfl) (H.sub sU) ?_; simp only [pS]
    refine rg_take (i := 26) rfl kR kR kR (Yld.skip rfl) (H.sub sU) ?_; simp only [pS]
    refine rg_take (i := 27) rfl kR kR kR (Yld.skip rfl) (H.sub sU) ?_; simp only [pS]
    refine rg_take (i := 28) rfl kR kR kR (Yld.skip rfl) (H.sub sU) ?_; simp only [pS]
    refine rg_take (i := 29) rfl kR kR kR (Yld.pick rfl rfl rfl) (H.sub sU) ?_; simp only [pS, pE]
    refine rg_take (i := 30) rfl kR kR kR (Yld.move rfl rfl) (H.sub sU) ?_; simp only [pS, pE]
    refine rg_take (i := 31) rfl kR kR kR (Yld.skip rfl) (H.sub sU) ?_; simp only [pS]
    refine rg_take (i := 32) rfl kR kR kR (Yld.skip rfl) (H.sub sU) ?_; simp only [pS]
    refine rg_take (i := 33) rfl kR kR kR (Yld.skip rfl) (H.sub sU) ?_; simp only [pS]
    refine rg_take (i := 34) rfl kR kR kR (Yld.skip rfl) (H.sub sU) ?_; simp only [pS]
    refine rg_take (i := 35) rfl kR kR kR (Yld.skip rfl) (H.sub sU) ?_; simp only [pS]
    refine rg_take (i := 36) rfl kR kR kR (Yld.skip rfl) (H.sub sU) ?_; simp only [pS]
    refine rg_take (i := 37) rfl kR kR kR (Yld.skip rfl) (H.sub sU) ?_; simp only [pS]
    refine rg_take (i := 38) rfl kR kR kR (Yld.pick rfl rfl rfl) (H.sub sU) ?_; simp only [pS, pE]
    refine rg_take (i := 39) rfl kR kR kR (Yld.move rfl rfl) (H.sub sU) ?_; simp only [pS, pE]
    refine rg_take (i := 40) rfl kR kR kR (Yld.skip rfl) (H.sub sU) ?_; simp only [pS]
    refine rg_take (i := 41) rfl kR kR kR (Yld.skip rfl) (H.sub sU) ?_; simp only [pS]
    refine rg_take (i := 42) rfl kR kR kR (Yld.skip rfl) (H.sub sU) ?_; simp only [pS]
    refine rg_take (i := 43) rfl kR kR kR (Yld.skip rfl) (H.sub sU) ?_; simp only [pS]
    refine rg_take (i := 44) rfl kR kR kR (Yld.skip rfl) (H.sub sU) ?_; simp only [pS]
    refine rg_take (i := 45) rfl kR kR kR (Yld.skip rfl) (H.sub sU) ?_; simp only [pS]
    refine rg_take (i := 46) rfl kR kR kR (Yld.pick rfl rfl rfl) (H.sub sU) ?_; simp only [pS, pE]
    refine rg_done (by kernel_rfl) ?_
    go_wp2_with fail
    go_ret
    exact ⟨_, rfl, by rw [HR0.out]; rfl, AnsP.no HR0.out (H.sub sU)⟩
theorem rsee_ok {B : Nat} {w0 : World} {L : List Res} (gx : Nat) (se : Pr) (sn bl : Bl) (ph : Int) (la : Option Addr) (lc : Nat) (ld : List Pr) (sl : Nat) (hs : Bool) (un : Bl) (c : Cm) (hd : Hd) (aa : Option Addr) (ac : Nat) (an : List Pr) (b : Bl) (e : Bool) (he : blt sn b = e) (w : World) (H : St B w0 w (row 69 gx #[.int .u16 (se.1 : Int), .int .u32 (se.2 : Int), .int .u32 (sn.r : Int), .int .u16 (sn.w.1 : Int), .int .u32 (sn.w.2 : Int), .int .u32 (bl.r : Int), .int .u16 (bl.w.1 : Int), .int .u32 (bl.w.2 : Int), .int .i64 ph, .slice la ld.length lc, .int .u64 (sl : Int), .bool hs, .int .u32 (un.r : Int), .int .u16 (un.w.1 : Int), .int .u32 (un.w.2 : Int), .int .i64 c.kind, .int .u16 (c.fr.1 : Int), .int .u32 (c.fr.2 : Int), .int .u64 (c.num : Int), .int .u64 (c.vw : Int), .slice hd.ba c.data.length hd.bc, .int .u64 (c.v.id : Int), .slice hd.ma c.v.mem.length hd.mc, .slice hd.la c.v.lvs.length hd.lc, .slice hd.da c.v.ldr.length hd.dc, .slice aa an.length ac] :: L)) :
    Calls Try.prog 74 #[.pointer (some ⟨gx, 0, none⟩), .agg #[.int .u32 (b.r : Int), .int .u16 (b.w.1 : Int), .int .u32 (b.w.2 : Int)]] w (Ret fun v w' => v = .tuple #[] ∧ St B w0 w' (row 69 gx #[.int .u16 (se.1 : Int), .int .u32 (se.2 : Int), .int .u32 ((if e = true then b else sn).r : Int), .int .u16 ((if e = true then b else sn).w.1 : Int), .int .u32 ((if e = true then b else sn).w.2 : Int), .int .u32 (bl.r : Int), .int .u16 (bl.w.1 : Int), .int .u32 (bl.w.2 : Int), .int .i64 ph, .slice la ld.length lc, .int .u64 (sl : Int), .bool hs, .int .u32 (un.r : Int), .int .u16 (un.w.1 : Int), .int .u32 (un.w.2 : Int), .int .i64 c.kind, .int .u16 (c.fr.1 : Int), .int .u32 (c.fr.2 : Int), .int .u64 (c.num : Int), .int .u64 (c.vw : Int), .slice hd.ba c.data.length hd.bc, .int .u64 (c.v.id : Int), .slice hd.ma c.v.mem.length hd.mc, .slice hd.la c.v.lvs.length hd.lc, .slice hd.da c.v.ldr.length hd.dc, .slice aa an.length ac] :: L)) := by
  have HBF := Lib.hid he
  clear he
  cases e
  all_goals
    go_enter Try.func74, Try.ntmps74
    go_wp2_with (first | (with_reducible refine wpl rfl (Stp.box 3 rfl rfl rfl H ?_); clear H; intro g3 w1 H; simp only [pS]; simp only [pE, nC, pS] at H))
    refine rg_begin 6 rfl (S := fun W => St _ _ W (row 67 g3 #[.int .u32 (b.r : Int), .int .u16 (b.w.1 : Int), .int .u32 (b.w.2 : Int)] :: row 69 gx #[.int .u16 (se.1 : Int), .int .u32 (se.2 : Int), .int .u32 (sn.r : Int), .int .u16 (sn.w.1 : Int), .int .u32 (sn.w.2 : Int), .int .u32 (bl.r : Int), .int .u16 (bl.w.1 : Int), .int .u32 (bl.w.2 : Int), .int .i64 ph, .slice la ld.length lc, .int .u64 (sl : Int), .bool hs, .int .u32 (un.r : Int), .int .u16 (un.w.1 : Int), .int .u32 (un.w.2 : Int), .int .i64 c.kind, .int .u16 (c.fr.1 : Int), .int .u32 (c.fr.2 : Int), .int .u64 (c.num : Int), .int .u64 (c.vw : Int), .slice hd.ba c.data.length hd.bc, .int .u64 (c.v.id : Int), .slice hd.ma c.v.mem.length hd.mc, .slice hd.la c.v.lvs.length hd.lc, .slice hd.da c.v.ldr.length hd.dc, .slice aa an.length ac] :: [])) (by kernel_rfl) (H.drew.sub sU) ?_
    replace H := H.drew
    have HS := H
    refine rg_take (i := 0) rfl kR kR kR (Yld.move rfl rfl) (H.sub sU) ?_; simp only [pS, pE]
    refine rg_take (i := 1) rfl kR kR kR (Yld.o rfl) (H.sub sU) ?_; simp only [pS]
    refine rg_take (i := 2) rfl kR kR kR (Yld.o rfl) (H.sub sU) ?_; simp only [pS]
    first | (refine rg_take (i := 3) rfl kR kR kR (Yld.ldr rfl rfl agg67 size67 rfl mR sZ) (H.sub sU) ?_; simp only [pS]) | (refine rg_take (i := 3) rfl kR kR kR (Yld.ldl rfl rfl agg67 size67 rfl mR (by simp)) (H.sub sU) ?_; simp only [pS]; simp only [List.drop_succ_cons, List.drop_zero, List.take_succ_cons, List.take_zero]) | (refine rg_take (i := 3) rfl kR kR kR (Yld.ldor rfl rfl agg67 size67 rfl (by assumption) sZ (by assumption)) (H.sub sU) ?_; simp only [pS])
    first | (refine rg_take (i := 4) rfl kR kR kR (Yld.ldr rfl rfl agg67 size67 rfl mR sZ) (H.sub sU) ?_; simp only [pS]) | (refine rg_take (i := 4) rfl kR kR kR (Yld.ldl rfl rfl agg67 size67 rfl mR (by simp)) (H.sub sU) ?_; simp only [pS]; simp only [List.drop_succ_cons, List.drop_zero, List.take_succ_cons, List.take_zero]) | (refine rg_take (i := 4) rfl kR kR kR (Yld.ldor rfl rfl agg67 size67 rfl (by assumption) sZ (by assumption)) (H.sub sU) ?_; simp only [pS])
    refine rg_one (i := 5) (by kernel_rfl) rfl rfl (fun K hK => ?_)
    refine wp_callf rfl ent33 (rbefore_ok sn b _ HBF.out _) rfl (fun v w1 hr => ?_)
    obtain ⟨rfl, hb1⟩ := hr
    replace H := H.grow hb1
    clear hb1
    clear HS
    have HS := H
    refine hK.out _ _ (H.sub sU) ?_
    clear hK K
    simp only [pS]
    refine rg_done (by kernel_rfl) ?_
    go_wp2_with (first | (with_reducible refine wpl rfl (Stp.ldr rfl agg67 size67 rfl H mR sZ ?_); simp only [pS]) | (with_reducible refine wpl rfl (Stp.stl rfl size67 rfl rfl rfl rfl H uP (by simp) ?_); clear H; intro w1 H; simp only [pS]; simp only [List.drop_succ_cons, List.drop_zero, List.take_succ_cons, List.take_zero, List.nil_append, List.cons_append, Nat.reduceAdd] at H))
    go_end0
    exact ⟨_, rfl, rfl, H.sub sU⟩
theorem rclear_ok {B : Nat} {w0 : World} {L : List Res} (gx : Nat) (se : Pr) (sn bl : Bl) (ph : Int) (la : Option Addr) (lc : Nat) (ld : List Pr) (sl : Nat) (hs : Bool) (un : Bl) (c : Cm) (hd : Hd) (aa : Option Addr) (ac : Nat) (an : List Pr) (w : World) (H : St B w0 w (row 69 gx #[.int .u16 (se.1 : Int), .int .u32 (se.2 : Int), .int .u32 (sn.r : Int), .int .u16 (sn.w.1 : Int), .int .u32 (sn.w.2 : Int), .int .u32 (bl.r : Int), .int .u16 (bl.w.1 : Int), .int .u32 (bl.w.2 : Int), .int .i64 ph, .slice la ld.length lc, .int .u64 (sl : Int), .bool hs, .int .u32 (un.r : Int), .int .u16 (un.w.1 : Int), .int .u32 (un.w.2 : Int), .int .i64 c.kind, .int .u16 (c.fr.1 : Int), .int .u32 (c.fr.2 : Int), .int .u64 (c.num : Int), .int .u64 (c.vw : Int), .slice hd.ba c.data.length hd.bc, .int .u64 (c.v.id : Int), .slice hd.ma c.v.mem.length hd.mc, .slice hd.la c.v.lvs.length hd.lc, .slice hd.da c.v.ldr.length hd.dc, .slice aa an.length ac] :: L)) :
    Calls Try.prog 108 #[.pointer (some ⟨gx, 0, none⟩)] w (Ret fun v w' => v = .tuple #[] ∧ St B w0 w' (row 69 gx #[.int .u16 (se.1 : Int), .int .u32 (se.2 : Int), .int .u32 (sn.r : Int), .int .u16 (sn.w.1 : Int), .int .u32 (sn.w.2 : Int), .int .u32 (bl.r : Int), .int .u16 (bl.w.1 : Int), .int .u32 (bl.w.2 : Int), .int .i64 ph, .slice la ld.length lc, .int .u64 (sl : Int), .bool false, .int .u32 0, .int .u16 0, .int .u32 0, .int .i64 0, .int .u16 0, .int .u32 0, .int .u64 0, .int .u64 0, .slice none 0 0, .int .u64 0, .slice none 0 0, .slice none 0 0, .slice none 0 0, .slice aa an.length ac] :: L)) := by
  go_enter Try.func108, Try.ntmps108
  go_wp2_with (first | (with_reducible refine wpl rfl (Stp.build (v := (.agg #[.int .u32 0, .int .u16 0, .int .u32 0])) 6 rfl rfl (fun W => by kernel_rfl) ?_); simp only [pS]) | (with_reducible refine wpl rfl (Stp.build (v := (.agg (cmH cm0 hd0))) 10 rfl rfl (fun W => by kernel_rfl) ?_); simp only [pS]) | (with_reducible refine wpl rfl (Stp.stc rfl size4 rfl rfl rfl rfl H uP (by first | omega | (simp; done) | (simp; omega)) ?_); clear H; intro w1 H; simp only [pS]; simp only [pE, nC, pS] at H) | (with_reducible refine wpl rfl (Stp.stl rfl size67 rfl rfl rfl rfl H uP (by simp) ?_); clear H; intro w1 H; simp only [pS]; simp only [List.drop_succ_cons, List.drop_zero, List.take_succ_cons, List.take_zero, List.nil_append, List.cons_append, Nat.reduceAdd] at H) | (with_reducible refine wpl rfl (Stp.stl rfl size43 rfl rfl rfl rfl H uP (by simp) ?_); clear H; intro w1 H; simp only [pS]; simp only [List.drop_succ_cons, List.drop_zero, List.take_succ_cons, List.take_zero, List.nil_append, List.cons_append, Nat.reduceAdd] at H))
  go_end0
  exact ⟨_, rfl, rfl, H.sub sU⟩
theorem rstop_ok {B : Nat} {w0 : World} {L : List Res} (gx : Nat) (se : Pr) (sn bl : Bl) (ph : Int) (la : Option Addr) (lc : Nat) (ld : List Pr) (sl : Nat) (hs : Bool) (un : Bl) (c : Cm) (hd : Hd) (aa : Option Addr) (ac : Nat) (an : List Pr) (w : World) (H : St B w0 w (row 69 gx #[.int .u16 (se.1 : Int), .int .u32 (se.2 : Int), .int .u32 (sn.r : Int), .int .u16 (sn.w.1 : Int), .int .u32 (sn.w.2 : Int), .int .u32 (bl.r : Int), .int .u16 (bl.w.1 : Int), .int .u32 (bl.w.2 : Int), .int .i64 ph, .slice la ld.length lc, .int .u64 (sl : Int), .bool hs, .int .u32 (un.r : Int), .int .u16 (un.w.1 : Int), .int .u32 (un.w.2 : Int), .int .i64 c.kind, .int .u16 (c.fr.1 : Int), .int .u32 (c.fr.2 : Int), .int .u64 (c.num : Int), .int .u64 (c.vw : Int), .slice hd.ba c.data.length hd.bc, .int .u64 (c.v.id : Int), .slice hd.ma c.v.mem.length hd.mc, .slice hd.la c.v.lvs.length hd.lc, .slice hd.da c.v.ldr.length hd.dc, .slice aa an.length ac] :: L)) :
    Calls Try.prog 76 #[.pointer (some ⟨gx, 0, none⟩)] w (Ret fun v w' => v = .tuple #[] ∧ St B w0 w' (row 69 gx #[.int .u16 (se.1 : Int), .int .u32 (se.2 : Int), .int .u32 (sn.r : Int), .int .u16 (sn.w.1 : Int), .int .u32 (sn.w.2 : Int), .int .u32 (bl.r : Int), .int .u16 (bl.w.1 : Int), .int .u32 (bl.w.2 : Int), .int .i64 0, .slice la ld.length lc, .int .u64 (sl : Int), .bool false, .int .u32 0, .int .u16 0, .int .u32 0, .int .i64 0, .int .u16 0, .int .u32 0, .int .u64 0, .int .u64 0, .slice none 0 0, .int .u64 0, .slice none 0 0, .slice none 0 0, .slice none 0 0, .slice aa an.length ac] :: L)) := by
  go_enter Try.func76, Try.ntmps76
  go_wp2_with (first | (go_at_call 108; (with_reducible refine (rclear_ok gx se sn bl 0 la lc ld sl hs un c hd aa ac an _ H).mono ?_); rintro e w1 ⟨v, rfl, hr⟩; obtain ⟨rfl, H2⟩ := hr; clear H; have H := H2; clear H2) | (with_reducible refine wpl rfl (Stp.stc rfl size3 rfl rfl rfl rfl H uP (by first | omega | (simp; done) | (simp; omega)) ?_); clear H; intro w1 H; simp only [pS]; simp only [pE, nC, pS] at H))
  go_end0
  exact ⟨_, rfl, rfl, H.sub sU⟩
theorem rmove_ok {B : Nat} {w0 : World} {L : List Res} (gx : Nat) (se : Pr) (sn bl : Bl) (ph : Int) (la : Option Addr) (lc : Nat) (ld : List Pr) (sl : Nat) (hs : Bool) (un : Bl) (c : Cm) (hd : Hd) (aa : Option Addr) (ac : Nat) (an : List Pr) (s : Nat) (w : World) (H : St B w0 w (row 69 gx #[.int .u16 (se.1 : Int), .int .u32 (se.2 : Int), .int .u32 (sn.r : Int), .int .u16 (sn.w.1 : Int), .int .u32 (sn.w.2 : Int), .int .u32 (bl.r : Int), .int .u16 (bl.w.1 : Int), .int .u32 (bl.w.2 : Int), .int .i64 ph, .slice la ld.length lc, .int .u64 (sl : Int), .bool hs, .int .u32 (un.r : Int), .int .u16 (un.w.1 : Int), .int .u32 (un.w.2 : Int), .int .i64 c.kind, .int .u16 (c.fr.1 : Int), .int .u32 (c.fr.2 : Int), .int .u64 (c.num : Int), .int .u64 (c.vw : Int), .slice hd.ba c.data.length hd.bc, .int .u64 (c.v.id : Int), .slice hd.ma c.v.mem.length hd.mc, .slice hd.la c.v.lvs.length hd.lc, .slice hd.da c.v.ldr.length hd.dc, .slice aa an.length ac] :: L)) :
    Calls Try.prog 75 #[.pointer (some ⟨gx, 0, none⟩), .int .u64 (s : Int)] w (Ret fun v w' => ∃ e : Bool, v = .bool e ∧ (if e = true then St B w0 w' (row 69 gx #[.int .u16 (se.1 : Int), .int .u32 (se.2 : Int), .int .u32 (sn.r : Int), .int .u16 (sn.w.1 : Int), .int .u32 (sn.w.2 : Int), .int .u32 (bl.r : Int), .int .u16 (bl.w.1 : Int), .int .u32 (bl.w.2 : Int), .int .i64 0, .slice la ld.length lc, .int .u64 (sl : Int), .bool false, .int .u32 0, .int .u16 0, .int .u32 0, .int .i64 0, .int .u16 0, .int .u32 0, .int .u64 0, .int .u64 0, .slice none 0 0, .int .u64 0, .slice none 0 0, .slice none 0 0, .slice none 0 0, .slice aa an.length ac] :: L) else St B w0 w' (row 69 gx #[.int .u16 (se.1 : Int), .int .u32 (se.2 : Int), .int .u32 (sn.r : Int), .int .u16 (sn.w.1 : Int), .int .u32 (sn.w.2 : Int), .int .u32 (bl.r : Int), .int .u16 (bl.w.1 : Int), .int .u32 (bl.w.2 : Int), .int .i64 ph, .slice la ld.length lc, .int .u64 (sl : Int), .bool hs, .int .u32 (un.r : Int), .int .u16 (un.w.1 : Int), .int .u32 (un.w.2 : Int), .int .i64 c.kind, .int .u16 (c.fr.1 : Int), .int .u32 (c.fr.2 : Int), .int .u64 (c.num : Int), .int .u64 (c.vw : Int), .slice hd.ba c.data.length hd.bc, .int .u64 (c.v.id : Int), .slice hd.ma c.v.mem.length hd.mc, .slice hd.la c.v.lvs.length hd.lc, .slice hd.da c.v.ldr.length hd.dc, .slice aa an.length ac] :: L))) := by
  by_cases h0 : ph = 0
  · have hp : (ph == 0) = true := by simpa using h0
    clear h0
    go_enter Try.func75, Try.ntmps75
    go_wp2_with (first | (with_reducible refine wpl rfl (Stp.ldc rfl agg3 rfl H mR cE ?_); simp only [pS]))
    go_ret
    exact ⟨_, rfl, false, rfl, H.sub sU⟩
  · have hp : (ph == 0) = false := by simpa using h0
    clear h0
    by_cases h : s ≤ sl
    · go_enter Try.func75, Try.ntmps75
      go_wp2_with (first | (with_reducible refine wpl rfl (Stp.ldc rfl agg3 rfl H mR cE ?_); simp only [pS]) | (with_reducible refine wpl rfl (Stp.ldc rfl agg22 rfl H mR cE ?_); simp only [pS]))
      go_ret
      exact ⟨_, rfl, false, rfl, H.sub sU⟩
    · have hs' : (s ≤ sl) = False := eq_false h
      clear h
      go_enter Try.func75, Try.ntmps75
      go_wp2_with (first | (go_at_call 76; (with_reducible refine (rstop_ok gx se sn bl ph la lc ld sl hs un c hd aa ac an _ H).mono ?_); rintro e w1 ⟨v, rfl, hr⟩; obtain ⟨rfl, H2⟩ := hr; clear H; have H := H2; clear H2) | (with_reducible refine wpl rfl (Stp.ldc rfl agg3 rfl H mR cE ?_); simp only [pS]) | (with_reducible refine wpl rfl (Stp.ldc rfl agg22 rfl H mR cE ?_); simp only [pS]))
      go_ret
      exact ⟨_, rfl, true, rfl, H.sub sU⟩
theorem rnack_ok {B : Nat} {w0 : World} {L : List Res} (gx : Nat) (se : Pr) (sn bl : Bl) (ph : Int) (la : Option Addr) (lc : Nat) (ld : List Pr) (sl : Nat) (hs : Bool) (un : Bl) (c : Cm) (hd : Hd) (aa : Option Addr) (ac : Nat) (an : List Pr) (kd m1 m2 m3 m5 m6 : Int) (ms : Nat) (mb ma : Bl) (mh : Bool) (mc : Cm) (me : Hd) (mv : Vw) (mx : Hd) (my : Option Addr) (m7 mz : Nat) (w : World) (H : St B w0 w (row 69 gx #[.int .u16 (se.1 : Int), .int .u32 (se.2 : Int), .int .u32 (sn.r : Int), .int .u16 (sn.w.1 : Int), .int .u32 (sn.w.2 : Int), .int .u32 (bl.r : Int), .int .u16 (bl.w.1 : Int), .int .u32 (bl.w.2 : Int), .int .i64 ph, .slice la ld.length lc, .int .u64 (sl : Int), .bool hs, .int .u32 (un.r : Int), .int .u16 (un.w.1 : Int), .int .u32 (un.w.2 : Int), .int .i64 c.kind, .int .u16 (c.fr.1 : Int), .int .u32 (c.fr.2 : Int), .int .u64 (c.num : Int), .int .u64 (c.vw : Int), .slice hd.ba c.data.length hd.bc, .int .u64 (c.v.id : Int), .slice hd.ma c.v.mem.length hd.mc, .slice hd.la c.v.lvs.length hd.lc, .slice hd.da c.v.ldr.length hd.dc, .slice aa an.length ac] :: L)) :
    Calls Try.prog 73 #[.pointer (some ⟨gx, 0, none⟩), .agg #[.int .i64 kd, .int .u16 m1, .int .u32 m2, .int .u64 m3, .int .u64 (ms : Int), .int .u64 m5, .int .i64 m6, .int .u32 (mb.r : Int), .int .u16 (mb.w.1 : Int), .int .u32 (mb.w.2 : Int), .int .u32 (ma.r : Int), .int .u16 (ma.w.1 : Int), .int .u32 (ma.w.2 : Int), .bool mh, .int .i64 mc.kind, .int .u16 (mc.fr.1 : Int), .int .u32 (mc.fr.2 : Int), .int .u64 (mc.num : Int), .int .u64 (mc.vw : Int), .slice me.ba mc.data.length me.bc, .int .u64 (mc.v.id : Int), .slice me.ma mc.v.mem.length me.mc, .slice me.la mc.v.lvs.length me.lc, .slice me.da mc.v.ldr.length me.dc, .int .u64 (mv.id : Int), .slice mx.ma mv.mem.length mx.mc, .slice mx.la mv.lvs.length mx.lc, .slice mx.da mv.ldr.length mx.dc, .slice my m7 mz]] w (Ret fun v w' => ∃ (e : Bool) (s2 : Bl), v = .bool e ∧ (s2 = sn ∨ s2 = mb) ∧ (if e = true then St B w0 w' (row 69 gx #[.int .u16 (se.1 : Int), .int .u32 (se.2 : Int), .int .u32 (s2.r : Int), .int .u16 (s2.w.1 : Int), .int .u32 (s2.w.2 : Int), .int .u32 (bl.r : Int), .int .u16 (bl.w.1 : Int), .int .u32 (bl.w.2 : Int), .int .i64 0, .slice la ld.length lc, .int .u64 (sl : Int), .bool false, .int .u32 0, .int .u16 0, .int .u32 0, .int .i64 0, .int .u16 0, .int .u32 0, .int .u64 0, .int .u64 0, .slice none 0 0, .int .u64 0, .slice none 0 0, .slice none 0 0, .slice none 0 0, .slice aa an.length ac] :: L) else St B w0 w' (row 69 gx #[.int .u16 (se.1 : Int), .int .u32 (se.2 : Int), .int .u32 (sn.r : Int), .int .u16 (sn.w.1 : Int), .int .u32 (sn.w.2 : Int), .int .u32 (bl.r : Int), .int .u16 (bl.w.1 : Int), .int .u32 (bl.w.2 : Int), .int .i64 ph, .slice la ld.length lc, .int .u64 (sl : Int), .bool hs, .int .u32 (un.r : Int), .int .u16 (un.w.1 : Int), .int .u32 (un.w.2 : Int), .int .i64 c.kind, .int .u16 (c.fr.1 : Int), .int .u32 (c.fr.2 : Int), .int .u64 (c.num : Int), .int .u64 (c.vw : Int), .slice hd.ba c.data.length hd.bc, .int .u64 (c.v.id : Int), .slice hd.ma c.v.mem.length hd.mc, .slice hd.la c.v.lvs.length hd.lc, .slice hd.da c.v.ldr.length hd.dc, .slice aa an.length ac] :: L))) := by
  by_cases h1 : ph = 0
  · have HP : Hid ((ph == 0) = true) := Lib.hid (by simp [h1])
    have HK : Hid True := Lib.hid trivial
    clear h1
    go_enter Try.func73, Try.ntmps73
    go_wp2_with (first | (with_reducible refine wpl rfl (Stp.box 3 rfl rfl rfl H ?_); clear H; intro g3 w1 H; simp only [pS]; simp only [pE, nC, pS] at H))
    refine rg_begin 20 rfl (S := fun W => St _ _ W (row 74 g3 #[.int .i64 kd, .int .u16 m1, .int .u32 m2, .int .u64 m3, .int .u64 (ms : Int), .int .u64 m5, .int .i64 m6, .int .u32 (mb.r : Int), .int .u16 (mb.w.1 : Int), .int .u32 (mb.w.2 : Int), .int .u32 (ma.r : Int), .int .u16 (ma.w.1 : Int), .int .u32 (ma.w.2 : Int), .bool mh, .int .i64 mc.kind, .int .u16 (mc.fr.1 : Int), .int .u32 (mc.fr.2 : Int), .int .u64 (mc.num : Int), .int .u64 (mc.vw : Int), .slice me.ba mc.data.length me.bc, .int .u64 (mc.v.id : Int), .slice me.ma mc.v.mem.length me.mc, .slice me.la mc.v.lvs.length me.lc, .slice me.da mc.v.ldr.length me.dc, .int .u64 (mv.id : Int), .slice mx.ma mv.mem.length mx.mc, .slice mx.la mv.lvs.length mx.lc, .slice mx.da mv.ldr.length mx.dc, .slice my m7 mz] :: row 69 gx #[.int .u16 (se.1 : Int), .int .u32 (se.2 : Int), .int .u32 (sn.r : Int), .int .u16 (sn.w.1 : Int), .int .u32 (sn.w.2 : Int), .int .u32 (bl.r : Int), .int .u16 (bl.w.1 : Int), .int .u32 (bl.w.2 : Int), .int .i64 ph, .slice la ld.length lc, .int .u64 (sl : Int), .bool hs, .int .u32 (un.r : Int), .int .u16 (un.w.1 : Int), .int .u32 (un.w.2 : Int), .int .i64 c.kind, .int .u16 (c.fr.1 : Int), .int .u32 (c.fr.2 : Int), .int .u64 (c.num : Int), .int .u64 (c.vw : Int), .slice hd.ba c.data.length hd.bc, .int .u64 (c.v.id : Int), .slice hd.ma c.v.mem.length hd.mc, .slice hd.la c.v.lvs.length hd.lc, .slice hd.da c.v.ldr.length hd.dc, .slice aa an.length ac] :: [])) (by kernel_rfl) (H.drew.sub sU) ?_
    replace H := H.drew
    have HS := H
    refine rg_take (i := 0) rfl kR kR kR (Yld.move rfl rfl) (H.sub sU) ?_; simp only [pS, pE]
    refine rg_take (i := 1) rfl kR kR kR (Yld.o rfl) (H.sub sU) ?_; simp only [pS]
    refine rg_take (i := 2) rfl kR kR kR (Yld.o rfl) (H.sub sU) ?_; simp only [pS]
    first | (refine rg_take (i := 3) rfl kR kR kR (Yld.ldc rfl rfl agg3 rfl mR cE) (H.sub sU) ?_; simp only [pS]) | (refine rg_take (i := 3) rfl kR kR kR (Yld.ldo rfl rfl agg3 rfl (by assumption) (by assumption)) (H.sub sU) ?_; simp only [pS])
    refine rg_take (i := 4) rfl kR kR kR (Yld.of (v := .bool true) rfl (fun W _ => by go_simp; first | done | exact HP.out | (rw [HP.out]) | (simpa using HP.out))) (H.sub sU) ?_; simp only [pS, pE]
    refine rg_take (i := 5) rfl kR kR kR (Yld.move rfl rfl) (H.sub sU) ?_; simp only [pS, pE]
    refine rg_take (i := 6) rfl kR kR kR (Yld.skip rfl) (H.sub sU) ?_; simp only [pS]
    refine rg_take (i := 7) rfl kR kR kR (Yld.skip rfl) (H.sub sU) ?_; simp only [pS]
    refine rg_take (i := 8) rfl kR kR kR (Yld.skip rfl) (H.sub sU) ?_; simp only [pS]
    refine rg_take (i := 9) rfl kR kR kR (Yld.pick rfl rfl rfl) (H.sub sU) ?_; simp only [pS, pE]
    refine rg_take (i := 10) rfl kR kR kR (Yld.move rfl rfl) (H.sub sU) ?_; simp only [pS, pE]
    refine rg_take (i := 11) rfl kR kR kR (Yld.skip rfl) (H.sub sU) ?_; simp only [pS]
    refine rg_take (i := 12) rfl kR kR kR (Yld.skip rfl) (H.sub sU) ?_; simp only [pS]
    refine rg_take (i := 13) rfl kR kR kR (Yld.skip rfl) (H.sub sU) ?_; simp only [pS]
    refine rg_take (i := 14) rfl kR kR kR (Yld.skip rfl) (H.sub sU) ?_; simp only [pS]
    refine rg_take (i := 15) rfl kR kR kR (Yld.skip rfl) (H.sub sU) ?_; simp only [pS]
    refine rg_take (i := 16) rfl kR kR kR (Yld.skip rfl) (H.sub sU) ?_; simp only [pS]
    refine rg_take (i := 17) rfl kR kR kR (Yld.skip rfl) (H.sub sU) ?_; simp only [pS]
    refine rg_take (i := 18) rfl kR kR kR (Yld.skip rfl) (H.sub sU) ?_; simp only [pS]
    refine rg_take (i := 19) rfl kR kR kR (Yld.pick rfl rfl rfl) (H.sub sU) ?_; simp only [pS, pE]
    refine rg_done (by kernel_rfl) ?_
    go_wp2_with fail
    go_ret
    exact ⟨_, rfl, false, sn, rfl, .inl rfl, H.sub sU⟩
  · have HP : Hid ((ph == 0) = false) := Lib.hid (by simp [h1])
    by_cases h2 : kd = 8
    · have HK : Hid ((kd != 8) = false) := Lib.hid (by simp [h2])
      clear h1 h2
      cases h3 : blt bl mb
      · have HBF := Lib.hid h3
        clear h3
        go_enter Try.func73, Try.ntmps73
        go_wp2_with (first | (with_reducible refine wpl rfl (Stp.box 3 rfl rfl rfl H ?_); clear H; intro g3 w1 H; simp only [pS]; simp only [pE, nC, pS] at H))
        refine rg_begin 20 rfl (S := fun W => St _ _ W (row 74 g3 #[.int .i64 kd, .int .u16 m1, .int .u32 m2, .int .u64 m3, .int .u64 (ms : Int), .int .u64 m5, .int .i64 m6, .int .u32 (mb.r : Int), .int .u16 (mb.w.1 : Int), .int .u32 (mb.w.2 : Int), .int .u32 (ma.r : Int), .int .u16 (ma.w.1 : Int), .int .u32 (ma.w.2 : Int), .bool mh, .int .i64 mc.kind, .int .u16 (mc.fr.1 : Int), .int .u32 (mc.fr.2 : Int), .int .u64 (mc.num : Int), .int .u64 (mc.vw : Int), .slice me.ba mc.data.length me.bc, .int .u64 (mc.v.id : Int), .slice me.ma mc.v.mem.length me.mc, .slice me.la mc.v.lvs.length me.lc, .slice me.da mc.v.ldr.length me.dc, .int .u64 (mv.id : Int), .slice mx.ma mv.mem.length mx.mc, .slice mx.la mv.lvs.length mx.lc, .slice mx.da mv.ldr.length mx.dc, .slice my m7 mz] :: row 69 gx #[.int .u16 (se.1 : Int), .int .u32 (se.2 : Int), .int .u32 (sn.r : Int), .int .u16 (sn.w.1 : Int), .int .u32 (sn.w.2 : Int), .int .u32 (bl.r : Int), .int .u16 (bl.w.1 : Int), .int .u32 (bl.w.2 : Int), .int .i64 ph, .slice la ld.length lc, .int .u64 (sl : Int), .bool hs, .int .u32 (un.r : Int), .int .u16 (un.w.1 : Int), .int .u32 (un.w.2 : Int), .int .i64 c.kind, .int .u16 (c.fr.1 : Int), .int .u32 (c.fr.2 : Int), .int .u64 (c.num : Int), .int .u64 (c.vw : Int), .slice hd.ba c.data.length hd.bc, .int .u64 (c.v.id : Int), .slice hd.ma c.v.mem.length hd.mc, .slice hd.la c.v.lvs.length hd.lc, .slice hd.da c.v.ldr.length hd.dc, .slice aa an.length ac] :: [])) (by kernel_rfl) (H.drew.sub sU) ?_
        replace H := H.drew
        have HS := H
        refine rg_take (i := 0) rfl kR kR kR (Yld.move rfl rfl) (H.sub sU) ?_; simp only [pS, pE]
        refine rg_take (i := 1) rfl kR kR kR (Yld.o rfl) (H.sub sU) ?_; simp only [pS]
        refine rg_take (i := 2) rfl kR kR kR (Yld.o rfl) (H.sub sU) ?_; simp only [pS]
        first | (refine rg_take (i := 3) rfl kR kR kR (Yld.ldc rfl rfl agg3 rfl mR cE) (H.sub sU) ?_; simp only [pS]) | (refine rg_take (i := 3) rfl kR kR kR (Yld.ldo rfl rfl agg3 rfl (by assumption) (by assumption)) (H.sub sU) ?_; simp only [pS])
        refine rg_take (i := 4) rfl kR kR kR (Yld.of (v := .bool false) rfl (fun W _ => by go_simp; first | done | exact HP.out | (rw [HP.out]) | (simpa using HP.out))) (H.sub sU) ?_; simp only [pS, pE]
        refine rg_take (i := 5) rfl kR kR kR (Yld.move rfl rfl) (H.sub sU) ?_; simp only [pS, pE]
        refine rg_take (i := 6) rfl kR kR kR (Yld.o rfl) (H.sub sU) ?_; simp only [pS]
        first | (refine rg_take (i := 7) rfl kR kR kR (Yld.ldc rfl rfl agg3 rfl mR cE) (H.sub sU) ?_; simp only [pS]) | (refine rg_take (i := 7) rfl kR kR kR (Yld.ldo rfl rfl agg3 rfl (by assumption) (by assumption)) (H.sub sU) ?_; simp only [pS])
        refine rg_take (i := 8) rfl kR kR kR (Yld.of (v := .bool false) rfl (fun W _ => by go_simp; first | done | exact HK.out | (rw [HK.out]) | (simpa using HK.out))) (H.sub sU) ?_; simp only [pS, pE]
        refine rg_take (i := 9) rfl kR kR kR (Yld.pick rfl rfl rfl) (H.sub sU) ?_; simp only [pS, pE]
        refine rg_take (i := 10) rfl kR kR kR (Yld.move rfl rfl) (H.sub sU) ?_; simp only [pS, pE]
        refine rg_take (i := 11) rfl kR kR kR (Yld.move rfl rfl) (H.sub sU) ?_; simp only [pS, pE]
        refine rg_take (i := 12) rfl kR kR kR (Yld.o rfl) (H.sub sU) ?_; simp only [pS]
        refine rg_take (i := 13) rfl kR kR kR (Yld.o rfl) (H.sub sU) ?_; simp only [pS]
        first | (refine rg_take (i := 14) rfl kR kR kR (Yld.ldr rfl rfl agg67 size67 rfl mR sZ) (H.sub sU) ?_; simp only [pS]) | (refine rg_take (i := 14) rfl kR kR kR (Yld.ldl rfl rfl agg67 size67 rfl mR (by simp)) (H.sub sU) ?_; simp only [pS]; simp only [List.drop_succ_cons, List.drop_zero, List.take_succ_cons, List.take_zero]) | (refine rg_take (i := 14) rfl kR kR kR (Yld.ldor rfl rfl agg67 size67 rfl (by assumption) sZ (by assumption)) (H.sub sU) ?_; simp only [pS])
        refine rg_take (i := 15) rfl kR kR kR (Yld.o rfl) (H.sub sU) ?_; simp only [pS]
        first | (refine rg_take (i := 16) rfl kR kR kR (Yld.ldr rfl rfl agg67 size67 rfl mR sZ) (H.sub sU) ?_; simp only [pS]) | (refine rg_take (i := 16) rfl kR kR kR (Yld.ldl rfl rfl agg67 size67 rfl mR (by simp)) (H.sub sU) ?_; simp only [pS]; simp only [List.drop_succ_cons, List.drop_zero, List.take_succ_cons, List.take_zero]) | (refine rg_take (i := 16) rfl kR kR kR (Yld.ldor rfl rfl agg67 size67 rfl (by assumption) sZ (by assumption)) (H.sub sU) ?_; simp only [pS])
        refine rg_one (i := 17) (by kernel_rfl) rfl rfl (fun K hK => ?_)
        refine wp_callf rfl ent33 (rbefore_ok bl mb false HBF.out _) rfl (fun v w1 hr => ?_)
        obtain ⟨rfl, hb1⟩ := hr
        replace H := H.grow hb1
        clear hb1
        clear HS
        have HS := H
        refine hK.out _ _ (H.sub sU) ?_
        clear hK K
        simp only [pS]
        refine rg_take (i := 18) rfl kR kR kR (Yld.o rfl) (H.sub sU) ?_; simp only [pS]
        refine rg_take (i := 19) rfl kR kR kR (Yld.pick rfl rfl rfl) (H.sub sU) ?_; simp only [pS, pE]
        refine rg_done (by kernel_rfl) ?_
        go_wp2_with fail
        go_ret
        exact ⟨_, rfl, false, sn, rfl, .inl rfl, H.sub sU⟩
      · have HBF := Lib.hid h3
        clear h3
        obtain ⟨e, he⟩ : ∃ e, blt sn mb = e := ⟨_, rfl⟩
        have HSN := Lib.hid he
        clear he
        obtain ⟨s2, hs2⟩ : ∃ s2 : Bl, (if e = true then mb else sn) = s2 := ⟨_, rfl⟩
        have HS2 := Lib.hid hs2
        clear hs2
        go_enter Try.func73, Try.ntmps73
        go_wp2_with (first | (with_reducible refine wpl rfl (Stp.box 3 rfl rfl rfl H ?_); clear H; intro g3 w1 H; simp only [pS]; simp only [pE, nC, pS] at H))
        refine rg_begin 20 rfl (S := fun W => St _ _ W (row 74 g3 #[.int .i64 kd, .int .u16 m1, .int .u32 m2, .int .u64 m3, .int .u64 (ms : Int), .int .u64 m5, .int .i64 m6, .int .u32 (mb.r : Int), .int .u16 (mb.w.1 : Int), .int .u32 (mb.w.2 : Int), .int .u32 (ma.r : Int), .int .u16 (ma.w.1 : Int), .int .u32 (ma.w.2 : Int), .bool mh, .int .i64 mc.kind, .int .u16 (mc.fr.1 : Int), .int .u32 (mc.fr.2 : Int), .int .u64 (mc.num : Int), .int .u64 (mc.vw : Int), .slice me.ba mc.data.length me.bc, .int .u64 (mc.v.id : Int), .slice me.ma mc.v.mem.length me.mc, .slice me.la mc.v.lvs.length me.lc, .slice me.da mc.v.ldr.length me.dc, .int .u64 (mv.id : Int), .slice mx.ma mv.mem.length mx.mc, .slice mx.la mv.lvs.length mx.lc, .slice mx.da mv.ldr.length mx.dc, .slice my m7 mz] :: row 69 gx #[.int .u16 (se.1 : Int), .int .u32 (se.2 : Int), .int .u32 (sn.r : Int), .int .u16 (sn.w.1 : Int), .int .u32 (sn.w.2 : Int), .int .u32 (bl.r : Int), .int .u16 (bl.w.1 : Int), .int .u32 (bl.w.2 : Int), .int .i64 ph, .slice la ld.length lc, .int .u64 (sl : Int), .bool hs, .int .u32 (un.r : Int), .int .u16 (un.w.1 : Int), .int .u32 (un.w.2 : Int), .int .i64 c.kind, .int .u16 (c.fr.1 : Int), .int .u32 (c.fr.2 : Int), .int .u64 (c.num : Int), .int .u64 (c.vw : Int), .slice hd.ba c.data.length hd.bc, .int .u64 (c.v.id : Int), .slice hd.ma c.v.mem.length hd.mc, .slice hd.la c.v.lvs.length hd.lc, .slice hd.da c.v.ldr.length hd.dc, .slice aa an.length ac] :: [])) (by kernel_rfl) (H.drew.sub sU) ?_
        replace H := H.drew
        have HS := H
        refine rg_take (i := 0) rfl kR kR kR (Yld.move rfl rfl) (H.sub sU) ?_; simp only [pS, pE]
        refine rg_take (i := 1) rfl kR kR kR (Yld.o rfl) (H.sub sU) ?_; simp only [pS]
        refine rg_take (i := 2) rfl kR kR kR (Yld.o rfl) (H.sub sU) ?_; simp only [pS]
        first | (refine rg_take (i := 3) rfl kR kR kR (Yld.ldc rfl rfl agg3 rfl mR cE) (H.sub sU) ?_; simp only [pS]) | (refine rg_take (i := 3) rfl kR kR kR (Yld.ldo rfl rfl agg3 rfl (by assumption) (by assumption)) (H.sub sU) ?_; simp only [pS])
        refine rg_take (i := 4) rfl kR kR kR (Yld.of (v := .bool false) rfl (fun W _ => by go_simp; first | done | exact HP.out | (rw [HP.out]) | (simpa using HP.out))) (H.sub sU) ?_; simp only [pS, pE]
        refine rg_take (i := 5) rfl kR kR kR (Yld.move rfl rfl) (H.sub sU) ?_; simp only [pS, pE]
        refine rg_take (i := 6) rfl kR kR kR (Yld.o rfl) (H.sub sU) ?_; simp only [pS]
        first | (refine rg_take (i := 7) rfl kR kR kR (Yld.ldc rfl rfl agg3 rfl mR cE) (H.sub sU) ?_; simp only [pS]) | (refine rg_take (i := 7) rfl kR kR kR (Yld.ldo rfl rfl agg3 rfl (by assumption) (by assumption)) (H.sub sU) ?_; simp only [pS])
        refine rg_take (i := 8) rfl kR kR kR (Yld.of (v := .bool false) rfl (fun W _ => by go_simp; first | done | exact HK.out | (rw [HK.out]) | (simpa using HK.out))) (H.sub sU) ?_; simp only [pS, pE]
        refine rg_take (i := 9) rfl kR kR kR (Yld.pick rfl rfl rfl) (H.sub sU) ?_; simp only [pS, pE]
        refine rg_take (i := 10) rfl kR kR kR (Yld.move rfl rfl) (H.sub sU) ?_; simp only [pS, pE]
        refine rg_take (i := 11) rfl kR kR kR (Yld.move rfl rfl) (H.sub sU) ?_; simp only [pS, pE]
        refine rg_take (i := 12) rfl kR kR kR (Yld.o rfl) (H.sub sU) ?_; simp only [pS]
        refine rg_take (i := 13) rfl kR kR kR (Yld.o rfl) (H.sub sU) ?_; simp only [pS]
        first | (refine rg_take (i := 14) rfl kR kR kR (Yld.ldr rfl rfl agg67 size67 rfl mR sZ) (H.sub sU) ?_; simp only [pS]) | (refine rg_take (i := 14) rfl kR kR kR (Yld.ldl rfl rfl agg67 size67 rfl mR (by simp)) (H.sub sU) ?_; simp only [pS]; simp only [List.drop_succ_cons, List.drop_zero, List.take_succ_cons, List.take_zero]) | (refine rg_take (i := 14) rfl kR kR kR (Yld.ldor rfl rfl agg67 size67 rfl (by assumption) sZ (by assumption)) (H.sub sU) ?_; simp only [pS])
        refine rg_take (i := 15) rfl kR kR kR (Yld.o rfl) (H.sub sU) ?_; simp only [pS]
        first | (refine rg_take (i := 16) rfl kR kR kR (Yld.ldr rfl rfl agg67 size67 rfl mR sZ) (H.sub sU) ?_; simp only [pS]) | (refine rg_take (i := 16) rfl kR kR kR (Yld.ldl rfl rfl agg67 size67 rfl mR (by simp)) (H.sub sU) ?_; simp only [pS]; simp only [List.drop_succ_cons, List.drop_zero, List.take_succ_cons, List.take_zero]) | (refine rg_take (i := 16) rfl kR kR kR (Yld.ldor rfl rfl agg67 size67 rfl (by assumption) sZ (by assumption)) (H.sub sU) ?_; simp only [pS])
        refine rg_one (i := 17) (by kernel_rfl) rfl rfl (fun K hK => ?_)
        refine wp_callf rfl ent33 (rbefore_ok bl mb true HBF.out _) rfl (fun v w1 hr => ?_)
        obtain ⟨rfl, hb1⟩ := hr
        replace H := H.grow hb1
        clear hb1
        clear HS
        have HS := H
        refine hK.out _ _ (H.sub sU) ?_
        clear hK K
        simp only [pS]
        refine rg_take (i := 18) rfl kR kR kR (Yld.o rfl) (H.sub sU) ?_; simp only [pS]
        refine rg_take (i := 19) rfl kR kR kR (Yld.pick rfl rfl rfl) (H.sub sU) ?_; simp only [pS, pE]
        refine rg_done (by kernel_rfl) ?_
        go_wp2_with (first | (go_at_call 74; (with_reducible refine (rsee_ok gx se sn bl ph la lc ld sl hs un c hd aa ac an mb _ HSN.out _ (H.pull (r := row 69 gx #[.int .u16 (se.1 : Int), .int .u32 (se.2 : Int), .int .u32 (sn.r : Int), .int .u16 (sn.w.1 : Int), .int .u32 (sn.w.2 : Int), .int .u32 (bl.r : Int), .int .u16 (bl.w.1 : Int), .int .u32 (bl.w.2 : Int), .int .i64 ph, .slice la ld.length lc, .int .u64 (sl : Int), .bool hs, .int .u32 (un.r : Int), .int .u16 (un.w.1 : Int), .int .u32 (un.w.2 : Int), .int .i64 c.kind, .int .u16 (c.fr.1 : Int), .int .u32 (c.fr.2 : Int), .int .u64 (c.num : Int), .int .u64 (c.vw : Int), .slice hd.ba c.data.length hd.bc, .int .u64 (c.v.id : Int), .slice hd.ma c.v.mem.length hd.mc, .slice hd.la c.v.lvs.length hd.lc, .slice hd.da c.v.ldr.length hd.dc, .slice aa an.length ac]) pU)).mono ?_); rintro e w1 ⟨v, rfl, hr⟩; obtain ⟨rfl, H2⟩ := hr; clear H; have H := H2; clear H2; rw [HS2.out] at H) | (go_at_call 76; (with_reducible refine (rstop_ok gx se s2 bl ph la lc ld sl hs un c hd aa ac an _ (H.pull (r := row 69 gx #[.int .u16 (se.1 : Int), .int .u32 (se.2 : Int), .int .u32 (s2.r : Int), .int .u16 (s2.w.1 : Int), .int .u32 (s2.w.2 : Int), .int .u32 (bl.r : Int), .int .u16 (bl.w.1 : Int), .int .u32 (bl.w.2 : Int), .int .i64 ph, .slice la ld.length lc, .int .u64 (sl : Int), .bool hs, .int .u32 (un.r : Int), .int .u16 (un.w.1 : Int), .int .u32 (un.w.2 : Int), .int .i64 c.kind, .int .u16 (c.fr.1 : Int), .int .u32 (c.fr.2 : Int), .int .u64 (c.num : Int), .int .u64 (c.vw : Int), .slice hd.ba c.data.length hd.bc, .int .u64 (c.v.id : Int), .slice hd.ma c.v.mem.length hd.mc, .slice hd.la c.v.lvs.length hd.lc, .slice hd.da c.v.ldr.length hd.dc, .slice aa an.length ac]) pU)).mono ?_); rintro e w1 ⟨v, rfl, hr⟩; obtain ⟨rfl, H2⟩ := hr; clear H; have H := H2; clear H2) | (with_reducible refine wpl rfl (Stp.ldl rfl agg67 size67 rfl H mR (by simp) ?_); simp only [pS]; simp only [List.drop_succ_cons, List.drop_zero, List.take_succ_cons, List.take_zero]))
        go_ret
        exact ⟨_, rfl, true, s2, rfl, (by rw [← HS2.out]; cases e; exact .inl rfl; exact .inr rfl), H.sub sU⟩
    · have HK : Hid ((kd != 8) = true) := Lib.hid (by simp [h2])
      clear h1 h2
      go_enter Try.func73, Try.ntmps73
      go_wp2_with (first | (with_reducible refine wpl rfl (Stp.box 3 rfl rfl rfl H ?_); clear H; intro g3 w1 H; simp only [pS]; simp only [pE, nC, pS] at H))
      refine rg_begin 20 rfl (S := fun W => St _ _ W (row 74 g3 #[.int .i64 kd, .int .u16 m1, .int .u32 m2, .int .u64 m3, .int .u64 (ms : Int), .int .u64 m5, .int .i64 m6, .int .u32 (mb.r : Int), .int .u16 (mb.w.1 : Int), .int .u32 (mb.w.2 : Int), .int .u32 (ma.r : Int), .int .u16 (ma.w.1 : Int), .int .u32 (ma.w.2 : Int), .bool mh, .int .i64 mc.kind, .int .u16 (mc.fr.1 : Int), .int .u32 (mc.fr.2 : Int), .int .u64 (mc.num : Int), .int .u64 (mc.vw : Int), .slice me.ba mc.data.length me.bc, .int .u64 (mc.v.id : Int), .slice me.ma mc.v.mem.length me.mc, .slice me.la mc.v.lvs.length me.lc, .slice me.da mc.v.ldr.length me.dc, .int .u64 (mv.id : Int), .slice mx.ma mv.mem.length mx.mc, .slice mx.la mv.lvs.length mx.lc, .slice mx.da mv.ldr.length mx.dc, .slice my m7 mz] :: row 69 gx #[.int .u16 (se.1 : Int), .int .u32 (se.2 : Int), .int .u32 (sn.r : Int), .int .u16 (sn.w.1 : Int), .int .u32 (sn.w.2 : Int), .int .u32 (bl.r : Int), .int .u16 (bl.w.1 : Int), .int .u32 (bl.w.2 : Int), .int .i64 ph, .slice la ld.length lc, .int .u64 (sl : Int), .bool hs, .int .u32 (un.r : Int), .int .u16 (un.w.1 : Int), .int .u32 (un.w.2 : Int), .int .i64 c.kind, .int .u16 (c.fr.1 : Int), .int .u32 (c.fr.2 : Int), .int .u64 (c.num : Int), .int .u64 (c.vw : Int), .slice hd.ba c.data.length hd.bc, .int .u64 (c.v.id : Int), .slice hd.ma c.v.mem.length hd.mc, .slice hd.la c.v.lvs.length hd.lc, .slice hd.da c.v.ldr.length hd.dc, .slice aa an.length ac] :: [])) (by kernel_rfl) (H.drew.sub sU) ?_
      replace H := H.drew
      have HS := H
      refine rg_take (i := 0) rfl kR kR kR (Yld.move rfl rfl) (H.sub sU) ?_; simp only [pS, pE]
      refine rg_take (i := 1) rfl kR kR kR (Yld.o rfl) (H.sub sU) ?_; simp only [pS]
      refine rg_take (i := 2) rfl kR kR kR (Yld.o rfl) (H.sub sU) ?_; simp only [pS]
      first | (refine rg_take (i := 3) rfl kR kR kR (Yld.ldc rfl rfl agg3 rfl mR cE) (H.sub sU) ?_; simp only [pS]) | (refine rg_take (i := 3) rfl kR kR kR (Yld.ldo rfl rfl agg3 rfl (by assumption) (by assumption)) (H.sub sU) ?_; simp only [pS])
      refine rg_take (i := 4) rfl kR kR kR (Yld.of (v := .bool false) rfl (fun W _ => by go_simp; first | done | exact HP.out | (rw [HP.out]) | (simpa using HP.out))) (H.sub sU) ?_; simp only [pS, pE]
      refine rg_take (i := 5) rfl kR kR kR (Yld.move rfl rfl) (H.sub sU) ?_; simp only [pS, pE]
      refine rg_take (i := 6) rfl kR kR kR (Yld.o rfl) (H.sub sU) ?_; simp only [pS]
      first | (refine rg_take (i := 7) rfl kR kR kR (Yld.ldc rfl rfl agg3 rfl mR cE) (H.sub sU) ?_; simp only [pS]) | (refine rg_take (i := 7) rfl kR kR kR (Yld.ldo rfl rfl agg3 rfl (by assumption) (by assumption)) (H.sub sU) ?_; simp only [pS])
      refine rg_take (i := 8) rfl kR kR kR (Yld.of (v := .bool true) rfl (fun W _ => by go_simp; first | done | exact HK.out | (rw [HK.out]) | (simpa using HK.out))) (H.sub sU) ?_; simp only [pS, pE]
      refine rg_take (i := 9) rfl kR kR kR (Yld.pick rfl rfl rfl) (H.sub sU) ?_; simp only [pS, pE]
      refine rg_take (i := 10) rfl kR kR kR (Yld.move rfl rfl) (H.sub sU) ?_; simp only [pS, pE]
      refine rg_take (i := 11) rfl kR kR kR (Yld.skip rfl) (H.sub sU) ?_; simp only [pS]
      refine rg_take (i := 12) rfl kR kR kR (Yld.skip rfl) (H.sub sU) ?_; simp only [pS]
      refine rg_take (i := 13) rfl kR kR kR (Yld.skip rfl) (H.sub sU) ?_; simp only [pS]
      refine rg_take (i := 14) rfl kR kR kR (Yld.skip rfl) (H.sub sU) ?_; simp only [pS]
      refine rg_take (i := 15) rfl kR kR kR (Yld.skip rfl) (H.sub sU) ?_; simp only [pS]
      refine rg_take (i := 16) rfl kR kR kR (Yld.skip rfl) (H.sub sU) ?_; simp only [pS]
      refine rg_take (i := 17) rfl kR kR kR (Yld.skip rfl) (H.sub sU) ?_; simp only [pS]
      refine rg_take (i := 18) rfl kR kR kR (Yld.skip rfl) (H.sub sU) ?_; simp only [pS]
      refine rg_take (i := 19) rfl kR kR kR (Yld.pick rfl rfl rfl) (H.sub sU) ?_; simp only [pS, pE]
      refine rg_done (by kernel_rfl) ?_
      go_wp2_with fail
      go_ret
      exact ⟨_, rfl, false, sn, rfl, .inl rfl, H.sub sU⟩
end Go.Proofs.Ytjghcmejmdllbaa
