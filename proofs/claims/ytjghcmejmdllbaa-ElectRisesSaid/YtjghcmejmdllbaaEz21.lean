/- Layer 21's reference: Start, Propose, Promise, Accepted: that they run, and how its Proposer then lies. Layer 21's Proposer (elect) as one resource: what each call makes of it; the bounds live on. -/
import Derived.Test.YtjghcmejmdllbaaEz17
import Derived.Test.YtjghcmejmdllbaaEz20
namespace Go.Proofs.Ytjghcmejmdllbaa
open Go.ChangeShapes Go.WideShapes Go.ChangeAt Go.RowKit Go.Maps Go.Deep
set_option linter.unusedVariables false
set_option linter.unusedSimpArgs false
set_option linter.unusedSectionVars false
set_option maxRecDepth 100000
set_option maxHeartbeats 4000000
attribute [local irreducible] blt vOk atR cErr
theorem rstart_ok {B : Nat} {w0 : World} {L : List Res} {G1 : Nat → Prop} (gx : Nat) (se : Pr) (sn bl : Bl) (ph : Int) (la : Option Addr) (lc : Nat) (ld : List Pr) (sl : Nat) (hs : Bool) (un : Bl) (c : Cm) (hd : Hd) (aa : Option Addr) (ac : Nat) (an : List Pr) (x : Vw) (xa xl xr : Option Addr) (xc xd xe : Nat) (s0 : Nat) (hm : smV x) (hsn : sn.r < 4294967296)
    (hx : Rd B w0 L fun W => VwG G1 W (.slice xa x.mem.length xc) (.slice xl x.lvs.length xd) (.slice xr x.ldr.length xe) x) (w : World) (H : St B w0 w (row 69 gx #[.int .u16 (se.1 : Int), .int .u32 (se.2 : Int), .int .u32 (sn.r : Int), .int .u16 (sn.w.1 : Int), .int .u32 (sn.w.2 : Int), .int .u32 (bl.r : Int), .int .u16 (bl.w.1 : Int), .int .u32 (bl.w.2 : Int), .int .i64 ph, .slice la ld.length lc, .int .u64 (sl : Int), .bool hs, .int .u32 (un.r : Int), .int .u16 (un.w.1 : Int), .int .u32 (un.w.2 : Int), .int .i64 c.kind, .int .u16 (c.fr.1 : Int), .int .u32 (c.fr.2 : Int), .int .u64 (c.num : Int), .int .u64 (c.vw : Int), .slice hd.ba c.data.length hd.bc, .int .u64 (c.v.id : Int), .slice hd.ma c.v.mem.length hd.mc, .slice hd.la c.v.lvs.length hd.lc, .slice hd.da c.v.ldr.length hd.dc, .slice aa an.length ac] :: slc 36 2 (.slice aa an.length ac) an.length (pv an) :: L)) :
    Calls Try.prog 70 #[.pointer (some ⟨gx, 0, none⟩), .agg #[.int .u64 (x.id : Int), .slice xa x.mem.length xc, .slice xl x.lvs.length xd, .slice xr x.ldr.length xe], .int .u64 (s0 : Int)] w (Ret fun v w' => ∃ (b : Bl) (i : Int), v = .tuple #[.agg #[.int .u32 (b.r : Int), .int .u16 (b.w.1 : Int), .int .u32 (b.w.2 : Int)], .int .i64 i] ∧ (St B w0 w' (row 69 gx #[.int .u16 (se.1 : Int), .int .u32 (se.2 : Int), .int .u32 (sn.r : Int), .int .u16 (sn.w.1 : Int), .int .u32 (sn.w.2 : Int), .int .u32 (bl.r : Int), .int .u16 (bl.w.1 : Int), .int .u32 (bl.w.2 : Int), .int .i64 ph, .slice la ld.length lc, .int .u64 (sl : Int), .bool hs, .int .u32 (un.r : Int), .int .u16 (un.w.1 : Int), .int .u32 (un.w.2 : Int), .int .i64 c.kind, .int .u16 (c.fr.1 : Int), .int .u32 (c.fr.2 : Int), .int .u64 (c.num : Int), .int .u64 (c.vw : Int), .slice hd.ba c.data.length hd.bc, .int .u64 (c.v.id : Int), .slice hd.ma c.v.mem.length hd.mc, .slice hd.la c.v.lvs.length hd.lc, .slice hd.da c.v.ldr.length hd.dc, .slice aa an.length ac] :: slc 36 2 (.slice aa an.length ac) an.length (pv an) :: L) ∨ sn.r < 4294967295 ∧ St B w0 w' (row 69 gx #[.int .u16 (se.1 : Int), .int .u32 (se.2 : Int), .int .u32 ((⟨sn.r + 1, se⟩ : Bl).r : Int), .int .u16 ((⟨sn.r + 1, se⟩ : Bl).w.1 : Int), .int .u32 ((⟨sn.r + 1, se⟩ : Bl).w.2 : Int), .int .u32 ((⟨sn.r + 1, se⟩ : Bl).r : Int), .int .u16 ((⟨sn.r + 1, se⟩ : Bl).w.1 : Int), .int .u32 ((⟨sn.r + 1, se⟩ : Bl).w.2 : Int), .int .i64 1, .slice xr x.ldr.length xe, .int .u64 (s0 : Int), .bool false, .int .u32 0, .int .u16 0, .int .u32 0, .int .i64 0, .int .u16 0, .int .u32 0, .int .u64 0, .int .u64 0, .slice none 0 0, .int .u64 0, .slice none 0 0, .slice none 0 0, .slice none 0 0, .slice none 0 0] :: slc 36 2 (.slice none 0 0) 0 [] :: L))) := by
  cases hvk : vOk x
  · have HVK := Lib.hid hvk
    clear hvk
    go_enter Try.func70, Try.ntmps70
    go_wp2_with (first | (with_reducible refine wpl rfl (Stp.box 4 rfl rfl rfl H ?_); clear H; intro g4 w1 H; simp only [pS]; simp only [pE, nC, pS] at H) | (with_reducible refine wpl rfl (Stp.alloc 6 rfl rfl zero67 H ?_); clear H; intro g6 w1 H; simp only [pS]; simp only [nC] at H))
    refine rg_begin 13 rfl (S := fun W => St _ _ W (row 26 g4 #[.int .u64 (x.id : Int), .slice xa x.mem.length xc, .slice xl x.lvs.length xd, .slice xr x.ldr.length xe] :: row 69 gx #[.int .u16 (se.1 : Int), .int .u32 (se.2 : Int), .int .u32 (sn.r : Int), .int .u16 (sn.w.1 : Int), .int .u32 (sn.w.2 : Int), .int .u32 (bl.r : Int), .int .u16 (bl.w.1 : Int), .int .u32 (bl.w.2 : Int), .int .i64 ph, .slice la ld.length lc, .int .u64 (sl : Int), .bool hs, .int .u32 (un.r : Int), .int .u16 (un.w.1 : Int), .int .u32 (un.w.2 : Int), .int .i64 c.kind, .int .u16 (c.fr.1 : Int), .int .u32 (c.fr.2 : Int), .int .u64 (c.num : Int), .int .u64 (c.vw : Int), .slice hd.ba c.data.length hd.bc, .int .u64 (c.v.id : Int), .slice hd.ma c.v.mem.length hd.mc, .slice hd.la c.v.lvs.length hd.lc, .slice hd.da c.v.ldr.length hd.dc, .slice aa an.length ac] :: L)) (by kernel_rfl) (H.drew.sub sU) ?_
    replace H := H.drew
    have HS := H
    first | (refine rg_take (i := 0) rfl kR kR kR (Yld.ldr rfl rfl agg26 size26 rfl mR sZ) (H.sub sU) ?_; simp only [pS]) | (refine rg_take (i := 0) rfl kR kR kR (Yld.ldl rfl rfl agg26 size26 rfl mR (by simp)) (H.sub sU) ?_; simp only [pS]; simp only [List.drop_succ_cons, List.drop_zero, List.take_succ_cons, List.take_zero]) | (refine rg_take (i := 0) rfl kR kR kR (Yld.ldor rfl rfl agg26 size26 rfl (by assumption) sZ (by assumption)) (H.sub sU) ?_; simp only [pS])
    refine rg_one (i := 1) (by kernel_rfl) rfl rfl (fun K hK => ?_)
    refine wp_callf rfl ent105 (rvcheck_is x xa xl xr xc xd xe hm _ false HVK.out (hx.at H (by repeat (first | exact List.Sublist.refl _ | apply List.Sublist.cons)))) rfl (fun v w1 hr => ?_)
    obtain ⟨rfl, hb1⟩ := hr
    replace H := H.grow hb1
    clear hb1
    clear HS
    have HS := H
    refine hK.out _ _ (H.sub sU) ?_
    clear hK K
    simp only [pS]
    refine rg_take (i := 2) rfl kR kR kR (Yld.o rfl) (H.sub sU) ?_; simp only [pS]
    refine rg_take (i := 3) rfl kR kR kR (Yld.move rfl rfl) (H.sub sU) ?_; simp only [pS, pE]
    refine rg_take (i := 4) rfl kR kR kR (Yld.skip rfl) (H.sub sU) ?_; simp only [pS]
    refine rg_take (i := 5) rfl kR kR kR (Yld.skip rfl) (H.sub sU) ?_; simp only [pS]
    refine rg_take (i := 6) rfl kR kR kR (Yld.skip rfl) (H.sub sU) ?_; simp only [pS]
    refine rg_take (i := 7) rfl kR kR kR (Yld.skip rfl) (H.sub sU) ?_; simp only [pS]
    refine rg_take (i := 8) rfl kR kR kR (Yld.skip rfl) (H.sub sU) ?_; simp only [pS]
    refine rg_take (i := 9) rfl kR kR kR (Yld.skip rfl) (H.sub sU) ?_; simp only [pS]
    refine rg_take (i := 10) rfl kR kR kR (Yld.skip rfl) (H.sub sU) ?_; simp only [pS]
    refine rg_take (i := 11) rfl kR kR kR (Yld.skip rfl) (H.sub sU) ?_; simp only [pS]
    refine rg_take (i := 12) rfl kR kR kR (Yld.pick rfl rfl rfl) (H.sub sU) ?_; simp only [pS, pE]
    refine rg_done (by kernel_rfl) ?_
    go_wp2_with (first | (with_reducible refine wpl rfl (Stp.build (v := (.agg #[.int .u32 0, .int .u16 0, .int .u32 0])) 22 rfl rfl (fun W => by kernel_rfl) ?_); simp only [pS]) | (with_reducible refine wpl rfl (Stp.str rfl size67 rfl rfl (by first | rfl | (simp [Value.oneCell']; done) | assumption) H uP sZ sZ ?_); clear H; intro w1 H; simp only [pS]))
    refine post_row2 rfl agg67 size67 rfl H mE rfl rfl ⟨_, rfl, bl0, 1, rfl, .inl (H.sub sU)⟩
  · have HVK := Lib.hid hvk
    clear hvk
    obtain ⟨z, hz⟩ : ∃ z, atR x.ldr se = z := ⟨_, rfl⟩
    have HAT := Lib.hid hz
    clear hz
    by_cases hz0 : z < 0
    · have HZ : Hid (decide (z < 0) = true) := Lib.hid (decide_eq_true hz0)
      clear hz0
      go_enter Try.func70, Try.ntmps70
      go_wp2_with (first | (with_reducible refine wpl rfl (Stp.box 4 rfl rfl rfl H ?_); clear H; intro g4 w1 H; simp only [pS]; simp only [pE, nC, pS] at H) | (with_reducible refine wpl rfl (Stp.alloc 6 rfl rfl zero67 H ?_); clear H; intro g6 w1 H; simp only [pS]; simp only [nC] at H))
      refine rg_begin 13 rfl (S := fun W => St _ _ W (row 26 g4 #[.int .u64 (x.id : Int), .slice xa x.mem.length xc, .slice xl x.lvs.length xd, .slice xr x.ldr.length xe] :: row 69 gx #[.int .u16 (se.1 : Int), .int .u32 (se.2 : Int), .int .u32 (sn.r : Int), .int .u16 (sn.w.1 : Int), .int .u32 (sn.w.2 : Int), .int .u32 (bl.r : Int), .int .u16 (bl.w.1 : Int), .int .u32 (bl.w.2 : Int), .int .i64 ph, .slice la ld.length lc, .int .u64 (sl : Int), .bool hs, .int .u32 (un.r : Int), .int .u16 (un.w.1 : Int), .int .u32 (un.w.2 : Int), .int .i64 c.kind, .int .u16 (c.fr.1 : Int), .int .u32 (c.fr.2 : Int), .int .u64 (c.num : Int), .int .u64 (c.vw : Int), .slice hd.ba c.data.length hd.bc, .int .u64 (c.v.id : Int), .slice hd.ma c.v.mem.length hd.mc, .slice hd.la c.v.lvs.length hd.lc, .slice hd.da c.v.ldr.length hd.dc, .slice aa an.length ac] :: L)) (by kernel_rfl) (H.drew.sub sU) ?_
      replace H := H.drew
      have HS := H
      first | (refine rg_take (i := 0) rfl kR kR kR (Yld.ldr rfl rfl agg26 size26 rfl mR sZ) (H.sub sU) ?_; simp only [pS]) | (refine rg_take (i := 0) rfl kR kR kR (Yld.ldl rfl rfl agg26 size26 rfl mR (by simp)) (H.sub sU) ?_; simp only [pS]; simp only [List.drop_succ_cons, List.drop_zero, List.take_succ_cons, List.take_zero]) | (refine rg_take (i := 0) rfl kR kR kR (Yld.ldor rfl rfl agg26 size26 rfl (by assumption) sZ (by assumption)) (H.sub sU) ?_; simp only [pS])
      refine rg_one (i := 1) (by kernel_rfl) rfl rfl (fun K hK => ?_)
      refine wp_callf rfl ent105 (rvcheck_is x xa xl xr xc xd xe hm _ true HVK.out (hx.at H (by repeat (first | exact List.Sublist.refl _ | apply List.Sublist.cons)))) rfl (fun v w1 hr => ?_)
      obtain ⟨rfl, hb1⟩ := hr
      replace H := H.grow hb1
      clear hb1
      clear HS
      have HS := H
      refine hK.out _ _ (H.sub sU) ?_
      clear hK K
      simp only [pS]
      refine rg_take (i := 2) rfl kR kR kR (Yld.o rfl) (H.sub sU) ?_; simp only [pS]
      refine rg_take (i := 3) rfl kR kR kR (Yld.move rfl rfl) (H.sub sU) ?_; simp only [pS, pE]
      refine rg_take (i := 4) rfl kR kR kR (Yld.o rfl) (H.sub sU) ?_; simp only [pS]
      first | (refine rg_take (i := 5) rfl kR kR kR (Yld.ldc rfl rfl agg23 rfl mR cE) (H.sub sU) ?_; simp only [pS]) | (refine rg_take (i := 5) rfl kR kR kR (Yld.ldo rfl rfl agg23 rfl (by assumption) (by assumption)) (H.sub sU) ?_; simp only [pS])
      refine rg_take (i := 6) rfl kR kR kR (Yld.move rfl rfl) (H.sub sU) ?_; simp only [pS, pE]
      refine rg_take (i := 7) rfl kR kR kR (Yld.o rfl) (H.sub sU) ?_; simp only [pS]
      refine rg_take (i := 8) rfl kR kR kR (Yld.o rfl) (H.sub sU) ?_; simp only [pS]
      first | (refine rg_take (i := 9) rfl kR kR kR (Yld.ldr rfl rfl agg36 size36 rfl mR sZ) (H.sub sU) ?_; simp only [pS]) | (refine rg_take (i := 9) rfl kR kR kR (Yld.ldl rfl rfl agg36 size36 rfl mR (by simp)) (H.sub sU) ?_; simp only [pS]; simp only [List.drop_succ_cons, List.drop_zero, List.take_succ_cons, List.take_zero]) | (refine rg_take (i := 9) rfl kR kR kR (Yld.ldor rfl rfl agg36 size36 rfl (by assumption) sZ (by assumption)) (H.sub sU) ?_; simp only [pS])
      refine rg_one (i := 10) (by kernel_rfl) rfl rfl (fun K hK => ?_)
      refine wp_callf rfl ent65 (rat_is (.slice xr x.ldr.length xe) x.ldr se _ ((hx.at H (by repeat (first | exact List.Sublist.refl _ | apply List.Sublist.cons))).ldrS.sl)) rfl (fun v w1 hr => ?_)
      obtain ⟨rfl, hb1⟩ := hr
      replace H := H.grow hb1
      clear hb1
      rw [HAT.out]
      clear HS
      have HS := H
      refine hK.out _ _ (H.sub sU) ?_
      clear hK K
      simp only [pS]
      refine rg_take (i := 11) rfl kR kR kR (Yld.of (v := .bool true) rfl (fun W _ => by go_simp; first | done | exact HZ.out | (rw [HZ.out]) | (simpa using HZ.out))) (H.sub sU) ?_; simp only [pS, pE]
      refine rg_take (i := 12) rfl kR kR kR (Yld.pick rfl rfl rfl) (H.sub sU) ?_; simp only [pS, pE]
      refine rg_done (by kernel_rfl) ?_
      go_wp2_with (first | (with_reducible refine wpl rfl (Stp.build (v := (.agg #[.int .u32 0, .int .u16 0, .int .u32 0])) 22 rfl rfl (fun W => by kernel_rfl) ?_); simp only [pS]) | (with_reducible refine wpl rfl (Stp.str rfl size67 rfl rfl (by first | rfl | (simp [Value.oneCell']; done) | assumption) H uP sZ sZ ?_); clear H; intro w1 H; simp only [pS]))
      refine post_row2 rfl agg67 size67 rfl H mE rfl rfl ⟨_, rfl, bl0, 1, rfl, .inl (H.sub sU)⟩
    · have HZ : Hid (decide (z < 0) = false) := Lib.hid (decide_eq_false hz0)
      clear hz0
      by_cases h2 : sn.r = 4294967295
      · have hb : ((sn.r : Int) == 4294967295) = true := by simp; omega
        clear h2
        go_enter Try.func70, Try.ntmps70
        go_wp2_with (first | (with_reducible refine wpl rfl (Stp.box 4 rfl rfl rfl H ?_); clear H; intro g4 w1 H; simp only [pS]; simp only [pE, nC, pS] at H) | (with_reducible refine wpl rfl (Stp.alloc 6 rfl rfl zero67 H ?_); clear H; intro g6 w1 H; simp only [pS]; simp only [nC] at H))
        refine rg_begin 13 rfl (S := fun W => St _ _ W (row 26 g4 #[.int .u64 (x.id : Int), .slice xa x.mem.length xc, .slice xl x.lvs.length xd, .slice xr x.ldr.length xe] :: row 69 gx #[.int .u16 (se.1 : Int), .int .u32 (se.2 : Int), .int .u32 (sn.r : Int), .int .u16 (sn.w.1 : Int), .int .u32 (sn.w.2 : Int), .int .u32 (bl.r : Int), .int .u16 (bl.w.1 : Int), .int .u32 (bl.w.2 : Int), .int .i64 ph, .slice la ld.length lc, .int .u64 (sl : Int), .bool hs, .int .u32 (un.r : Int), .int .u16 (un.w.1 : Int), .int .u32 (un.w.2 : Int), .int .i64 c.kind, .int .u16 (c.fr.1 : Int), .int .u32 (c.fr.2 : Int), .int .u64 (c.num : Int), .int .u64 (c.vw : Int), .slice hd.ba c.data.length hd.bc, .int .u64 (c.v.id : Int), .slice hd.ma c.v.mem.length hd.mc, .slice hd.la c.v.lvs.length hd.lc, .slice hd.da c.v.ldr.length hd.dc, .slice aa an.length ac] :: L)) (by kernel_rfl) (H.drew.sub sU) ?_
        replace H := H.drew
        have HS := H
        first | (refine rg_take (i := 0) rfl kR kR kR (Yld.ldr rfl rfl agg26 size26 rfl mR sZ) (H.sub sU) ?_; simp only [pS]) | (refine rg_take (i := 0) rfl kR kR kR (Yld.ldl rfl rfl agg26 size26 rfl mR (by simp)) (H.sub sU) ?_; simp only [pS]; simp only [List.drop_succ_cons, List.drop_zero, List.take_succ_cons, List.take_zero]) | (refine rg_take (i := 0) rfl kR kR kR (Yld.ldor rfl rfl agg26 size26 rfl (by assumption) sZ (by assumption)) (H.sub sU) ?_; simp only [pS])
        refine rg_one (i := 1) (by kernel_rfl) rfl rfl (fun K hK => ?_)
        refine wp_callf rfl ent105 (rvcheck_is x xa xl xr xc xd xe hm _ true HVK.out (hx.at H (by repeat (first | exact List.Sublist.refl _ | apply List.Sublist.cons)))) rfl (fun v w1 hr => ?_)
        obtain ⟨rfl, hb1⟩ := hr
        replace H := H.grow hb1
        clear hb1
        clear HS
        have HS := H
        refine hK.out _ _ (H.sub sU) ?_
        clear hK K
        simp only [pS]
        refine rg_take (i := 2) rfl kR kR kR (Yld.o rfl) (H.sub sU) ?_; simp only [pS]
        refine rg_take (i := 3) rfl kR kR kR (Yld.move rfl rfl) (H.sub sU) ?_; simp only [pS, pE]
        refine rg_take (i := 4) rfl kR kR kR (Yld.o rfl) (H.sub sU) ?_; simp only [pS]
        first | (refine rg_take (i := 5) rfl kR kR kR (Yld.ldc rfl rfl agg23 rfl mR cE) (H.sub sU) ?_; simp only [pS]) | (refine rg_take (i := 5) rfl kR kR kR (Yld.ldo rfl rfl agg23 rfl (by assumption) (by assumption)) (H.sub sU) ?_; simp only [pS])
        refine rg_take (i := 6) rfl kR kR kR (Yld.move rfl rfl) (H.sub sU) ?_; simp only [pS, pE]
        refine rg_take (i := 7) rfl kR kR kR (Yld.o rfl) (H.sub sU) ?_; simp only [pS]
        refine rg_take (i := 8) rfl kR kR kR (Yld.o rfl) (H.sub sU) ?_; simp only [pS]
        first | (refine rg_take (i := 9) rfl kR kR kR (Yld.ldr rfl rfl agg36 size36 rfl mR sZ) (H.sub sU) ?_; simp only [pS]) | (refine rg_take (i := 9) rfl kR kR kR (Yld.ldl rfl rfl agg36 size36 rfl mR (by simp)) (H.sub sU) ?_; simp only [pS]; simp only [List.drop_succ_cons, List.drop_zero, List.take_succ_cons, List.take_zero]) | (refine rg_take (i := 9) rfl kR kR kR (Yld.ldor rfl rfl agg36 size36 rfl (by assumption) sZ (by assumption)) (H.sub sU) ?_; simp only [pS])
        refine rg_one (i := 10) (by kernel_rfl) rfl rfl (fun K hK => ?_)
        refine wp_callf rfl ent65 (rat_is (.slice xr x.ldr.length xe) x.ldr se _ ((hx.at H (by repeat (first | exact List.Sublist.refl _ | apply List.Sublist.cons))).ldrS.sl)) rfl (fun v w1 hr => ?_)
        obtain ⟨rfl, hb1⟩ := hr
        replace H := H.grow hb1
        clear hb1
        rw [HAT.out]
        clear HS
        have HS := H
        refine hK.out _ _ (H.sub sU) ?_
        clear hK K
        simp only [pS]
        refine rg_take (i := 11) rfl kR kR kR (Yld.of (v := .bool false) rfl (fun W _ => by go_simp; first | done | exact HZ.out | (rw [HZ.out]) | (simpa using HZ.out))) (H.sub sU) ?_; simp only [pS, pE]
        refine rg_take (i := 12) rfl kR kR kR (Yld.pick rfl rfl rfl) (H.sub sU) ?_; simp only [pS, pE]
        refine rg_done (by kernel_rfl) ?_
        go_wp2_with (first | (with_reducible refine wpl rfl (Stp.build (v := (.agg #[.int .u32 0, .int .u16 0, .int .u32 0])) 29 rfl rfl (fun W => by kernel_rfl) ?_); simp only [pS]) | (with_reducible refine wpl rfl (Stp.str rfl size67 rfl rfl (by first | rfl | (simp [Value.oneCell']; done) | assumption) H uP sZ sZ ?_); clear H; intro w1 H; simp only [pS]) | (with_reducible refine wpl rfl (Stp.ldc rfl agg34 rfl H mR cE ?_); simp only [pS]))
        refine post_row2 rfl agg67 size67 rfl H mE rfl rfl ⟨_, rfl, bl0, 16, rfl, .inl (H.sub sU)⟩
      · have hb : ((sn.r : Int) == 4294967295) = false := by simp; omega
        have hlt : sn.r < 4294967295 := by omega
        have HW : Hid (IntKind.u32.wrap ((sn.r : Int) + 1) = ((sn.r + 1 : Nat) : Int)) := Lib.hid (by rw [IntKind.wrap_u32]; omega)
        clear h2
        go_enter Try.func70, Try.ntmps70
        go_wp2_with (first | (with_reducible refine wpl rfl (Stp.box 4 rfl rfl rfl H ?_); clear H; intro g4 w1 H; simp only [pS]; simp only [pE, nC, pS] at H) | (with_reducible refine wpl rfl (Stp.alloc 6 rfl rfl zero67 H ?_); clear H; intro g6 w1 H; simp only [pS]; simp only [nC] at H))
        refine rg_begin 13 rfl (S := fun W => St _ _ W (row 26 g4 #[.int .u64 (x.id : Int), .slice xa x.mem.length xc, .slice xl x.lvs.length xd, .slice xr x.ldr.length xe] :: row 69 gx #[.int .u16 (se.1 : Int), .int .u32 (se.2 : Int), .int .u32 (sn.r : Int), .int .u16 (sn.w.1 : Int), .int .u32 (sn.w.2 : Int), .int .u32 (bl.r : Int), .int .u16 (bl.w.1 : Int), .int .u32 (bl.w.2 : Int), .int .i64 ph, .slice la ld.length lc, .int .u64 (sl : Int), .bool hs, .int .u32 (un.r : Int), .int .u16 (un.w.1 : Int), .int .u32 (un.w.2 : Int), .int .i64 c.kind, .int .u16 (c.fr.1 : Int), .int .u32 (c.fr.2 : Int), .int .u64 (c.num : Int), .int .u64 (c.vw : Int), .slice hd.ba c.data.length hd.bc, .int .u64 (c.v.id : Int), .slice hd.ma c.v.mem.length hd.mc, .slice hd.la c.v.lvs.length hd.lc, .slice hd.da c.v.ldr.length hd.dc, .slice aa an.length ac] :: L)) (by kernel_rfl) (H.drew.sub sU) ?_
        replace H := H.drew
        have HS := H
        first | (refine rg_take (i := 0) rfl kR kR kR (Yld.ldr rfl rfl agg26 size26 rfl mR sZ) (H.sub sU) ?_; simp only [pS]) | (refine rg_take (i := 0) rfl kR kR kR (Yld.ldl rfl rfl agg26 size26 rfl mR (by simp)) (H.sub sU) ?_; simp only [pS]; simp only [List.drop_succ_cons, List.drop_zero, List.take_succ_cons, List.take_zero]) | (refine rg_take (i := 0) rfl kR kR kR (Yld.ldor rfl rfl agg26 size26 rfl (by assumption) sZ (by assumption)) (H.sub sU) ?_; simp only [pS])
        refine rg_one (i := 1) (by kernel_rfl) rfl rfl (fun K hK => ?_)
        refine wp_callf rfl ent105 (rvcheck_is x xa xl xr xc xd xe hm _ true HVK.out (hx.at H (by repeat (first | exact List.Sublist.refl _ | apply List.Sublist.cons)))) rfl (fun v w1 hr => ?_)
        obtain ⟨rfl, hb1⟩ := hr
        replace H := H.grow hb1
        clear hb1
        clear HS
        have HS := H
        refine hK.out _ _ (H.sub sU) ?_
        clear hK K
        simp only [pS]
        refine rg_take (i := 2) rfl kR kR kR (Yld.o rfl) (H.sub sU) ?_; simp only [pS]
        refine rg_take (i := 3) rfl kR kR kR (Yld.move rfl rfl) (H.sub sU) ?_; simp only [pS, pE]
        refine rg_take (i := 4) rfl kR kR kR (Yld.o rfl) (H.sub sU) ?_; simp only [pS]
        first | (refine rg_take (i := 5) rfl kR kR kR (Yld.ldc rfl rfl agg23 rfl mR cE) (H.sub sU) ?_; simp only [pS]) | (refine rg_take (i := 5) rfl kR kR kR (Yld.ldo rfl rfl agg23 rfl (by assumption) (by assumption)) (H.sub sU) ?_; simp only [pS])
        refine rg_take (i := 6) rfl kR kR kR (Yld.move rfl rfl) (H.sub sU) ?_; simp only [pS, pE]
        refine rg_take (i := 7) rfl kR kR kR (Yld.o rfl) (H.sub sU) ?_; simp only [pS]
        refine rg_take (i := 8) rfl kR kR kR (Yld.o rfl) (H.sub sU) ?_; simp only [pS]
        first | (refine rg_take (i := 9) rfl kR kR kR (Yld.ldr rfl rfl agg36 size36 rfl mR sZ) (H.sub sU) ?_; simp only [pS]) | (refine rg_take (i := 9) rfl kR kR kR (Yld.ldl rfl rfl agg36 size36 rfl mR (by simp)) (H.sub sU) ?_; simp only [pS]; simp only [List.drop_succ_cons, List.drop_zero, List.take_succ_cons, List.take_zero]) | (refine rg_take (i := 9) rfl kR kR kR (Yld.ldor rfl rfl agg36 size36 rfl (by assumption) sZ (by assumption)) (H.sub sU) ?_; simp only [pS])
        refine rg_one (i := 10) (by kernel_rfl) rfl rfl (fun K hK => ?_)
        refine wp_callf rfl ent65 (rat_is (.slice xr x.ldr.length xe) x.ldr se _ ((hx.at H (by repeat (first | exact List.Sublist.refl _ | apply List.Sublist.cons))).ldrS.sl)) rfl (fun v w1 hr => ?_)
        obtain ⟨rfl, hb1⟩ := hr
        replace H := H.grow hb1
        clear hb1
        rw [HAT.out]
        clear HS
        have HS := H
        refine hK.out _ _ (H.sub sU) ?_
        clear hK K
        simp only [pS]
        refine rg_take (i := 11) rfl kR kR kR (Yld.of (v := .bool false) rfl (fun W _ => by go_simp; first | done | exact HZ.out | (rw [HZ.out]) | (simpa using HZ.out))) (H.sub sU) ?_; simp only [pS, pE]
        refine rg_take (i := 12) rfl kR kR kR (Yld.pick rfl rfl rfl) (H.sub sU) ?_; simp only [pS, pE]
        refine rg_done (by kernel_rfl) ?_
        go_wp2_with (first | (with_reducible refine wpl rfl (Stp.ldc rfl agg34 rfl H mR cE ?_); simp only [pS]))
        refine rg_begin 13 rfl (S := fun W => St _ _ W (row 69 gx #[.int .u16 (se.1 : Int), .int .u32 (se.2 : Int), .int .u32 (sn.r : Int), .int .u16 (sn.w.1 : Int), .int .u32 (sn.w.2 : Int), .int .u32 (bl.r : Int), .int .u16 (bl.w.1 : Int), .int .u32 (bl.w.2 : Int), .int .i64 ph, .slice la ld.length lc, .int .u64 (sl : Int), .bool hs, .int .u32 (un.r : Int), .int .u16 (un.w.1 : Int), .int .u32 (un.w.2 : Int), .int .i64 c.kind, .int .u16 (c.fr.1 : Int), .int .u32 (c.fr.2 : Int), .int .u64 (c.num : Int), .int .u64 (c.vw : Int), .slice hd.ba c.data.length hd.bc, .int .u64 (c.v.id : Int), .slice hd.ma c.v.mem.length hd.mc, .slice hd.la c.v.lvs.length hd.lc, .slice hd.da c.v.ldr.length hd.dc, .slice aa an.length ac] :: [])) (by kernel_rfl) (H.drew.sub sU) ?_
        replace H := H.drew
        have HS := H
        refine rg_take (i := 0) rfl kR kR kR (Yld.move rfl rfl) (H.sub sU) ?_; simp only [pS, pE]
        refine rg_take (i := 1) rfl kR kR kR (Yld.o rfl) (H.sub sU) ?_; simp only [pS]
        refine rg_take (i := 2) rfl kR kR kR (Yld.o rfl) (H.sub sU) ?_; simp only [pS]
        refine rg_take (i := 3) rfl kR kR kR (Yld.o rfl) (H.sub sU) ?_; simp only [pS]
        first | (refine rg_take (i := 4) rfl kR kR kR (Yld.ldc rfl rfl agg34 rfl mR cE) (H.sub sU) ?_; simp only [pS]) | (refine rg_take (i := 4) rfl kR kR kR (Yld.ldo rfl rfl agg34 rfl (by assumption) (by assumption)) (H.sub sU) ?_; simp only [pS])
        refine rg_take (i := 5) rfl kR kR kR (Yld.of (v := .int .u32 ((sn.r + 1 : Nat) : Int)) rfl (fun W _ => by go_simp; first | done | exact HW.out | (rw [HW.out]) | (simpa using HW.out))) (H.sub sU) ?_; simp only [pS, pE]
        refine rg_take (i := 6) rfl kR kR kR (Yld.move rfl rfl) (H.sub sU) ?_; simp only [pS, pE]
        refine rg_take (i := 7) rfl kR kR kR (Yld.o rfl) (H.sub sU) ?_; simp only [pS]
        refine rg_take (i := 8) rfl kR kR kR (Yld.o rfl) (H.sub sU) ?_; simp only [pS]
        first | (refine rg_take (i := 9) rfl kR kR kR (Yld.ldr rfl rfl agg36 size36 rfl mR sZ) (H.sub sU) ?_; simp only [pS]) | (refine rg_take (i := 9) rfl kR kR kR (Yld.ldl rfl rfl agg36 size36 rfl mR (by simp)) (H.sub sU) ?_; simp only [pS]; simp only [List.drop_succ_cons, List.drop_zero, List.take_succ_cons, List.take_zero]) | (refine rg_take (i := 9) rfl kR kR kR (Yld.ldor rfl rfl agg36 size36 rfl (by assumption) sZ (by assumption)) (H.sub sU) ?_; simp only [pS])
        refine rg_take (i := 10) rfl kR kR kR (Yld.of (v := .agg #[.int .u32 ((sn.r + 1 : Nat) : Int), .int .u16 (se.1 : Int), .int .u32 (se.2 : Int)]) rfl (fun W _ => by kernel_rfl)) (H.sub sU) ?_; simp only [pS, pE]
        refine rg_one (i := 11) (by kernel_rfl) rfl rfl (fun K hK => ?_)
        refine Stp.wp (Stp.alloc 8 rfl rfl zero67 H ?_)
        clear H
        intro g8 w1 H
        simp only [cells_agg] at H
        clear HS
        have HS := H
        refine hK.out _ _ (H.sub sU) ?_
        clear hK K
        simp only [pS]
        refine rg_one (i := 12) (by kernel_rfl) rfl rfl (fun K hK => ?_)
        refine Stp.wp (Stp.str (ds := #[.int .u32 ((sn.r + 1 : Nat) : Int), .int .u16 (se.1 : Int), .int .u32 (se.2 : Int)]) rfl size67 rfl rfl (by simp [Value.oneCell']) H uP rfl rfl ?_)
        clear H
        intro w1 H
        clear HS
        have HS := H
        refine hK.out _ _ (H.sub sU) ?_
        clear hK K
        simp only [pS]
        refine rg_done (by kernel_rfl) ?_
        go_wp2_with (first | (go_at_call 108; (with_reducible refine (rclear_ok gx se (⟨sn.r + 1, se⟩ : Bl) (⟨sn.r + 1, se⟩ : Bl) 1 xr xe x.ldr s0 hs un c hd none 0 [] _ (H.pull (r := row 69 gx #[.int .u16 (se.1 : Int), .int .u32 (se.2 : Int), .int .u32 ((⟨sn.r + 1, se⟩ : Bl).r : Int), .int .u16 ((⟨sn.r + 1, se⟩ : Bl).w.1 : Int), .int .u32 ((⟨sn.r + 1, se⟩ : Bl).w.2 : Int), .int .u32 ((⟨sn.r + 1, se⟩ : Bl).r : Int), .int .u16 ((⟨sn.r + 1, se⟩ : Bl).w.1 : Int), .int .u32 ((⟨sn.r + 1, se⟩ : Bl).w.2 : Int), .int .i64 1, .slice xr x.ldr.length xe, .int .u64 (s0 : Int), .bool hs, .int .u32 (un.r : Int), .int .u16 (un.w.1 : Int), .int .u32 (un.w.2 : Int), .int .i64 c.kind, .int .u16 (c.fr.1 : Int), .int .u32 (c.fr.2 : Int), .int .u64 (c.num : Int), .int .u64 (c.vw : Int), .slice hd.ba c.data.length hd.bc, .int .u64 (c.v.id : Int), .slice hd.ma c.v.mem.length hd.mc, .slice hd.la c.v.lvs.length hd.lc, .slice hd.da c.v.ldr.length hd.dc, .slice none 0 0]) pU)).mono ?_); rintro e w1 ⟨v, rfl, hr⟩; obtain ⟨rfl, H2⟩ := hr; clear H; have H := H2; clear H2) | (with_reducible refine wpl rfl (Stp.str rfl size67 rfl rfl (by first | rfl | (simp [Value.oneCell']; done) | assumption) H uP sZ sZ ?_); clear H; intro w1 H; simp only [pS]) | (with_reducible refine wpl rfl (Stp.stl rfl size67 rfl rfl rfl rfl H uP (by simp) ?_); clear H; intro w1 H; simp only [pS]; simp only [List.drop_succ_cons, List.drop_zero, List.take_succ_cons, List.take_zero, List.nil_append, List.cons_append, Nat.reduceAdd] at H) | (with_reducible refine wpl rfl (Stp.ldr rfl agg67 size67 rfl H mR sZ ?_); simp only [pS]) | (with_reducible refine wpl rfl (Stp.stc rfl size3 rfl rfl rfl rfl H uP (by first | omega | (simp; done) | (simp; omega)) ?_); clear H; intro w1 H; simp only [pS]; simp only [pE, nC, pS] at H) | (with_reducible refine wpl rfl (Stp.ldc rfl agg23 rfl H mR cE ?_); simp only [pS]) | (with_reducible refine wpl rfl (Stp.stc rfl size23 rfl rfl rfl rfl H uP (by first | omega | (simp; done) | (simp; omega)) ?_); clear H; intro w1 H; simp only [pS]; simp only [pE, nC, pS] at H) | (with_reducible refine wpl rfl (Stp.stc rfl size22 rfl rfl rfl rfl H uP (by first | omega | (simp; done) | (simp; omega)) ?_); clear H; intro w1 H; simp only [pS]; simp only [pE, nC, pS] at H))
        replace H := H.nil 36 2
        refine post_row2 rfl agg67 size67 rfl H mE rfl rfl ⟨_, rfl, ⟨sn.r + 1, se⟩, 0, rfl, .inr ⟨hlt, ?_⟩⟩
        have H3 := ((H.pull (r := slc 36 2 (.slice none 0 0) 0 []) pU).pull (r := row 69 gx _) pU).sub (L' := _ :: _ :: L) sU
        exact H3
theorem rprop_ok {B : Nat} {w0 : World} {L : List Res} {G1 : Nat → Prop} (gx : Nat) (se : Pr) (sn bl : Bl) (ph : Int) (la : Option Addr) (lc : Nat) (ld : List Pr) (sl : Nat) (hs : Bool) (un : Bl) (c : Cm) (hd : Hd) (aa : Option Addr) (ac : Nat) (an : List Pr) (cn : Cm) (e : Hd) (hmn : smC cn) (hx : Rd B w0 L fun W => CmG G1 W (.slice e.ba cn.data.length e.bc) (.slice e.ma cn.v.mem.length e.mc) (.slice e.la cn.v.lvs.length e.lc) (.slice e.da cn.v.ldr.length e.dc) cn) (w : World) (H : St B w0 w (row 69 gx #[.int .u16 (se.1 : Int), .int .u32 (se.2 : Int), .int .u32 (sn.r : Int), .int .u16 (sn.w.1 : Int), .int .u32 (sn.w.2 : Int), .int .u32 (bl.r : Int), .int .u16 (bl.w.1 : Int), .int .u32 (bl.w.2 : Int), .int .i64 ph, .slice la ld.length lc, .int .u64 (sl : Int), .bool hs, .int .u32 (un.r : Int), .int .u16 (un.w.1 : Int), .int .u32 (un.w.2 : Int), .int .i64 c.kind, .int .u16 (c.fr.1 : Int), .int .u32 (c.fr.2 : Int), .int .u64 (c.num : Int), .int .u64 (c.vw : Int), .slice hd.ba c.data.length hd.bc, .int .u64 (c.v.id : Int), .slice hd.ma c.v.mem.length hd.mc, .slice hd.la c.v.lvs.length hd.lc, .slice hd.da c.v.ldr.length hd.dc, .slice aa an.length ac] :: slc 36 2 (.slice aa an.length ac) an.length (pv an) :: L)) :
    Calls Try.prog 72 #[.pointer (some ⟨gx, 0, none⟩), .agg (cmH cn e)] w (Ret fun v w' => ∃ (cv : Cm) (hv : Hd) (i : Int), v = .tuple #[.agg (cmH cv hv), .int .i64 i] ∧ (cv = cm0 ∧ hv = hd0 ∨ cv = c ∧ hv = hd ∨ cv = cn ∧ hv = e) ∧ (St B w0 w' (row 69 gx #[.int .u16 (se.1 : Int), .int .u32 (se.2 : Int), .int .u32 (sn.r : Int), .int .u16 (sn.w.1 : Int), .int .u32 (sn.w.2 : Int), .int .u32 (bl.r : Int), .int .u16 (bl.w.1 : Int), .int .u32 (bl.w.2 : Int), .int .i64 ph, .slice la ld.length lc, .int .u64 (sl : Int), .bool hs, .int .u32 (un.r : Int), .int .u16 (un.w.1 : Int), .int .u32 (un.w.2 : Int), .int .i64 c.kind, .int .u16 (c.fr.1 : Int), .int .u32 (c.fr.2 : Int), .int .u64 (c.num : Int), .int .u64 (c.vw : Int), .slice hd.ba c.data.length hd.bc, .int .u64 (c.v.id : Int), .slice hd.ma c.v.mem.length hd.mc, .slice hd.la c.v.lvs.length hd.lc, .slice hd.da c.v.ldr.length hd.dc, .slice aa an.length ac] :: slc 36 2 (.slice aa an.length ac) an.length (pv an) :: L) ∨ St B w0 w' (row 69 gx #[.int .u16 (se.1 : Int), .int .u32 (se.2 : Int), .int .u32 (sn.r : Int), .int .u16 (sn.w.1 : Int), .int .u32 (sn.w.2 : Int), .int .u32 (bl.r : Int), .int .u16 (bl.w.1 : Int), .int .u32 (bl.w.2 : Int), .int .i64 3, .slice la ld.length lc, .int .u64 (sl : Int), .bool hs, .int .u32 (un.r : Int), .int .u16 (un.w.1 : Int), .int .u32 (un.w.2 : Int), .int .i64 c.kind, .int .u16 (c.fr.1 : Int), .int .u32 (c.fr.2 : Int), .int .u64 (c.num : Int), .int .u64 (c.vw : Int), .slice hd.ba c.data.length hd.bc, .int .u64 (c.v.id : Int), .slice hd.ma c.v.mem.length hd.mc, .slice hd.la c.v.lvs.length hd.lc, .slice hd.da c.v.ldr.length hd.dc, .slice none 0 0] :: slc 36 2 (.slice none 0 0) 0 [] :: L) ∨ St B w0 w' (row 69 gx #[.int .u16 (se.1 : Int), .int .u32 (se.2 : Int), .int .u32 (sn.r : Int), .int .u16 (sn.w.1 : Int), .int .u32 (sn.w.2 : Int), .int .u32 (bl.r : Int), .int .u16 (bl.w.1 : Int), .int .u32 (bl.w.2 : Int), .int .i64 3, .slice la ld.length lc, .int .u64 (sl : Int), .bool true, .int .u32 (bl.r : Int), .int .u16 (bl.w.1 : Int), .int .u32 (bl.w.2 : Int), .int .i64 cn.kind, .int .u16 (cn.fr.1 : Int), .int .u32 (cn.fr.2 : Int), .int .u64 (cn.num : Int), .int .u64 (cn.vw : Int), .slice e.ba cn.data.length e.bc, .int .u64 (cn.v.id : Int), .slice e.ma cn.v.mem.length e.mc, .slice e.la cn.v.lvs.length e.lc, .slice e.da cn.v.ldr.length e.dc, .slice none 0 0] :: slc 36 2 (.slice none 0 0) 0 [] :: L))) := by
  by_cases h : ph = 2
  · have hp : (ph != 2) = false := by simpa using h
    obtain ⟨e0, hy⟩ : ∃ y, cErr cn = y := ⟨_, rfl⟩
    have HC := Lib.hid hy
    clear h hy
    by_cases hce : e0 = 0
    · have h0i : (e0 != 0) = false := by simpa using hce
      clear hce
      simp only [cmH, cmC]
      cases hs
      · go_enter Try.func72, Try.ntmps72
        go_wp2_with (first | (go_at_call 64; (with_reducible refine (rccheck_is cn _ _ _ _ _ _ _ _ hmn.v _ e0 HC.out (hx.at H (by repeat (first | exact List.Sublist.refl _ | apply List.Sublist.cons)))).mono ?_); rintro e w1 ⟨v, rfl, hr⟩; obtain ⟨rfl, hb1⟩ := hr; replace H := H.grow hb1; clear hb1) | (with_reducible refine wpl rfl (Stp.box 3 rfl rfl rfl H ?_); clear H; intro g3 w1 H; simp only [pS]; simp only [pE, nC, pS] at H) | (with_reducible refine wpl rfl (Stp.alloc 4 rfl rfl zero43 H ?_); clear H; intro g4 w1 H; simp only [pS]; simp only [nC] at H) | (with_reducible refine wpl rfl (Stp.ldc rfl agg3 rfl H mR cE ?_); simp only [pS]) | (with_reducible refine wpl rfl (Stp.str rfl size43 rfl rfl (by first | rfl | (simp [Value.oneCell']; done) | assumption) H uP sZ sZ ?_); clear H; intro w1 H; simp only [pS]) | (with_reducible refine wpl rfl (Stp.stl rfl size43 rfl rfl rfl rfl H uP (by simp) ?_); clear H; intro w1 H; simp only [pS]; simp only [List.drop_succ_cons, List.drop_zero, List.take_succ_cons, List.take_zero, List.nil_append, List.cons_append, Nat.reduceAdd] at H) | (with_reducible refine wpl rfl (Stp.ldr rfl agg43 size43 rfl H mR sZ ?_); simp only [pS]) | (with_reducible refine wpl rfl (Stp.ldl rfl agg43 size43 rfl H mR (by simp) ?_); simp only [pS]; simp only [List.drop_succ_cons, List.drop_zero, List.take_succ_cons, List.take_zero]) | (with_reducible refine wpl rfl (Stp.ldc rfl agg4 rfl H mR cE ?_); simp only [pS]) | (with_reducible refine wpl rfl (Stp.stc rfl size4 rfl rfl rfl rfl H uP (by first | omega | (simp; done) | (simp; omega)) ?_); clear H; intro w1 H; simp only [pS]; simp only [pE, nC, pS] at H) | (with_reducible refine wpl rfl (Stp.ldl rfl agg67 size67 rfl H mR (by simp) ?_); simp only [pS]; simp only [List.drop_succ_cons, List.drop_zero, List.take_succ_cons, List.take_zero]) | (with_reducible refine wpl rfl (Stp.stl rfl size67 rfl rfl rfl rfl H uP (by simp) ?_); clear H; intro w1 H; simp only [pS]; simp only [List.drop_succ_cons, List.drop_zero, List.take_succ_cons, List.take_zero, List.nil_append, List.cons_append, Nat.reduceAdd] at H) | (with_reducible refine wpl rfl (Stp.stc rfl size3 rfl rfl rfl rfl H uP (by first | omega | (simp; done) | (simp; omega)) ?_); clear H; intro w1 H; simp only [pS]; simp only [pE, nC, pS] at H) | (with_reducible refine wpl rfl (Stp.stc rfl size23 rfl rfl rfl rfl H uP (by first | omega | (simp; done) | (simp; omega)) ?_); clear H; intro w1 H; simp only [pS]; simp only [pE, nC, pS] at H))
        replace H := H.nil 36 2
        refine post_row2 rfl agg43 size43 rfl H mE rfl rfl ⟨_, rfl, cn, e, 0, rfl, .inr (.inr ⟨rfl, rfl⟩), .inr (.inr ?_)⟩
        exact ((H.pull (r := slc 36 2 (.slice none 0 0) 0 []) pU).pull (r := row 69 gx _) pU).sub sU
      · go_enter Try.func72, Try.ntmps72
        go_wp2_with (first | (go_at_call 64; (with_reducible refine (rccheck_is cn _ _ _ _ _ _ _ _ hmn.v _ e0 HC.out (hx.at H (by repeat (first | exact List.Sublist.refl _ | apply List.Sublist.cons)))).mono ?_); rintro e w1 ⟨v, rfl, hr⟩; obtain ⟨rfl, hb1⟩ := hr; replace H := H.grow hb1; clear hb1) | (with_reducible refine wpl rfl (Stp.box 3 rfl rfl rfl H ?_); clear H; intro g3 w1 H; simp only [pS]; simp only [pE, nC, pS] at H) | (with_reducible refine wpl rfl (Stp.alloc 4 rfl rfl zero43 H ?_); clear H; intro g4 w1 H; simp only [pS]; simp only [nC] at H) | (with_reducible refine wpl rfl (Stp.ldc rfl agg3 rfl H mR cE ?_); simp only [pS]) | (with_reducible refine wpl rfl (Stp.str rfl size43 rfl rfl (by first | rfl | (simp [Value.oneCell']; done) | assumption) H uP sZ sZ ?_); clear H; intro w1 H; simp only [pS]) | (with_reducible refine wpl rfl (Stp.ldr rfl agg43 size43 rfl H mR sZ ?_); simp only [pS]) | (with_reducible refine wpl rfl (Stp.ldl rfl agg43 size43 rfl H mR (by simp) ?_); simp only [pS]; simp only [List.drop_succ_cons, List.drop_zero, List.take_succ_cons, List.take_zero]) | (with_reducible refine wpl rfl (Stp.ldc rfl agg4 rfl H mR cE ?_); simp only [pS]) | (with_reducible refine wpl rfl (Stp.stc rfl size3 rfl rfl rfl rfl H uP (by first | omega | (simp; done) | (simp; omega)) ?_); clear H; intro w1 H; simp only [pS]; simp only [pE, nC, pS] at H) | (with_reducible refine wpl rfl (Stp.stc rfl size23 rfl rfl rfl rfl H uP (by first | omega | (simp; done) | (simp; omega)) ?_); clear H; intro w1 H; simp only [pS]; simp only [pE, nC, pS] at H))
        replace H := H.nil 36 2
        refine post_row2 rfl agg43 size43 rfl H mE rfl rfl ⟨_, rfl, c, hd, 0, rfl, .inr (.inl ⟨rfl, rfl⟩), .inr (.inl ?_)⟩
        exact ((H.pull (r := slc 36 2 (.slice none 0 0) 0 []) pU).pull (r := row 69 gx _) pU).sub sU
    · have h0i : (e0 != 0) = true := by simpa using hce
      clear hce
      simp only [cmH, cmC]
      go_enter Try.func72, Try.ntmps72
      go_wp2_with (first | (go_at_call 64; (with_reducible refine (rccheck_is cn _ _ _ _ _ _ _ _ hmn.v _ e0 HC.out (hx.at H (by repeat (first | exact List.Sublist.refl _ | apply List.Sublist.cons)))).mono ?_); rintro e w1 ⟨v, rfl, hr⟩; obtain ⟨rfl, hb1⟩ := hr; replace H := H.grow hb1; clear hb1) | (with_reducible refine wpl rfl (Stp.build (v := (.agg (cmH cm0 hd0))) 15 rfl rfl (fun W => by kernel_rfl) ?_); simp only [pS]) | (with_reducible refine wpl rfl (Stp.box 3 rfl rfl rfl H ?_); clear H; intro g3 w1 H; simp only [pS]; simp only [pE, nC, pS] at H) | (with_reducible refine wpl rfl (Stp.alloc 4 rfl rfl zero43 H ?_); clear H; intro g4 w1 H; simp only [pS]; simp only [nC] at H) | (with_reducible refine wpl rfl (Stp.ldc rfl agg3 rfl H mR cE ?_); simp only [pS]) | (with_reducible refine wpl rfl (Stp.str rfl size43 rfl rfl (by first | rfl | (simp [Value.oneCell']; done) | assumption) H uP sZ sZ ?_); clear H; intro w1 H; simp only [pS]) | (with_reducible refine wpl rfl (Stp.ldr rfl agg43 size43 rfl H mR sZ ?_); simp only [pS]))
      refine post_row2 rfl agg43 size43 rfl H mE rfl rfl ⟨_, rfl, cm0, hd0, 1, rfl, .inl ⟨rfl, rfl⟩, .inl (H.sub sU)⟩
  · have hp : (ph != 2) = true := by simpa using h
    clear h
    simp only [cmH, cmC]
    go_enter Try.func72, Try.ntmps72
    go_wp2_with (first | (with_reducible refine wpl rfl (Stp.build (v := (.agg (cmH cm0 hd0))) 11 rfl rfl (fun W => by kernel_rfl) ?_); simp only [pS]) | (with_reducible refine wpl rfl (Stp.box 3 rfl rfl rfl H ?_); clear H; intro g3 w1 H; simp only [pS]; simp only [pE, nC, pS] at H) | (with_reducible refine wpl rfl (Stp.alloc 4 rfl rfl zero43 H ?_); clear H; intro g4 w1 H; simp only [pS]; simp only [nC] at H) | (with_reducible refine wpl rfl (Stp.ldc rfl agg3 rfl H mR cE ?_); simp only [pS]) | (with_reducible refine wpl rfl (Stp.str rfl size43 rfl rfl (by first | rfl | (simp [Value.oneCell']; done) | assumption) H uP sZ sZ ?_); clear H; intro w1 H; simp only [pS]))
    refine post_row2 rfl agg43 size43 rfl H mE rfl rfl ⟨_, rfl, cm0, hd0, 8, rfl, .inl ⟨rfl, rfl⟩, .inl (H.sub sU)⟩
end Go.Proofs.Ytjghcmejmdllbaa
namespace Go.Proofs.Ytjghcmejmdllbaa
open Go.ChangeShapes Go.WideShapes Go.ChangeAt Go.RowKit Go.Maps Go.Deep
set_option linter.unusedVariables false
set_option linter.unusedSimpArgs false
set_option linter.unusedSectionVars false
set_option maxRecDepth 100000
set_option maxHeartbeats 4000000
theorem St.unR {B : Nat} {w0 w : World} {L : List Res} {r1 r2 r3 : Res} (H : St B w0 w (Go.Proofs.Ytjghcmejmdllbaa.sep r1 (Go.Proofs.Ytjghcmejmdllbaa.sep r2 r3) :: L)) : St B w0 w (r1 :: r2 :: r3 :: L) :=
  ((H.part.pull (r := Go.Proofs.Ytjghcmejmdllbaa.sep r2 r3) pU).part.pull (r := r1) pU)
theorem St.mkR {B : Nat} {w0 w : World} {L : List Res} {r1 r2 r3 : Res} (H : St B w0 w (r1 :: r2 :: r3 :: L)) : St B w0 w (Go.Proofs.Ytjghcmejmdllbaa.sep r1 (Go.Proofs.Ytjghcmejmdllbaa.sep r2 r3) :: L) :=
  ((((H.pull (r := r3) pU).pull (r := r2) pU).sep.pull (r := r1) pU)).sep
theorem cm0_sm : smC cm0 := ⟨Nat.zero_le _, ⟨Nat.zero_le _, Nat.zero_le _, fun l hl => absurd hl List.not_mem_nil, Nat.zero_le _⟩⟩
def ProR (gp : Nat) (sf : Pr) (d : Pd) (R : Res) : Prop := ∃ (la : Option Addr) (lc : Nat) (vp : Option Addr) (RV : Res), valR d.val vp RV ∧ R = sep (row 129 gp #[.int .u16 (sf.1 : Int), .int .u32 (sf.2 : Int), .int .u32 (d.sn.r : Int), .int .u16 (d.sn.w.1 : Int), .int .u32 (d.sn.w.2 : Int), .int .i64 d.ph, .slice la d.ld.length lc, .int .u64 (d.sl : Int), .int .u32 (d.bl.r : Int), .int .u16 (d.bl.w.1 : Int), .int .u32 (d.bl.w.2 : Int), .pointer vp, .int .u64 (d.a1 : Int), .int .u64 (d.a2 : Int)]) (sep (slc 36 2 (.slice la d.ld.length lc) d.ld.length (pv d.ld)) RV)
def PX (B : Nat) (w0 w : World) (gp : Nat) (sf : Pr) (d : Pd) (L : List Res) : Prop := ∃ R : Res, ProR gp sf d R ∧ St B w0 w (R :: L)
theorem PX.of {B : Nat} {w0 w : World} {gp : Nat} {sf : Pr} {d : Pd} {L : List Res} (h : PH B w0 w gp sf d L) : PX B w0 w gp sf d L := by
  obtain ⟨la, lc, vp, RV, hv, H⟩ := h
  exact ⟨_, ⟨la, lc, vp, RV, hv, rfl⟩, H.mkR⟩
theorem rprom_ok {B : Nat} {w0 : World} {L : List Res} {G1 : Nat → Prop} (gp : Nat) (sf : Pr) (d : Pd) (R : Res) (hR : ProR gp sf d R) (hw : Pw d) (q : Pr) (kd m1 m2 m3 m5 m6 : Int) (ms : Nat) (mb ma : Bl) (mh : Bool) (mc : Cm) (me : Hd) (mv : Vw) (mx : Hd) (my : Option Addr) (m7 mz : Nat) (ha1 : ma.w.1 < 65536) (ha2 : ma.w.2 < 4294967296) (hm : smC mc)
    (hx : Rd B w0 L fun W => CmG G1 W (.slice me.ba mc.data.length me.bc) (.slice me.ma mc.v.mem.length me.mc) (.slice me.la mc.v.lvs.length me.lc) (.slice me.da mc.v.ldr.length me.dc) mc) (w : World) (H : St B w0 w (R :: L)) :
    Calls Try.prog 41 #[.pointer (some ⟨gp, 0, none⟩), .agg #[.int .u16 (q.1 : Int), .int .u32 (q.2 : Int)], .agg #[.int .i64 kd, .int .u16 m1, .int .u32 m2, .int .u64 m3, .int .u64 (ms : Int), .int .u64 m5, .int .i64 m6, .int .u32 (mb.r : Int), .int .u16 (mb.w.1 : Int), .int .u32 (mb.w.2 : Int), .int .u32 (ma.r : Int), .int .u16 (ma.w.1 : Int), .int .u32 (ma.w.2 : Int), .bool mh, .int .i64 mc.kind, .int .u16 (mc.fr.1 : Int), .int .u32 (mc.fr.2 : Int), .int .u64 (mc.num : Int), .int .u64 (mc.vw : Int), .slice me.ba mc.data.length me.bc, .int .u64 (mc.v.id : Int), .slice me.ma mc.v.mem.length me.mc, .slice me.la mc.v.lvs.length me.lc, .slice me.da mc.v.ldr.length me.dc, .int .u64 (mv.id : Int), .slice mx.ma mv.mem.length mx.mc, .slice mx.la mv.lvs.length mx.lc, .slice mx.da mv.ldr.length mx.dc, .slice my m7 mz]] w (Ret fun v w' => ∃ (r : Bool) (d' : Pd), Hid (promD d q kd ms mb mh ma mc = (r, d')) ∧ v = .bool r ∧ PX B w0 w' gp sf d' L) := by
  obtain ⟨la, lc, vp, RV, hv, rfl⟩ := hR
  replace H := H.unR
  refine (aprom_ok gp sf d la lc vp RV hv hw q kd m1 m2 m3 m5 m6 ms mb ma mh mc me mv mx my m7 mz ha1 ha2 hm hx w H).mono ?_
  rintro e1 w1 ⟨v, rfl, r, d', hD, rfl, H2⟩
  exact ⟨_, rfl, r, d', hD, rfl, PX.of H2⟩
theorem raccd_ok {B : Nat} {w0 : World} {L : List Res} (gp : Nat) (sf : Pr) (d : Pd) (R : Res) (hR : ProR gp sf d R) (hw : Pw d) (q : Pr) (kd m1 m2 m3 m5 m6 : Int) (ms : Nat) (mb ma : Bl) (mh : Bool) (mc : Cm) (me : Hd) (mv : Vw) (mx : Hd) (my : Option Addr) (m7 mz : Nat) (w : World) (H : St B w0 w (R :: L)) :
    Calls Try.prog 42 #[.pointer (some ⟨gp, 0, none⟩), .agg #[.int .u16 (q.1 : Int), .int .u32 (q.2 : Int)], .agg #[.int .i64 kd, .int .u16 m1, .int .u32 m2, .int .u64 m3, .int .u64 (ms : Int), .int .u64 m5, .int .i64 m6, .int .u32 (mb.r : Int), .int .u16 (mb.w.1 : Int), .int .u32 (mb.w.2 : Int), .int .u32 (ma.r : Int), .int .u16 (ma.w.1 : Int), .int .u32 (ma.w.2 : Int), .bool mh, .int .i64 mc.kind, .int .u16 (mc.fr.1 : Int), .int .u32 (mc.fr.2 : Int), .int .u64 (mc.num : Int), .int .u64 (mc.vw : Int), .slice me.ba mc.data.length me.bc, .int .u64 (mc.v.id : Int), .slice me.ma mc.v.mem.length me.mc, .slice me.la mc.v.lvs.length me.lc, .slice me.da mc.v.ldr.length me.dc, .int .u64 (mv.id : Int), .slice mx.ma mv.mem.length mx.mc, .slice mx.la mv.lvs.length mx.lc, .slice mx.da mv.ldr.length mx.dc, .slice my m7 mz]] w (Ret fun v w' => ∃ (r : Bool) (d' : Pd), Hid (accD d q kd ms mb = (r, d')) ∧ v = .bool r ∧ PX B w0 w' gp sf d' L) := by
  obtain ⟨la, lc, vp, RV, hv, rfl⟩ := hR
  replace H := H.unR
  refine (aaccd_ok gp sf d la lc vp RV hv hw q kd m1 m2 m3 m5 m6 ms mb ma mh mc me mv mx my m7 mz w H).mono ?_
  rintro e1 w1 ⟨v, rfl, r, d', hD, rfl, H2⟩
  exact ⟨_, rfl, r, d', hD, rfl, PX.of H2⟩
theorem rseeR_ok {B : Nat} {w0 : World} {L : List Res} (gp : Nat) (sf : Pr) (d : Pd) (R : Res) (hR : ProR gp sf d R) (hw : Pw d) (b : Bl) (ha1 : b.w.1 < 65536) (ha2 : b.w.2 < 4294967296) (w : World) (H : St B w0 w (R :: L)) :
    Calls Try.prog 39 #[.pointer (some ⟨gp, 0, none⟩), .agg #[.int .u32 (b.r : Int), .int .u16 (b.w.1 : Int), .int .u32 (b.w.2 : Int)]] w (Ret fun v w' => ∃ d' : Pd, Hid (seeD d b = d') ∧ v = .tuple #[] ∧ PX B w0 w' gp sf d' L) := by
  obtain ⟨la, lc, vp, RV, hv, rfl⟩ := hR
  replace H := H.unR
  refine (asee_ok gp sf d la lc vp RV hv hw b ha1 ha2 w H).mono ?_
  rintro e1 w1 ⟨v, rfl, d', hD, rfl, H2⟩
  exact ⟨_, rfl, d', hD, rfl, PX.of H2⟩
theorem rstopR_ok {B : Nat} {w0 : World} {L : List Res} (gp : Nat) (sf : Pr) (d : Pd) (R : Res) (hR : ProR gp sf d R) (hw : Pw d) (w : World) (H : St B w0 w (R :: L)) :
    Calls Try.prog 40 #[.pointer (some ⟨gp, 0, none⟩)] w (Ret fun v w' => ∃ d' : Pd, Hid (stopD d = d') ∧ v = .tuple #[] ∧ PX B w0 w' gp sf d' L) := by
  obtain ⟨la, lc, vp, RV, hv, rfl⟩ := hR
  replace H := H.unR
  refine (astop_ok gp sf d la lc vp RV hv hw w H).mono ?_
  rintro e1 w1 ⟨v, rfl, d', hD, rfl, H2⟩
  exact ⟨_, rfl, d', hD, rfl, PX.of H2⟩
theorem rnackR_ok {B : Nat} {w0 : World} {L : List Res} (gp : Nat) (sf : Pr) (d : Pd) (R : Res) (hR : ProR gp sf d R) (hw : Pw d) (kd m1 m2 m3 m5 m6 : Int) (ms : Nat) (mb ma : Bl) (mh : Bool) (mc : Cm) (me : Hd) (mv : Vw) (mx : Hd) (my : Option Addr) (m7 mz : Nat) (ha1 : mb.w.1 < 65536) (ha2 : mb.w.2 < 4294967296) (w : World) (H : St B w0 w (R :: L)) :
    Calls Try.prog 43 #[.pointer (some ⟨gp, 0, none⟩), .agg #[.int .i64 kd, .int .u16 m1, .int .u32 m2, .int .u64 m3, .int .u64 (ms : Int), .int .u64 m5, .int .i64 m6, .int .u32 (mb.r : Int), .int .u16 (mb.w.1 : Int), .int .u32 (mb.w.2 : Int), .int .u32 (ma.r : Int), .int .u16 (ma.w.1 : Int), .int .u32 (ma.w.2 : Int), .bool mh, .int .i64 mc.kind, .int .u16 (mc.fr.1 : Int), .int .u32 (mc.fr.2 : Int), .int .u64 (mc.num : Int), .int .u64 (mc.vw : Int), .slice me.ba mc.data.length me.bc, .int .u64 (mc.v.id : Int), .slice me.ma mc.v.mem.length me.mc, .slice me.la mc.v.lvs.length me.lc, .slice me.da mc.v.ldr.length me.dc, .int .u64 (mv.id : Int), .slice mx.ma mv.mem.length mx.mc, .slice mx.la mv.lvs.length mx.lc, .slice mx.da mv.ldr.length mx.dc, .slice my m7 mz]] w (Ret fun v w' => ∃ (r : Bool) (d' : Pd), Hid (nackD d kd mb = (r, d')) ∧ v = .bool r ∧ PX B w0 w' gp sf d' L) := by
  obtain ⟨la, lc, vp, RV, hv, rfl⟩ := hR
  replace H := H.unR
  refine (anack_ok gp sf d la lc vp RV hv hw kd m1 m2 m3 m5 m6 ms mb ma mh mc me mv mx my m7 mz ha1 ha2 w H).mono ?_
  rintro e1 w1 ⟨v, rfl, r, d', hD, rfl, H2⟩
  exact ⟨_, rfl, r, d', hD, rfl, PX.of H2⟩
theorem rmoveR_ok {B : Nat} {w0 : World} {L : List Res} (gp : Nat) (sf : Pr) (d : Pd) (R : Res) (hR : ProR gp sf d R) (hw : Pw d) (s : Nat) (w : World) (H : St B w0 w (R :: L)) :
    Calls Try.prog 44 #[.pointer (some ⟨gp, 0, none⟩), .int .u64 (s : Int)] w (Ret fun v w' => ∃ (r : Bool) (d' : Pd), Hid (moveD d s = (r, d')) ∧ v = .bool r ∧ PX B w0 w' gp sf d' L) := by
  obtain ⟨la, lc, vp, RV, hv, rfl⟩ := hR
  replace H := H.unR
  refine (amove_ok gp sf d la lc vp RV hv hw s w H).mono ?_
  rintro e1 w1 ⟨v, rfl, r, d', hD, rfl, H2⟩
  exact ⟨_, rfl, r, d', hD, rfl, PX.of H2⟩
theorem rstartR_ok {B : Nat} {w0 : World} {L : List Res} {G1 : Nat → Prop} (gp : Nat) (sf : Pr) (d : Pd) (R : Res) (hR : ProR gp sf d R) (hw : Pw d) (x : Vw) (xa xl xr : Option Addr) (xc xd xe : Nat) (s0 : Nat) (hm : smV x) (hwx : wfV x)
    (hx : Rd B w0 L fun W => VwG G1 W (.slice xa x.mem.length xc) (.slice xl x.lvs.length xd) (.slice xr x.ldr.length xe) x) (w : World) (H : St B w0 w (R :: L)) :
    Calls Try.prog 36 #[.pointer (some ⟨gp, 0, none⟩), .agg #[.int .u64 (x.id : Int), .slice xa x.mem.length xc, .slice xl x.lvs.length xd, .slice xr x.ldr.length xe], .int .u64 (s0 : Int)] w (Ret fun v w' => ∃ (b : Bl) (i : Int) (d' : Pd), Hid (startD d sf x s0 = (b, i, d')) ∧ v = .tuple #[.agg #[.int .u32 (b.r : Int), .int .u16 (b.w.1 : Int), .int .u32 (b.w.2 : Int)], .int .i64 i] ∧ PX B w0 w' gp sf d' L) := by
  obtain ⟨la, lc, vp, RV, hv, rfl⟩ := hR
  replace H := H.unR
  refine (astart_ok gp sf d la lc vp RV hv hw x xa xl xr xc xd xe s0 hm hwx hx w H).mono ?_
  rintro e1 w1 ⟨v, rfl, b, i, d', hD, rfl, H2⟩
  exact ⟨_, rfl, b, i, d', hD, rfl, PX.of H2⟩
theorem rpropR_ok {B : Nat} {w0 : World} {L : List Res} {G1 : Nat → Prop} (gp : Nat) (sf : Pr) (d : Pd) (R : Res) (hR : ProR gp sf d R) (hw : Pw d) (c : Cm) (e : Hd) (hm : smC c) (hwc : wfC c) (hx : Rd B w0 L fun W => CmG G1 W (.slice e.ba c.data.length e.bc) (.slice e.ma c.v.mem.length e.mc) (.slice e.la c.v.lvs.length e.lc) (.slice e.da c.v.ldr.length e.dc) c) (w : World) (H : St B w0 w (R :: L)) :
    Calls Try.prog 37 #[.pointer (some ⟨gp, 0, none⟩), .agg (cmH c e)] w (Ret fun v w' => ∃ (cv : Cm) (h3 : Hd) (G3 : Nat → Prop) (i : Int) (d' : Pd), Hid (propD d c = (cv, i, d')) ∧ v = .tuple #[.agg (cmH cv h3), .int .i64 i] ∧ PX B w0 w' gp sf d' (cmr G3 (.slice h3.ba cv.data.length h3.bc) (.slice h3.ma cv.v.mem.length h3.mc) (.slice h3.la cv.v.lvs.length h3.lc) (.slice h3.da cv.v.ldr.length h3.dc) cv :: L)) := by
  obtain ⟨la, lc, vp, RV, hv, rfl⟩ := hR
  replace H := H.unR
  refine (aprop_ok gp sf d la lc vp RV hv hw c e hm hwc hx w H).mono ?_
  rintro e1 w1 ⟨v, rfl, cv, h3, G3, i, d', hD, rfl, H2⟩
  exact ⟨_, rfl, cv, h3, G3, i, d', hD, rfl, PX.of H2⟩
theorem rballot_ok {B : Nat} {w0 : World} {L : List Res} (gp : Nat) (sf : Pr) (d : Pd) (R : Res) (hR : ProR gp sf d R) (hw : Pw d) (w : World) (H : St B w0 w (R :: L)) :
    Calls Try.prog 31 #[.pointer (some ⟨gp, 0, none⟩)] w (Ret fun v w' => v = .agg #[.int .u32 (d.bl.r : Int), .int .u16 (d.bl.w.1 : Int), .int .u32 (d.bl.w.2 : Int)] ∧ St B w0 w' (R :: L)) := by
  obtain ⟨la, lc, vp, RV, hv, rfl⟩ := hR
  replace H := H.unR
  refine (aballot_ok gp sf d la lc vp RV hv hw w H).mono ?_
  rintro e1 w1 ⟨v, rfl, rfl, H2⟩
  exact ⟨_, rfl, rfl, H2.mkR⟩
theorem Pw.new (sf : Pr) : Pw ⟨bl0, 0, [], 0, bl0, 0, 0, none⟩ :=
  ⟨by show (0 : Nat) < 65536; decide, by show (0 : Nat) < 4294967296; decide, by show (0 : Nat) < 4294967296; decide, by show (0 : Nat) < 65536; decide, by show (0 : Nat) < 4294967296; decide, by show (0 : Nat) < 18446744073709551616; decide, by show (0 : Nat) < 18446744073709551616; decide, by show (0 : Nat) < 18446744073709551616; decide, by show (0 : Nat) < 1000; decide, fun u c h => by cases h⟩
theorem Pw.prom {d d' : Pd} {q : Pr} {kd : Int} {ms : Nat} {mb : Bl} {mh : Bool} {ma : Bl} {mc : Cm} {r : Bool} (hw : Pw d) (ha1 : ma.w.1 < 65536) (ha2 : ma.w.2 < 4294967296) (hm : smC mc) (h : promD d q kd ms mb mh ma mc = (r, d')) : Pw d' := by
  have hst := setM_lt (m := (d.a1, d.a2)) (r := atR d.ld q) ⟨hw.a1, hw.a2⟩
  unfold promD at h
  split at h
  · injection h with _ h
    subst h
    refine ⟨hw.s1, hw.s2, hw.sr, hw.b1, hw.b2, hw.sl, hst.1, hst.2, hw.ld, fun u c hc => ?_⟩
    simp only at hc
    split at hc
    · injection hc with hc
      injection hc with h1 h2
      subst h1 h2
      exact ⟨ha1, ha2, hm⟩
    · exact hw.vu u c hc
  · injection h with _ h
    subst h; exact hw
theorem Pw.acc {d d' : Pd} {q : Pr} {kd : Int} {ms : Nat} {mb : Bl} {r : Bool} (hw : Pw d) (h : accD d q kd ms mb = (r, d')) : Pw d' := by
  have hst := setM_lt (m := (d.a1, d.a2)) (r := atR d.ld q) ⟨hw.a1, hw.a2⟩
  unfold accD at h
  split at h
  · injection h with _ h
    subst h
    refine ⟨hw.s1, hw.s2, hw.sr, hw.b1, hw.b2, ?_, hst.1, hst.2, hw.ld, fun u c hc => ?_⟩
    · simp only; split
      · exact Nat.mod_lt _ (by decide)
      · exact hw.sl
    · simp only at hc
      split at hc
      · cases hc
      · exact hw.vu u c hc
  · injection h with _ h
    subst h; exact hw
theorem Pw.prop {d d' : Pd} {c cv : Cm} {i : Int} (hw : Pw d) (hm : smC c) (h : propD d c = (cv, i, d')) : Pw d' := by
  unfold propD at h
  split at h
  · split at h
    · split at h
      · injection h with _ h; injection h with _ h
        subst h
        exact ⟨hw.s1, hw.s2, hw.sr, hw.b1, hw.b2, hw.sl, by show (0 : Nat) < _; decide, by show (0 : Nat) < _; decide, hw.ld, fun u c' hc => by injection hc with hc; injection hc with h1 h2; subst h1 h2; exact ⟨hw.b1, hw.b2, hm⟩⟩
      · injection h with _ h; injection h with _ h
        subst h
        exact ⟨hw.s1, hw.s2, hw.sr, hw.b1, hw.b2, hw.sl, by show (0 : Nat) < _; decide, by show (0 : Nat) < _; decide, hw.ld, hw.vu⟩
    · injection h with _ h; injection h with _ h
      subst h; exact hw
  · injection h with _ h; injection h with _ h
    subst h; exact hw
theorem Pw.start {d d' : Pd} {sf : Pr} {x : Vw} {s0 : Nat} {b : Bl} {i : Int} (hw : Pw d) (h1 : sf.1 < 65536) (h2 : sf.2 < 4294967296) (hs : s0 < 18446744073709551616) (hl : x.ldr.length < 1000) (h : startD d sf x s0 = (b, i, d')) : Pw d' := by
  unfold startD at h
  split at h
  · split at h
    · injection h with _ h; injection h with _ h
      subst h; exact hw
    · injection h with _ h; injection h with _ h
      subst h
      exact ⟨h1, h2, by have := hw.sr; show d.sn.r + 1 < _; omega, h1, h2, hs, by show (0 : Nat) < _; decide, by show (0 : Nat) < _; decide, hl, fun u c hc => by cases hc⟩
  · injection h with _ h; injection h with _ h
    subst h; exact hw
theorem Pw.see {d d' : Pd} {b : Bl} (hw : Pw d) (h0 : b.r < 4294967296) (h1 : b.w.1 < 65536) (h2 : b.w.2 < 4294967296) (h : seeD d b = d') : Pw d' := by
  subst h
  unfold seeD
  refine ⟨?_, ?_, ?_, hw.b1, hw.b2, hw.sl, hw.a1, hw.a2, hw.ld, hw.vu⟩
  all_goals
    simp only
    split
  · exact h1
  · exact hw.s1
  · exact h2
  · exact hw.s2
  · exact h0
  · exact hw.sr
theorem Pw.stop {d d' : Pd} (hw : Pw d) (h : stopD d = d') : Pw d' := by
  subst h
  exact ⟨hw.s1, hw.s2, hw.sr, hw.b1, hw.b2, hw.sl, hw.a1, hw.a2, hw.ld, fun u c hc => by cases hc⟩
theorem Pw.nack {d d' : Pd} {kd : Int} {mb : Bl} {r : Bool} (hw : Pw d) (h0 : mb.r < 4294967296) (h1 : mb.w.1 < 65536) (h2 : mb.w.2 < 4294967296) (h : nackD d kd mb = (r, d')) : Pw d' := by
  unfold nackD at h
  split at h
  · injection h with _ h
    exact (hw.see h0 h1 h2 rfl).stop h
  · injection h with _ h
    subst h; exact hw
theorem Pw.move {d d' : Pd} {s : Nat} {r : Bool} (hw : Pw d) (h : moveD d s = (r, d')) : Pw d' := by
  unfold moveD at h
  split at h
  · injection h with _ h; exact hw.stop h
  · injection h with _ h; subst h; exact hw
end Go.Proofs.Ytjghcmejmdllbaa
