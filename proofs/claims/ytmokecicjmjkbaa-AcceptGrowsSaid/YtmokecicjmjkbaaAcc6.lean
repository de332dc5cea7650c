/- Contracts of layer 20's Acceptor (accept): Prepare where something was accepted, Accepted, Advance, Slot, Promised; the bounds stand in each. -/
import Derived.Test.YtmokecicjmjkbaaAcc4
import Derived.Test.YtmokecicjmjkbaaRef3
namespace Go.Proofs.Ytmokecicjmjkbaa
open Go.ChangeShapes Go.WideShapes Go.ChangeAt Go.RowKit Go.Maps
set_option linter.unusedVariables false
set_option linter.unusedSimpArgs false
set_option maxRecDepth 100000
set_option maxHeartbeats 2000000
attribute [local irreducible] may asE blt cErr
theorem aprepYes1_ok {B : Nat} {w0 : World} {L : List Res} {G : Nat → Prop} (g0 cur slot : Nat) (pr b : Bl) (y : Bl) (ga : Nat) (c : Cm) (ba ma la da : Option Addr) (bc mc lc dc : Nat) (hm : smC c) (b1 : b.w.1 < 65536) (b2 : b.w.2 < 4294967296) (p1 : pr.w.1 < 65536) (p2 : pr.w.2 < 4294967296) (he : asE cur slot b = 0) (hb : blt b pr = false) (w : World) (H : St B w0 w (row 105 g0 #[.int .u64 (cur : Int), .int .u32 (pr.r : Int), .int .u16 (pr.w.1 : Int), .int .u32 (pr.w.2 : Int), .pointer (some ⟨ga, 0, none⟩)] :: row 109 ga #[.int .u32 (y.r : Int), .int .u16 (y.w.1 : Int), .int .u32 (y.w.2 : Int), .int .i64 c.kind, .int .u16 (c.fr.1 : Int), .int .u32 (c.fr.2 : Int), .int .u64 (c.num : Int), .int .u64 (c.vw : Int), .slice ba c.data.length bc, .int .u64 (c.v.id : Int), .slice ma c.v.mem.length mc, .slice la c.v.lvs.length lc, .slice da c.v.ldr.length dc] :: cmr G (.slice ba c.data.length bc) (.slice ma c.v.mem.length mc) (.slice la c.v.lvs.length lc) (.slice da c.v.ldr.length dc) c :: L)) :
    Calls Try.prog 22 #[.pointer (some ⟨g0, 0, none⟩), .int .u64 (slot : Int), .agg (blC b)] w (Ret fun v w' => ∃ (h : Hd) (G2 : Nat → Prop), v = .tuple #[.agg (mgC 5 (slot : Int) b y true c h), .int .i64 0] ∧ St B w0 w' (row 105 g0 #[.int .u64 (cur : Int), .int .u32 (b.r : Int), .int .u16 (b.w.1 : Int), .int .u32 (b.w.2 : Int), .pointer (some ⟨ga, 0, none⟩)] :: row 109 ga #[.int .u32 (y.r : Int), .int .u16 (y.w.1 : Int), .int .u32 (y.w.2 : Int), .int .i64 c.kind, .int .u16 (c.fr.1 : Int), .int .u32 (c.fr.2 : Int), .int .u64 (c.num : Int), .int .u64 (c.vw : Int), .slice ba c.data.length bc, .int .u64 (c.v.id : Int), .slice ma c.v.mem.length mc, .slice la c.v.lvs.length lc, .slice da c.v.ldr.length dc] :: cmr G (.slice ba c.data.length bc) (.slice ma c.v.mem.length mc) (.slice la c.v.lvs.length lc) (.slice da c.v.ldr.length dc) c :: cmr G2 (.slice h.ba c.data.length h.bc) (.slice h.ma c.v.mem.length h.mc) (.slice h.la c.v.lvs.length h.lc) (.slice h.da c.v.ldr.length h.dc) c :: L)) := by
  have HE := Lib.hid he
  have HB := Lib.hid hb
  clear he hb
  simp only [blC]
  go_enter Try.func22, Try.ntmps22
  go_wp2_with (first | (go_at_call 52; (with_reducible refine (asked_ok g0 cur slot pr b (some ⟨ga, 0, none⟩) 0 HE.out _ (H.getHeap mE)).mono ?_); rintro e w1 ⟨v, rfl, hr⟩; obtain ⟨rfl, hb1⟩ := hr; replace H := H.grow hb1; clear hb1) | (with_reducible refine wpl rfl (Stp.box 5 rfl rfl rfl H ?_); clear H; intro g5 w1 H; simp only [pS]; simp only [pE, nC, pS] at H) | (with_reducible refine wpl rfl (Stp.alloc 6 rfl rfl zero49 H ?_); clear H; intro g6 w1 H; simp only [pS]; simp only [nC] at H) | (with_reducible refine wpl rfl (Stp.ldr rfl agg47 size47 rfl H mR sZ ?_); simp only [pS]) | (with_reducible refine wpl rfl (Stp.ldl rfl agg47 size47 rfl H mR (by simp) ?_); simp only [pS]; simp only [List.drop_succ_cons, List.drop_zero, List.take_succ_cons, List.take_zero]) | (with_reducible refine wpl rfl (Stp.ldor rfl agg47 size47 rfl H (by assumption) sZ (by assumption) ?_); simp only [pS]) | (with_reducible refine wpl rfl (Stp.str rfl size49 rfl rfl (by first | rfl | (simp [Value.oneCell']; done) | assumption) H uP sZ sZ ?_); clear H; intro w1 H; simp only [pS]) | (with_reducible refine wpl rfl (Stp.stl rfl size49 rfl rfl rfl rfl H uP (by simp) ?_); clear H; intro w1 H; simp only [pS]; simp only [List.drop_succ_cons, List.drop_zero, List.take_succ_cons, List.take_zero, List.nil_append, List.cons_append, Nat.reduceAdd] at H) | (with_reducible refine wpl rfl (Stp.str rfl size47 rfl rfl (by first | rfl | (simp [Value.oneCell']; done) | assumption) H uP sZ sZ ?_); clear H; intro w1 H; simp only [pS]) | (with_reducible refine wpl rfl (Stp.stl rfl size47 rfl rfl rfl rfl H uP (by simp) ?_); clear H; intro w1 H; simp only [pS]; simp only [List.drop_succ_cons, List.drop_zero, List.take_succ_cons, List.take_zero, List.nil_append, List.cons_append, Nat.reduceAdd] at H) | (with_reducible refine wpl rfl (Stp.alloc 9 rfl rfl zero49 H ?_); clear H; intro g9 w1 H; simp only [pS]; simp only [nC] at H) | (with_reducible refine wpl rfl (Stp.ldc rfl agg103 rfl H mR cE ?_); simp only [pS]) | (with_reducible refine wpl rfl (Stp.ldo rfl agg103 rfl H (by assumption) (by assumption) ?_); simp only [pS]) | (with_reducible refine wpl rfl (Stp.ldr rfl agg49 size49 rfl H mR sZ ?_); simp only [pS]) | (with_reducible refine wpl rfl (Stp.ldl rfl agg49 size49 rfl H mR (by simp) ?_); simp only [pS]; simp only [List.drop_succ_cons, List.drop_zero, List.take_succ_cons, List.take_zero]) | (with_reducible refine wpl rfl (Stp.ldor rfl agg49 size49 rfl H (by assumption) sZ (by assumption) ?_); simp only [pS]))
  refine rg_begin 6 rfl (S := fun W => St _ _ W (row 49 g6 #[.int .i64 0, .int .u16 0, .int .u32 0, .int .u64 0, .int .u64 0, .int .u64 0, .int .i64 0, .int .u32 0, .int .u16 0, .int .u32 0, .int .u32 0, .int .u16 0, .int .u32 0, .bool false, .int .i64 0, .int .u16 0, .int .u32 0, .int .u64 0, .int .u64 0, .slice none 0 0, .int .u64 0, .slice none 0 0, .slice none 0 0, .slice none 0 0, .int .u64 0, .slice none 0 0, .slice none 0 0, .slice none 0 0, .slice none 0 0] :: row 47 g5 #[.int .u32 (b.r : Int), .int .u16 (b.w.1 : Int), .int .u32 (b.w.2 : Int)] :: row 105 g0 #[.int .u64 (cur : Int), .int .u32 (pr.r : Int), .int .u16 (pr.w.1 : Int), .int .u32 (pr.w.2 : Int), .pointer (some ⟨ga, 0, none⟩)] :: row 109 ga #[.int .u32 (y.r : Int), .int .u16 (y.w.1 : Int), .int .u32 (y.w.2 : Int), .int .i64 c.kind, .int .u16 (c.fr.1 : Int), .int .u32 (c.fr.2 : Int), .int .u64 (c.num : Int), .int .u64 (c.vw : Int), .slice ba c.data.length bc, .int .u64 (c.v.id : Int), .slice ma c.v.mem.length mc, .slice la c.v.lvs.length lc, .slice da c.v.ldr.length dc] :: cmr G (.slice ba c.data.length bc) (.slice ma c.v.mem.length mc) (.slice la c.v.lvs.length lc) (.slice da c.v.ldr.length dc) c :: L)) (by kernel_rfl) (H.drew.sub sU) ?_
  replace H := H.drew
  have HS := H
  first | (refine rg_take (i := 0) rfl kR kR kR (Yld.ldr rfl rfl agg47 size47 rfl mR sZ) (H.sub sU) ?_; simp only [pS]) | (refine rg_take (i := 0) rfl kR kR kR (Yld.ldl rfl rfl agg47 size47 rfl mR (by simp)) (H.sub sU) ?_; simp only [pS]; simp only [List.drop_succ_cons, List.drop_zero, List.take_succ_cons, List.take_zero]) | (refine rg_take (i := 0) rfl kR kR kR (Yld.ldor rfl rfl agg47 size47 rfl (by assumption) sZ (by assumption)) (H.sub sU) ?_; simp only [pS])
  refine rg_take (i := 1) rfl kR kR kR (Yld.move rfl rfl) (H.sub sU) ?_; simp only [pS, pE]
  refine rg_take (i := 2) rfl kR kR kR (Yld.o rfl) (H.sub sU) ?_; simp only [pS]
  refine rg_take (i := 3) rfl kR kR kR (Yld.o rfl) (H.sub sU) ?_; simp only [pS]
  first | (refine rg_take (i := 4) rfl kR kR kR (Yld.ldr rfl rfl agg47 size47 rfl mR sZ) (H.sub sU) ?_; simp only [pS]) | (refine rg_take (i := 4) rfl kR kR kR (Yld.ldl rfl rfl agg47 size47 rfl mR (by simp)) (H.sub sU) ?_; simp only [pS]; simp only [List.drop_succ_cons, List.drop_zero, List.take_succ_cons, List.take_zero]) | (refine rg_take (i := 4) rfl kR kR kR (Yld.ldor rfl rfl agg47 size47 rfl (by assumption) sZ (by assumption)) (H.sub sU) ?_; simp only [pS])
  refine rg_one (i := 5) (by kernel_rfl) rfl rfl (fun K hK => ?_)
  refine wp_callf rfl ent53 (before_ok b pr b1 b2 p1 p2 false HB.out _) rfl (fun v w1 hr => ?_)
  obtain ⟨rfl, hb1⟩ := hr
  replace H := H.grow hb1
  clear hb1
  clear HS
  have HS := H
  refine hK.out _ _ (H.sub sU) ?_
  clear hK K
  simp only [pS]
  refine rg_done (by kernel_rfl) ?_
  go_wp2_with (first | (with_reducible refine wpl rfl (Stp.build (v := (.agg #[.int .i64 5, .int .u16 0, .int .u32 0, .int .u64 0, .int .u64 (slot : Int), .int .u64 0, .int .i64 0, .int .u32 (b.r : Int), .int .u16 (b.w.1 : Int), .int .u32 (b.w.2 : Int), .int .u32 0, .int .u16 0, .int .u32 0, .bool false, .int .i64 0, .int .u16 0, .int .u32 0, .int .u64 0, .int .u64 0, .slice none 0 0, .int .u64 0, .slice none 0 0, .slice none 0 0, .slice none 0 0, .int .u64 0, .slice none 0 0, .slice none 0 0, .slice none 0 0, .slice none 0 0])) 32 rfl rfl (fun W => by kernel_rfl) ?_); simp only [pS]) | (with_reducible refine wpl rfl (Stp.box 5 rfl rfl rfl H ?_); clear H; intro g5 w1 H; simp only [pS]; simp only [pE, nC, pS] at H) | (with_reducible refine wpl rfl (Stp.alloc 6 rfl rfl zero49 H ?_); clear H; intro g6 w1 H; simp only [pS]; simp only [nC] at H) | (with_reducible refine wpl rfl (Stp.ldr rfl agg47 size47 rfl H mR sZ ?_); simp only [pS]) | (with_reducible refine wpl rfl (Stp.ldl rfl agg47 size47 rfl H mR (by simp) ?_); simp only [pS]; simp only [List.drop_succ_cons, List.drop_zero, List.take_succ_cons, List.take_zero]) | (with_reducible refine wpl rfl (Stp.ldor rfl agg47 size47 rfl H (by assumption) sZ (by assumption) ?_); simp only [pS]) | (with_reducible refine wpl rfl (Stp.str rfl size49 rfl rfl (by first | rfl | (simp [Value.oneCell']; done) | assumption) H uP sZ sZ ?_); clear H; intro w1 H; simp only [pS]) | (with_reducible refine wpl rfl (Stp.stl rfl size49 rfl rfl rfl rfl H uP (by simp) ?_); clear H; intro w1 H; simp only [pS]; simp only [List.drop_succ_cons, List.drop_zero, List.take_succ_cons, List.take_zero, List.nil_append, List.cons_append, Nat.reduceAdd] at H) | (with_reducible refine wpl rfl (Stp.str rfl size47 rfl rfl (by first | rfl | (simp [Value.oneCell']; done) | assumption) H uP sZ sZ ?_); clear H; intro w1 H; simp only [pS]) | (with_reducible refine wpl rfl (Stp.stl rfl size47 rfl rfl rfl rfl H uP (by simp) ?_); clear H; intro w1 H; simp only [pS]; simp only [List.drop_succ_cons, List.drop_zero, List.take_succ_cons, List.take_zero, List.nil_append, List.cons_append, Nat.reduceAdd] at H) | (with_reducible refine wpl rfl (Stp.alloc 9 rfl rfl zero49 H ?_); clear H; intro g9 w1 H; simp only [pS]; simp only [nC] at H) | (with_reducible refine wpl rfl (Stp.ldc rfl agg103 rfl H mR cE ?_); simp only [pS]) | (with_reducible refine wpl rfl (Stp.ldo rfl agg103 rfl H (by assumption) (by assumption) ?_); simp only [pS]) | (with_reducible refine wpl rfl (Stp.ldr rfl agg49 size49 rfl H mR sZ ?_); simp only [pS]) | (with_reducible refine wpl rfl (Stp.ldl rfl agg49 size49 rfl H mR (by simp) ?_); simp only [pS]; simp only [List.drop_succ_cons, List.drop_zero, List.take_succ_cons, List.take_zero]) | (with_reducible refine wpl rfl (Stp.ldor rfl agg49 size49 rfl H (by assumption) sZ (by assumption) ?_); simp only [pS]))
  refine rg_begin 21 rfl (S := fun W => St _ _ W (row 105 g0 #[.int .u64 (cur : Int), .int .u32 (b.r : Int), .int .u16 (b.w.1 : Int), .int .u32 (b.w.2 : Int), .pointer (some ⟨ga, 0, none⟩)] :: row 109 ga #[.int .u32 (y.r : Int), .int .u16 (y.w.1 : Int), .int .u32 (y.w.2 : Int), .int .i64 c.kind, .int .u16 (c.fr.1 : Int), .int .u32 (c.fr.2 : Int), .int .u64 (c.num : Int), .int .u64 (c.vw : Int), .slice ba c.data.length bc, .int .u64 (c.v.id : Int), .slice ma c.v.mem.length mc, .slice la c.v.lvs.length lc, .slice da c.v.ldr.length dc] :: cmr G (.slice ba c.data.length bc) (.slice ma c.v.mem.length mc) (.slice la c.v.lvs.length lc) (.slice da c.v.ldr.length dc) c :: L)) (by kernel_rfl) (H.drew.sub sU) ?_
  replace H := H.drew
  have HS := H
  refine rg_take (i := 0) rfl kR kR kR (Yld.move rfl rfl) (H.sub sU) ?_; simp only [pS, pE]
  refine rg_take (i := 1) rfl kR kR kR (Yld.o rfl) (H.sub sU) ?_; simp only [pS]
  refine rg_take (i := 2) rfl kR kR kR (Yld.o rfl) (H.sub sU) ?_; simp only [pS]
  first | (refine rg_take (i := 3) rfl kR kR kR (Yld.ldc rfl rfl agg103 rfl mR cE) (H.sub sU) ?_; simp only [pS]) | (refine rg_take (i := 3) rfl kR kR kR (Yld.ldo rfl rfl agg103 rfl (by assumption) (by assumption)) (H.sub sU) ?_; simp only [pS])
  refine rg_take (i := 4) rfl kR kR kR (Yld.o rfl) (H.sub sU) ?_; simp only [pS]
  refine rg_take (i := 5) rfl kR kR kR (Yld.o rfl) (H.sub sU) ?_; simp only [pS]
  first | (refine rg_take (i := 6) rfl kR kR kR (Yld.ldr rfl rfl agg47 size47 rfl mR sZ) (H.sub sU) ?_; simp only [pS]) | (refine rg_take (i := 6) rfl kR kR kR (Yld.ldl rfl rfl agg47 size47 rfl mR (by simp)) (H.sub sU) ?_; simp only [pS]; simp only [List.drop_succ_cons, List.drop_zero, List.take_succ_cons, List.take_zero]) | (refine rg_take (i := 6) rfl kR kR kR (Yld.ldor rfl rfl agg47 size47 rfl (by assumption) sZ (by assumption)) (H.sub sU) ?_; simp only [pS])
  refine rg_take (i := 7) rfl kR kR kR (Yld.move rfl rfl) (H.sub sU) ?_; simp only [pS, pE]
  refine rg_take (i := 8) rfl kR kR kR (Yld.o rfl) (H.sub sU) ?_; simp only [pS]
  refine rg_take (i := 9) rfl kR kR kR (Yld.o rfl) (H.sub sU) ?_; simp only [pS]
  first | (refine rg_take (i := 10) rfl kR kR kR (Yld.ldc rfl rfl agg103 rfl mR cE) (H.sub sU) ?_; simp only [pS]) | (refine rg_take (i := 10) rfl kR kR kR (Yld.ldo rfl rfl agg103 rfl (by assumption) (by assumption)) (H.sub sU) ?_; simp only [pS])
  refine rg_take (i := 11) rfl kR kR kR (Yld.o rfl) (H.sub sU) ?_; simp only [pS]
  refine rg_take (i := 12) rfl kR kR kR (Yld.o rfl) (H.sub sU) ?_; simp only [pS]
  first | (refine rg_take (i := 13) rfl kR kR kR (Yld.ldr rfl rfl agg36 size36 rfl mR sZ) (H.sub sU) ?_; simp only [pS]) | (refine rg_take (i := 13) rfl kR kR kR (Yld.ldl rfl rfl agg36 size36 rfl mR (by simp)) (H.sub sU) ?_; simp only [pS]; simp only [List.drop_succ_cons, List.drop_zero, List.take_succ_cons, List.take_zero]) | (refine rg_take (i := 13) rfl kR kR kR (Yld.ldor rfl rfl agg36 size36 rfl (by assumption) sZ (by assumption)) (H.sub sU) ?_; simp only [pS])
  refine rg_take (i := 15) rfl kR kR kR (Yld.o rfl) (H.sub sU) ?_; simp only [pS]
  refine rg_one (i := 14) (by kernel_rfl) rfl rfl (fun K hK => ?_)
  refine wp_callf rfl ent49 (ccopy_ok c ba ma la da bc mc lc dc hm _ (H.get (r := cmr G (.slice ba c.data.length bc) (.slice ma c.v.mem.length mc) (.slice la c.v.lvs.length lc) (.slice da c.v.ldr.length dc) c) mE)) rfl (fun v w1 hr => ?_)
  obtain ⟨G2, ab, am, al, ad, cb, cm, cl, cd, rfl, hG2, hv2, hb1⟩ := hr
  replace H := H.new hb1 (cmr_sound hG2 hv2) (fun g hg => (hG2 g hg).1)
  clear hb1 hG2 hv2
  clear HS
  have HS := H
  refine hK.out _ _ (H.sub sU) ?_
  clear hK K
  simp only [pS]
  refine rg_one (i := 16) (by kernel_rfl) rfl rfl (fun K hK => ?_)
  refine Stp.wp (Stp.stc rfl size4 rfl rfl rfl rfl H uP (by simp) ?_)
  clear H
  intro w1 H
  simp only [pE, nC, pS] at H
  clear HS
  have HS := H
  refine hK.out _ _ (H.sub sU) ?_
  clear hK K
  simp only [pS]
  refine rg_take (i := 17) rfl kR kR kR (Yld.o rfl) (H.sub sU) ?_; simp only [pS]
  refine rg_one (i := 18) (by kernel_rfl) rfl rfl (fun K hK => ?_)
  refine Stp.wp (Stp.stl (m := [.int .u32 (y.r : Int), .int .u16 (y.w.1 : Int), .int .u32 (y.w.2 : Int)]) rfl size47 rfl rfl rfl rfl H uP (by simp) ?_)
  clear H
  intro w1 H
  simp only [List.drop_succ_cons, List.drop_zero, List.take_succ_cons, List.take_zero, List.nil_append, List.cons_append, Nat.reduceAdd] at H
  clear HS
  have HS := H
  refine hK.out _ _ (H.sub sU) ?_
  clear hK K
  simp only [pS]
  refine rg_take (i := 19) rfl kR kR kR (Yld.o rfl) (H.sub sU) ?_; simp only [pS]
  refine rg_one (i := 20) (by kernel_rfl) rfl rfl (fun K hK => ?_)
  refine Stp.wp (Stp.stl (m := [.int .i64 c.kind, .int .u16 (c.fr.1 : Int), .int .u32 (c.fr.2 : Int), .int .u64 (c.num : Int), .int .u64 (c.vw : Int), .slice ab c.data.length cb, .int .u64 (c.v.id : Int), .slice am c.v.mem.length cm, .slice al c.v.lvs.length cl, .slice ad c.v.ldr.length cd]) rfl size36 rfl rfl rfl rfl H uP (by simp) ?_)
  clear H
  intro w1 H
  simp only [List.drop_succ_cons, List.drop_zero, List.take_succ_cons, List.take_zero, List.nil_append, List.cons_append, Nat.reduceAdd] at H
  clear HS
  have HS := H
  refine hK.out _ _ (H.sub sU) ?_
  clear hK K
  simp only [pS]
  refine rg_done (by kernel_rfl) ?_
  go_wp2_with (first | (with_reducible refine wpl rfl (Stp.box 5 rfl rfl rfl H ?_); clear H; intro g5 w1 H; simp only [pS]; simp only [pE, nC, pS] at H) | (with_reducible refine wpl rfl (Stp.alloc 6 rfl rfl zero49 H ?_); clear H; intro g6 w1 H; simp only [pS]; simp only [nC] at H) | (with_reducible refine wpl rfl (Stp.ldr rfl agg47 size47 rfl H mR sZ ?_); simp only [pS]) | (with_reducible refine wpl rfl (Stp.ldl rfl agg47 size47 rfl H mR (by simp) ?_); simp only [pS]; simp only [List.drop_succ_cons, List.drop_zero, List.take_succ_cons, List.take_zero]) | (with_reducible refine wpl rfl (Stp.ldor rfl agg47 size47 rfl H (by assumption) sZ (by assumption) ?_); simp only [pS]) | (with_reducible refine wpl rfl (Stp.str rfl size49 rfl rfl (by first | rfl | (simp [Value.oneCell']; done) | assumption) H uP sZ sZ ?_); clear H; intro w1 H; simp only [pS]) | (with_reducible refine wpl rfl (Stp.stl rfl size49 rfl rfl rfl rfl H uP (by simp) ?_); clear H; intro w1 H; simp only [pS]; simp only [List.drop_succ_cons, List.drop_zero, List.take_succ_cons, List.take_zero, List.nil_append, List.cons_append, Nat.reduceAdd] at H) | (with_reducible refine wpl rfl (Stp.str rfl size47 rfl rfl (by first | rfl | (simp [Value.oneCell']; done) | assumption) H uP sZ sZ ?_); clear H; intro w1 H; simp only [pS]) | (with_reducible refine wpl rfl (Stp.stl rfl size47 rfl rfl rfl rfl H uP (by simp) ?_); clear H; intro w1 H; simp only [pS]; simp only [List.drop_succ_cons, List.drop_zero, List.take_succ_cons, List.take_zero, List.nil_append, List.cons_append, Nat.reduceAdd] at H) | (with_reducible refine wpl rfl (Stp.alloc 9 rfl rfl zero49 H ?_); clear H; intro g9 w1 H; simp only [pS]; simp only [nC] at H) | (with_reducible refine wpl rfl (Stp.ldc rfl agg103 rfl H mR cE ?_); simp only [pS]) | (with_reducible refine wpl rfl (Stp.ldo rfl agg103 rfl H (by assumption) (by assumption) ?_); simp only [pS]) | (with_reducible refine wpl rfl (Stp.ldr rfl agg49 size49 rfl H mR sZ ?_); simp only [pS]) | (with_reducible refine wpl rfl (Stp.ldl rfl agg49 size49 rfl H mR (by simp) ?_); simp only [pS]; simp only [List.drop_succ_cons, List.drop_zero, List.take_succ_cons, List.take_zero]) | (with_reducible refine wpl rfl (Stp.ldor rfl agg49 size49 rfl H (by assumption) sZ (by assumption) ?_); simp only [pS]))
  refine post_row2 rfl agg49 size49 rfl H mE rfl rfl ⟨_, rfl, ⟨ab, am, al, ad, cb, cm, cl, cd⟩, G2, rfl, ?_⟩
  exact ((((H.pull (r := cmr G2 _ _ _ _ c) pU).pull (r := cmr G _ _ _ _ c) pU).pull (r := row 109 ga _) pU).pull (r := row 105 g0 _) pU).sub sU
theorem aslot_ok {B : Nat} {w0 : World} {L : List Res} (g0 cur : Nat) (pr : Bl) (x : Option Addr) (w : World) (H : St B w0 w (row 105 g0 #[.int .u64 (cur : Int), .int .u32 (pr.r : Int), .int .u16 (pr.w.1 : Int), .int .u32 (pr.w.2 : Int), .pointer x] :: L)) :
    Calls Try.prog 38 #[.pointer (some ⟨g0, 0, none⟩)] w (Ret fun v w' => v = .int .u64 (cur : Int) ∧ St B w0 w' (row 105 g0 #[.int .u64 (cur : Int), .int .u32 (pr.r : Int), .int .u16 (pr.w.1 : Int), .int .u32 (pr.w.2 : Int), .pointer x] :: L)) := by
  go_enter Try.func38, Try.ntmps38
  go_wp2_with (first | (with_reducible refine wpl rfl (Stp.ldc rfl agg26 rfl H mR cE ?_); simp only [pS]) | (with_reducible refine wpl rfl (Stp.ldo rfl agg26 rfl H (by assumption) (by assumption) ?_); simp only [pS]))
  go_ret
  exact ⟨_, rfl, rfl, H⟩
theorem apromised_ok {B : Nat} {w0 : World} {L : List Res} (g0 cur : Nat) (pr : Bl) (x : Option Addr) (w : World) (H : St B w0 w (row 105 g0 #[.int .u64 (cur : Int), .int .u32 (pr.r : Int), .int .u16 (pr.w.1 : Int), .int .u32 (pr.w.2 : Int), .pointer x] :: L)) :
    Calls Try.prog 39 #[.pointer (some ⟨g0, 0, none⟩)] w (Ret fun v w' => v = .agg (blC pr) ∧ St B w0 w' (row 105 g0 #[.int .u64 (cur : Int), .int .u32 (pr.r : Int), .int .u16 (pr.w.1 : Int), .int .u32 (pr.w.2 : Int), .pointer x] :: L)) := by
  go_enter Try.func39, Try.ntmps39
  go_wp2_with (first | (with_reducible refine wpl rfl (Stp.alloc 2 rfl rfl zero47 H ?_); clear H; intro g2 w1 H; simp only [pS]; simp only [nC] at H) | (with_reducible refine wpl rfl (Stp.str rfl size47 rfl rfl (by first | rfl | (simp [Value.oneCell']; done) | assumption) H uP sZ sZ ?_); clear H; intro w1 H; simp only [pS]) | (with_reducible refine wpl rfl (Stp.stl rfl size47 rfl rfl rfl rfl H uP (by simp) ?_); clear H; intro w1 H; simp only [pS]; simp only [List.drop_succ_cons, List.drop_zero, List.take_succ_cons, List.take_zero, List.nil_append, List.cons_append, Nat.reduceAdd] at H) | (with_reducible refine wpl rfl (Stp.ldr rfl agg47 size47 rfl H mR sZ ?_); simp only [pS]) | (with_reducible refine wpl rfl (Stp.ldl rfl agg47 size47 rfl H mR (by simp) ?_); simp only [pS]; simp only [List.drop_succ_cons, List.drop_zero, List.take_succ_cons, List.take_zero]) | (with_reducible refine wpl rfl (Stp.ldor rfl agg47 size47 rfl H (by assumption) sZ (by assumption) ?_); simp only [pS]))
  exact post_row rfl agg47 size47 rfl H mE rfl rfl ⟨_, rfl, rfl, (H.pull (r := row 105 g0 _) pU).sub sU⟩
theorem aadvNo_ok {B : Nat} {w0 : World} {L : List Res} (g0 cur slot : Nat) (pr : Bl) (x : Option Addr) (hs : slot ≤ cur) (w : World) (H : St B w0 w (row 105 g0 #[.int .u64 (cur : Int), .int .u32 (pr.r : Int), .int .u16 (pr.w.1 : Int), .int .u32 (pr.w.2 : Int), .pointer x] :: L)) :
    Calls Try.prog 41 #[.pointer (some ⟨g0, 0, none⟩), .int .u64 (slot : Int)] w (Ret fun v w' => v = .bool false ∧ St B w0 w' (row 105 g0 #[.int .u64 (cur : Int), .int .u32 (pr.r : Int), .int .u16 (pr.w.1 : Int), .int .u32 (pr.w.2 : Int), .pointer x] :: L)) := by
  have hi : (slot : Int) ≤ (cur : Int) := by omega
  clear hs
  go_enter Try.func41, Try.ntmps41
  go_wp2_with (first | (with_reducible refine wpl rfl (Stp.ldc rfl agg26 rfl H mR cE ?_); simp only [pS]) | (with_reducible refine wpl rfl (Stp.ldo rfl agg26 rfl H (by assumption) (by assumption) ?_); simp only [pS]) | (with_reducible refine wpl rfl (Stp.stc rfl size26 rfl rfl rfl rfl H uP (by first | omega | (simp; done) | (simp; omega)) ?_); clear H; intro w1 H; simp only [pS]; simp only [pE, nC, pS] at H) | (with_reducible refine wpl rfl (Stp.stc rfl size103 rfl rfl rfl rfl H uP (by first | omega | (simp; done) | (simp; omega)) ?_); clear H; intro w1 H; simp only [pS]; simp only [pE, nC, pS] at H))
  go_ret
  exact ⟨_, rfl, rfl, H⟩
theorem aadvYes_ok {B : Nat} {w0 : World} {L : List Res} (g0 cur slot : Nat) (pr : Bl) (x : Option Addr) (hs : cur < slot) (w : World) (H : St B w0 w (row 105 g0 #[.int .u64 (cur : Int), .int .u32 (pr.r : Int), .int .u16 (pr.w.1 : Int), .int .u32 (pr.w.2 : Int), .pointer x] :: L)) :
    Calls Try.prog 41 #[.pointer (some ⟨g0, 0, none⟩), .int .u64 (slot : Int)] w (Ret fun v w' => v = .bool true ∧ St B w0 w' (row 105 g0 #[.int .u64 (slot : Int), .int .u32 (pr.r : Int), .int .u16 (pr.w.1 : Int), .int .u32 (pr.w.2 : Int), .pointer none] :: L)) := by
  have hi : ¬ (slot : Int) ≤ (cur : Int) := by omega
  clear hs
  go_enter Try.func41, Try.ntmps41
  go_wp2_with (first | (with_reducible refine wpl rfl (Stp.ldc rfl agg26 rfl H mR cE ?_); simp only [pS]) | (with_reducible refine wpl rfl (Stp.ldo rfl agg26 rfl H (by assumption) (by assumption) ?_); simp only [pS]) | (with_reducible refine wpl rfl (Stp.stc rfl size26 rfl rfl rfl rfl H uP (by first | omega | (simp; done) | (simp; omega)) ?_); clear H; intro w1 H; simp only [pS]; simp only [pE, nC, pS] at H) | (with_reducible refine wpl rfl (Stp.stc rfl size103 rfl rfl rfl rfl H uP (by first | omega | (simp; done) | (simp; omega)) ?_); clear H; intro w1 H; simp only [pS]; simp only [pE, nC, pS] at H))
  go_ret
  exact ⟨_, rfl, rfl, H⟩
theorem aacced0_ok {B : Nat} {w0 : World} {L : List Res} (g0 cur : Nat) (pr : Bl) (w : World) (H : St B w0 w (row 105 g0 #[.int .u64 (cur : Int), .int .u32 (pr.r : Int), .int .u16 (pr.w.1 : Int), .int .u32 (pr.w.2 : Int), .pointer none] :: L)) :
    Calls Try.prog 27 #[.pointer (some ⟨g0, 0, none⟩)] w (Ret fun v w' => v = .tuple #[.agg #[.int .u32 0, .int .u16 0, .int .u32 0], .agg #[.int .i64 0, .int .u16 0, .int .u32 0, .int .u64 0, .int .u64 0, .slice none 0 0, .int .u64 0, .slice none 0 0, .slice none 0 0, .slice none 0 0], .bool false] ∧ St B w0 w' (row 105 g0 #[.int .u64 (cur : Int), .int .u32 (pr.r : Int), .int .u16 (pr.w.1 : Int), .int .u32 (pr.w.2 : Int), .pointer none] :: L)) := by
  go_enter Try.func27, Try.ntmps27
  go_wp2_with (first | (with_reducible refine wpl rfl (Stp.build (v := (.agg #[.int .u32 0, .int .u16 0, .int .u32 0])) 14 rfl rfl (fun W => by kernel_rfl) ?_); simp only [pS]) | (with_reducible refine wpl rfl (Stp.build (v := (.agg #[.int .i64 0, .int .u16 0, .int .u32 0, .int .u64 0, .int .u64 0, .slice none 0 0, .int .u64 0, .slice none 0 0, .slice none 0 0, .slice none 0 0])) 15 rfl rfl (fun W => by kernel_rfl) ?_); simp only [pS]) | (with_reducible refine wpl rfl (Stp.alloc 2 rfl rfl zero47 H ?_); clear H; intro g2 w1 H; simp only [pS]; simp only [nC] at H) | (with_reducible refine wpl rfl (Stp.alloc 3 rfl rfl zero36 H ?_); clear H; intro g3 w1 H; simp only [pS]; simp only [nC] at H) | (with_reducible refine wpl rfl (Stp.ldc rfl agg103 rfl H mR cE ?_); simp only [pS]) | (with_reducible refine wpl rfl (Stp.ldo rfl agg103 rfl H (by assumption) (by assumption) ?_); simp only [pS]) | (with_reducible refine wpl rfl (Stp.str rfl size47 rfl rfl (by first | rfl | (simp [Value.oneCell']; done) | assumption) H uP sZ sZ ?_); clear H; intro w1 H; simp only [pS]) | (with_reducible refine wpl rfl (Stp.stl rfl size47 rfl rfl rfl rfl H uP (by simp) ?_); clear H; intro w1 H; simp only [pS]; simp only [List.drop_succ_cons, List.drop_zero, List.take_succ_cons, List.take_zero, List.nil_append, List.cons_append, Nat.reduceAdd] at H) | (with_reducible refine wpl rfl (Stp.str rfl size36 rfl rfl (by first | rfl | (simp [Value.oneCell']; done) | assumption) H uP sZ sZ ?_); clear H; intro w1 H; simp only [pS]) | (with_reducible refine wpl rfl (Stp.stl rfl size36 rfl rfl rfl rfl H uP (by simp) ?_); clear H; intro w1 H; simp only [pS]; simp only [List.drop_succ_cons, List.drop_zero, List.take_succ_cons, List.take_zero, List.nil_append, List.cons_append, Nat.reduceAdd] at H))
  exact post_row21 rfl agg47 size47 agg36 size36 rfl rfl H mE mE rfl rfl rfl ⟨_, rfl, rfl, (H.pull (r := row 105 g0 _) pU).sub sU⟩
theorem aacced1_ok {B : Nat} {w0 : World} {L : List Res} {G : Nat → Prop} (g0 cur : Nat) (pr y : Bl) (ga : Nat) (c : Cm) (ba ma la da : Option Addr) (bc mc lc dc : Nat) (hm : smC c) (w : World) (H : St B w0 w (row 105 g0 #[.int .u64 (cur : Int), .int .u32 (pr.r : Int), .int .u16 (pr.w.1 : Int), .int .u32 (pr.w.2 : Int), .pointer (some ⟨ga, 0, none⟩)] :: row 109 ga #[.int .u32 (y.r : Int), .int .u16 (y.w.1 : Int), .int .u32 (y.w.2 : Int), .int .i64 c.kind, .int .u16 (c.fr.1 : Int), .int .u32 (c.fr.2 : Int), .int .u64 (c.num : Int), .int .u64 (c.vw : Int), .slice ba c.data.length bc, .int .u64 (c.v.id : Int), .slice ma c.v.mem.length mc, .slice la c.v.lvs.length lc, .slice da c.v.ldr.length dc] :: cmr G (.slice ba c.data.length bc) (.slice ma c.v.mem.length mc) (.slice la c.v.lvs.length lc) (.slice da c.v.ldr.length dc) c :: L)) :
    Calls Try.prog 27 #[.pointer (some ⟨g0, 0, none⟩)] w (Ret fun v w' => ∃ (h : Hd) (G2 : Nat → Prop), v = .tuple #[.agg (blC y), .agg (cmH c h), .bool true] ∧ St B w0 w' (row 105 g0 #[.int .u64 (cur : Int), .int .u32 (pr.r : Int), .int .u16 (pr.w.1 : Int), .int .u32 (pr.w.2 : Int), .pointer (some ⟨ga, 0, none⟩)] :: row 109 ga #[.int .u32 (y.r : Int), .int .u16 (y.w.1 : Int), .int .u32 (y.w.2 : Int), .int .i64 c.kind, .int .u16 (c.fr.1 : Int), .int .u32 (c.fr.2 : Int), .int .u64 (c.num : Int), .int .u64 (c.vw : Int), .slice ba c.data.length bc, .int .u64 (c.v.id : Int), .slice ma c.v.mem.length mc, .slice la c.v.lvs.length lc, .slice da c.v.ldr.length dc] :: cmr G (.slice ba c.data.length bc) (.slice ma c.v.mem.length mc) (.slice la c.v.lvs.length lc) (.slice da c.v.ldr.length dc) c :: cmr G2 (.slice h.ba c.data.length h.bc) (.slice h.ma c.v.mem.length h.mc) (.slice h.la c.v.lvs.length h.lc) (.slice h.da c.v.ldr.length h.dc) c :: L)) := by
  go_enter Try.func27, Try.ntmps27
  go_wp2_with (first | (with_reducible refine wpl rfl (Stp.alloc 2 rfl rfl zero47 H ?_); clear H; intro g2 w1 H; simp only [pS]; simp only [nC] at H) | (with_reducible refine wpl rfl (Stp.alloc 3 rfl rfl zero36 H ?_); clear H; intro g3 w1 H; simp only [pS]; simp only [nC] at H) | (with_reducible refine wpl rfl (Stp.ldc rfl agg103 rfl H mR cE ?_); simp only [pS]) | (with_reducible refine wpl rfl (Stp.ldo rfl agg103 rfl H (by assumption) (by assumption) ?_); simp only [pS]) | (with_reducible refine wpl rfl (Stp.str rfl size47 rfl rfl (by first | rfl | (simp [Value.oneCell']; done) | assumption) H uP sZ sZ ?_); clear H; intro w1 H; simp only [pS]) | (with_reducible refine wpl rfl (Stp.stl rfl size47 rfl rfl rfl rfl H uP (by simp) ?_); clear H; intro w1 H; simp only [pS]; simp only [List.drop_succ_cons, List.drop_zero, List.take_succ_cons, List.take_zero, List.nil_append, List.cons_append, Nat.reduceAdd] at H) | (with_reducible refine wpl rfl (Stp.str rfl size36 rfl rfl (by first | rfl | (simp [Value.oneCell']; done) | assumption) H uP sZ sZ ?_); clear H; intro w1 H; simp only [pS]) | (with_reducible refine wpl rfl (Stp.stl rfl size36 rfl rfl rfl rfl H uP (by simp) ?_); clear H; intro w1 H; simp only [pS]; simp only [List.drop_succ_cons, List.drop_zero, List.take_succ_cons, List.take_zero, List.nil_append, List.cons_append, Nat.reduceAdd] at H))
  refine rg_begin 18 rfl (S := fun W => St _ _ W (row 105 g0 #[.int .u64 (cur : Int), .int .u32 (pr.r : Int), .int .u16 (pr.w.1 : Int), .int .u32 (pr.w.2 : Int), .pointer (some ⟨ga, 0, none⟩)] :: row 109 ga #[.int .u32 (y.r : Int), .int .u16 (y.w.1 : Int), .int .u32 (y.w.2 : Int), .int .i64 c.kind, .int .u16 (c.fr.1 : Int), .int .u32 (c.fr.2 : Int), .int .u64 (c.num : Int), .int .u64 (c.vw : Int), .slice ba c.data.length bc, .int .u64 (c.v.id : Int), .slice ma c.v.mem.length mc, .slice la c.v.lvs.length lc, .slice da c.v.ldr.length dc] :: cmr G (.slice ba c.data.length bc) (.slice ma c.v.mem.length mc) (.slice la c.v.lvs.length lc) (.slice da c.v.ldr.length dc) c :: L)) (by kernel_rfl) (H.drew.sub sU) ?_
  replace H := H.drew
  have HS := H
  refine rg_take (i := 0) rfl kR kR kR (Yld.move rfl rfl) (H.sub sU) ?_; simp only [pS, pE]
  refine rg_take (i := 1) rfl kR kR kR (Yld.o rfl) (H.sub sU) ?_; simp only [pS]
  refine rg_take (i := 2) rfl kR kR kR (Yld.o rfl) (H.sub sU) ?_; simp only [pS]
  first | (refine rg_take (i := 3) rfl kR kR kR (Yld.ldc rfl rfl agg103 rfl mR cE) (H.sub sU) ?_; simp only [pS]) | (refine rg_take (i := 3) rfl kR kR kR (Yld.ldo rfl rfl agg103 rfl (by assumption) (by assumption)) (H.sub sU) ?_; simp only [pS])
  refine rg_take (i := 4) rfl kR kR kR (Yld.o rfl) (H.sub sU) ?_; simp only [pS]
  refine rg_take (i := 5) rfl kR kR kR (Yld.o rfl) (H.sub sU) ?_; simp only [pS]
  first | (refine rg_take (i := 6) rfl kR kR kR (Yld.ldr rfl rfl agg47 size47 rfl mR sZ) (H.sub sU) ?_; simp only [pS]) | (refine rg_take (i := 6) rfl kR kR kR (Yld.ldl rfl rfl agg47 size47 rfl mR (by simp)) (H.sub sU) ?_; simp only [pS]; simp only [List.drop_succ_cons, List.drop_zero, List.take_succ_cons, List.take_zero]) | (refine rg_take (i := 6) rfl kR kR kR (Yld.ldor rfl rfl agg47 size47 rfl (by assumption) sZ (by assumption)) (H.sub sU) ?_; simp only [pS])
  refine rg_take (i := 7) rfl kR kR kR (Yld.move rfl rfl) (H.sub sU) ?_; simp only [pS, pE]
  refine rg_take (i := 8) rfl kR kR kR (Yld.o rfl) (H.sub sU) ?_; simp only [pS]
  refine rg_take (i := 9) rfl kR kR kR (Yld.o rfl) (H.sub sU) ?_; simp only [pS]
  first | (refine rg_take (i := 10) rfl kR kR kR (Yld.ldc rfl rfl agg103 rfl mR cE) (H.sub sU) ?_; simp only [pS]) | (refine rg_take (i := 10) rfl kR kR kR (Yld.ldo rfl rfl agg103 rfl (by assumption) (by assumption)) (H.sub sU) ?_; simp only [pS])
  refine rg_take (i := 11) rfl kR kR kR (Yld.o rfl) (H.sub sU) ?_; simp only [pS]
  refine rg_take (i := 12) rfl kR kR kR (Yld.o rfl) (H.sub sU) ?_; simp only [pS]
  first | (refine rg_take (i := 13) rfl kR kR kR (Yld.ldr rfl rfl agg36 size36 rfl mR sZ) (H.sub sU) ?_; simp only [pS]) | (refine rg_take (i := 13) rfl kR kR kR (Yld.ldl rfl rfl agg36 size36 rfl mR (by simp)) (H.sub sU) ?_; simp only [pS]; simp only [List.drop_succ_cons, List.drop_zero, List.take_succ_cons, List.take_zero]) | (refine rg_take (i := 13) rfl kR kR kR (Yld.ldor rfl rfl agg36 size36 rfl (by assumption) sZ (by assumption)) (H.sub sU) ?_; simp only [pS])
  refine rg_one (i := 14) (by kernel_rfl) rfl rfl (fun K hK => ?_)
  refine wp_callf rfl ent49 (ccopy_ok c ba ma la da bc mc lc dc hm _ (H.get (r := cmr G (.slice ba c.data.length bc) (.slice ma c.v.mem.length mc) (.slice la c.v.lvs.length lc) (.slice da c.v.ldr.length dc) c) mE)) rfl (fun v w1 hr => ?_)
  obtain ⟨G2, ab, am, al, ad, cb, cm, cl, cd, rfl, hG2, hv2, hb1⟩ := hr
  replace H := H.new hb1 (cmr_sound hG2 hv2) (fun g hg => (hG2 g hg).1)
  clear hb1 hG2 hv2
  clear HS
  have HS := H
  refine hK.out _ _ (H.sub sU) ?_
  clear hK K
  simp only [pS]
  refine rg_one (i := 15) (by kernel_rfl) rfl rfl (fun K hK => ?_)
  refine Stp.wp (Stp.str rfl size47 rfl rfl (by simp [Value.oneCell']) H uP rfl rfl ?_)
  clear H
  intro w1 H
  clear HS
  have HS := H
  refine hK.out _ _ (H.sub sU) ?_
  clear hK K
  simp only [pS]
  refine rg_one (i := 16) (by kernel_rfl) rfl rfl (fun K hK => ?_)
  refine Stp.wp (Stp.str (ds := #[.int .i64 c.kind, .int .u16 (c.fr.1 : Int), .int .u32 (c.fr.2 : Int), .int .u64 (c.num : Int), .int .u64 (c.vw : Int), .slice ab c.data.length cb, .int .u64 (c.v.id : Int), .slice am c.v.mem.length cm, .slice al c.v.lvs.length cl, .slice ad c.v.ldr.length cd]) rfl size36 rfl rfl (by simp [Value.oneCell']) H uP rfl rfl ?_)
  clear H
  intro w1 H
  clear HS
  have HS := H
  refine hK.out _ _ (H.sub sU) ?_
  clear hK K
  simp only [pS]
  refine rg_take (i := 17) rfl kR kR kR (Yld.assign rfl rfl) (H.sub sU) ?_; simp only [pS, pE]
  refine rg_done (by kernel_rfl) ?_
  go_wp2_with (first | (with_reducible refine wpl rfl (Stp.alloc 2 rfl rfl zero47 H ?_); clear H; intro g2 w1 H; simp only [pS]; simp only [nC] at H) | (with_reducible refine wpl rfl (Stp.alloc 3 rfl rfl zero36 H ?_); clear H; intro g3 w1 H; simp only [pS]; simp only [nC] at H) | (with_reducible refine wpl rfl (Stp.ldc rfl agg103 rfl H mR cE ?_); simp only [pS]) | (with_reducible refine wpl rfl (Stp.ldo rfl agg103 rfl H (by assumption) (by assumption) ?_); simp only [pS]) | (with_reducible refine wpl rfl (Stp.str rfl size47 rfl rfl (by first | rfl | (simp [Value.oneCell']; done) | assumption) H uP sZ sZ ?_); clear H; intro w1 H; simp only [pS]) | (with_reducible refine wpl rfl (Stp.stl rfl size47 rfl rfl rfl rfl H uP (by simp) ?_); clear H; intro w1 H; simp only [pS]; simp only [List.drop_succ_cons, List.drop_zero, List.take_succ_cons, List.take_zero, List.nil_append, List.cons_append, Nat.reduceAdd] at H) | (with_reducible refine wpl rfl (Stp.str rfl size36 rfl rfl (by first | rfl | (simp [Value.oneCell']; done) | assumption) H uP sZ sZ ?_); clear H; intro w1 H; simp only [pS]) | (with_reducible refine wpl rfl (Stp.stl rfl size36 rfl rfl rfl rfl H uP (by simp) ?_); clear H; intro w1 H; simp only [pS]; simp only [List.drop_succ_cons, List.drop_zero, List.take_succ_cons, List.take_zero, List.nil_append, List.cons_append, Nat.reduceAdd] at H))
  exact post_row21 rfl agg47 size47 agg36 size36 rfl rfl H mE mE rfl rfl rfl ⟨_, rfl, ⟨ab, am, al, ad, cb, cm, cl, cd⟩, G2, rfl, ((((H.pull (r := cmr G2 _ _ _ _ c) pU).pull (r := cmr G _ _ _ _ c) pU).pull (r := row 109 ga _) pU).pull (r := row 105 g0 _) pU).sub sU⟩
end Go.Proofs.Ytmokecicjmjkbaa
