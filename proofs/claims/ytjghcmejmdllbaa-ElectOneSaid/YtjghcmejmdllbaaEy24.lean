/- Contracts of layer 20's Acceptor (accept): Prepare where something was accepted, Accepted, Advance, Slot, Promised; the bounds stand in each. Layer 20's Acceptor (accept) as one resource, for slot 1: what Prepare and Accept make of it; the bounds stand in each. What any number stands for among 0 to n - 1 (choragusref01.Pick); no condition. ElectOne's walk, its parts: the view and its leaders as memory that was there; three proposers and three acceptors as resources; the calls' contracts in the walk's words; the script, opened. -/
import Derived.Test.YtjghcmejmdllbaaEy4
import Derived.Test.YtjghcmejmdllbaaEy13
import Derived.Test.YtjghcmejmdllbaaEy22
import Derived.Test.YtjghcmejmdllbaaEy23
namespace Go.Proofs.Ytjghcmejmdllbaa
open Go.ChangeShapes Go.WideShapes Go.ChangeAt Go.RowKit Go.Maps
set_option linter.unusedVariables false
set_option linter.unusedSimpArgs false
set_option maxRecDepth 100000
set_option maxHeartbeats 2000000
attribute [local irreducible] may asE blt cErr
theorem aprepYes1_ok {B : Nat} {w0 : World} {L : List Res} {G : Nat → Prop} (g0 cur slot : Nat) (pr b : Bl) (y : Bl) (ga : Nat) (c : Cm) (ba ma la da : Option Addr) (bc mc lc dc : Nat) (hm : smC c) (b1 : b.w.1 < 65536) (b2 : b.w.2 < 4294967296) (p1 : pr.w.1 < 65536) (p2 : pr.w.2 < 4294967296) (he : asE cur slot b = 0) (hb : blt b pr = false) (w : World) (H : St B w0 w (row 156 g0 #[.int .u64 (cur : Int), .int .u32 (pr.r : Int), .int .u16 (pr.w.1 : Int), .int .u32 (pr.w.2 : Int), .pointer (some ⟨ga, 0, none⟩)] :: row 160 ga #[.int .u32 (y.r : Int), .int .u16 (y.w.1 : Int), .int .u32 (y.w.2 : Int), .int .i64 c.kind, .int .u16 (c.fr.1 : Int), .int .u32 (c.fr.2 : Int), .int .u64 (c.num : Int), .int .u64 (c.vw : Int), .slice ba c.data.length bc, .int .u64 (c.v.id : Int), .slice ma c.v.mem.length mc, .slice la c.v.lvs.length lc, .slice da c.v.ldr.length dc] :: cmr G (.slice ba c.data.length bc) (.slice ma c.v.mem.length mc) (.slice la c.v.lvs.length lc) (.slice da c.v.ldr.length dc) c :: L)) :
    Calls Try.prog 55 #[.pointer (some ⟨g0, 0, none⟩), .int .u64 (slot : Int), .agg (blC b)] w (Ret fun v w' => ∃ (h : Hd) (G2 : Nat → Prop), v = .tuple #[.agg (mgC 5 (slot : Int) b y true c h), .int .i64 0] ∧ St B w0 w' (row 156 g0 #[.int .u64 (cur : Int), .int .u32 (b.r : Int), .int .u16 (b.w.1 : Int), .int .u32 (b.w.2 : Int), .pointer (some ⟨ga, 0, none⟩)] :: row 160 ga #[.int .u32 (y.r : Int), .int .u16 (y.w.1 : Int), .int .u32 (y.w.2 : Int), .int .i64 c.kind, .int .u16 (c.fr.1 : Int), .int .u32 (c.fr.2 : Int), .int .u64 (c.num : Int), .int .u64 (c.vw : Int), .slice ba c.data.length bc, .int .u64 (c.v.id : Int), .slice ma c.v.mem.length mc, .slice la c.v.lvs.length lc, .slice da c.v.ldr.length dc] :: cmr G (.slice ba c.data.length bc) (.slice ma c.v.mem.length mc) (.slice la c.v.lvs.length lc) (.slice da c.v.ldr.length dc) c :: cmr G2 (.slice h.ba c.data.length h.bc) (.slice h.ma c.v.mem.length h.mc) (.slice h.la c.v.lvs.length h.lc) (.slice h.da c.v.ldr.length h.dc) c :: L)) := by
  have HE := Lib.hid he
  have HB := Lib.hid hb
  clear he hb
  simp only [blC]
  go_enter Try.func55, Try.ntmps55
  go_wp2_with (first | (go_at_call 96; (with_reducible refine (asked_ok g0 cur slot pr b (some ⟨ga, 0, none⟩) 0 HE.out _ (H.getHeap mE)).mono ?_); rintro e w1 ⟨v, rfl, hr⟩; obtain ⟨rfl, hb1⟩ := hr; replace H := H.grow hb1; clear hb1) | (with_reducible refine wpl rfl (dQ 5 rfl ?_); with_reducible refine (Stp.box 5 rfl rfl rfl H ?_); clear H; intro g5 w1 H; simp only [pS]; simp only [pE, nC, pS] at H) | (with_reducible refine wpl rfl (dQ 6 rfl ?_); with_reducible refine (Stp.alloc 6 rfl rfl zero74 H ?_); clear H; intro g6 w1 H; simp only [pS]; simp only [nC] at H) | (with_reducible refine wpl rfl (ldQ (ty := 67) rfl ?_); first | (with_reducible refine (Stp.ldor rfl agg67 size67 rfl H (by assumption) sZ (by assumption) ?_); simp only [pS]) | (with_reducible refine (Stp.ldr rfl agg67 size67 rfl H mR sZ ?_); simp only [pS]) | (with_reducible refine (Stp.ldl rfl agg67 size67 rfl H mR (by simp) ?_); simp only [pS]; simp only [List.drop_succ_cons, List.drop_zero, List.take_succ_cons, List.take_zero])) | (with_reducible refine wpl rfl (stQ (ty := 74) rfl ?_); first | (with_reducible refine (Stp.str rfl size74 rfl rfl (by first | rfl | (simp [Value.oneCell']; done) | assumption) H uP sZ sZ ?_); clear H; intro w1 H; simp only [pS]) | (with_reducible refine (Stp.stl rfl size74 rfl rfl rfl rfl H uP (by simp) ?_); clear H; intro w1 H; simp only [pS]; simp only [List.drop_succ_cons, List.drop_zero, List.take_succ_cons, List.take_zero, List.nil_append, List.cons_append, Nat.reduceAdd] at H)) | (with_reducible refine wpl rfl (stQ (ty := 67) rfl ?_); first | (with_reducible refine (Stp.str rfl size67 rfl rfl (by first | rfl | (simp [Value.oneCell']; done) | assumption) H uP sZ sZ ?_); clear H; intro w1 H; simp only [pS]) | (with_reducible refine (Stp.stl rfl size67 rfl rfl rfl rfl H uP (by simp) ?_); clear H; intro w1 H; simp only [pS]; simp only [List.drop_succ_cons, List.drop_zero, List.take_succ_cons, List.take_zero, List.nil_append, List.cons_append, Nat.reduceAdd] at H)) | (with_reducible refine wpl rfl (dQ 9 rfl ?_); with_reducible refine (Stp.alloc 9 rfl rfl zero74 H ?_); clear H; intro g9 w1 H; simp only [pS]; simp only [nC] at H) | (with_reducible refine wpl rfl (ldQ (ty := 154) rfl ?_); first | (with_reducible refine (Stp.ldo rfl agg154 rfl H (by assumption) (by assumption) ?_); simp only [pS]) | (with_reducible refine (Stp.ldc rfl agg154 rfl H mR cE ?_); simp only [pS])) | (with_reducible refine wpl rfl (ldQ (ty := 74) rfl ?_); first | (with_reducible refine (Stp.ldor rfl agg74 size74 rfl H (by assumption) sZ (by assumption) ?_); simp only [pS]) | (with_reducible refine (Stp.ldr rfl agg74 size74 rfl H mR sZ ?_); simp only [pS]) | (with_reducible refine (Stp.ldl rfl agg74 size74 rfl H mR (by simp) ?_); simp only [pS]; simp only [List.drop_succ_cons, List.drop_zero, List.take_succ_cons, List.take_zero])))
  refine rg_begin 6 rfl (S := fun W => St _ _ W (row 74 g6 #[.int .i64 0, .int .u16 0, .int .u32 0, .int .u64 0, .int .u64 0, .int .u64 0, .int .i64 0, .int .u32 0, .int .u16 0, .int .u32 0, .int .u32 0, .int .u16 0, .int .u32 0, .bool false, .int .i64 0, .int .u16 0, .int .u32 0, .int .u64 0, .int .u64 0, .slice none 0 0, .int .u64 0, .slice none 0 0, .slice none 0 0, .slice none 0 0, .int .u64 0, .slice none 0 0, .slice none 0 0, .slice none 0 0, .slice none 0 0] :: row 67 g5 #[.int .u32 (b.r : Int), .int .u16 (b.w.1 : Int), .int .u32 (b.w.2 : Int)] :: row 156 g0 #[.int .u64 (cur : Int), .int .u32 (pr.r : Int), .int .u16 (pr.w.1 : Int), .int .u32 (pr.w.2 : Int), .pointer (some ⟨ga, 0, none⟩)] :: row 160 ga #[.int .u32 (y.r : Int), .int .u16 (y.w.1 : Int), .int .u32 (y.w.2 : Int), .int .i64 c.kind, .int .u16 (c.fr.1 : Int), .int .u32 (c.fr.2 : Int), .int .u64 (c.num : Int), .int .u64 (c.vw : Int), .slice ba c.data.length bc, .int .u64 (c.v.id : Int), .slice ma c.v.mem.length mc, .slice la c.v.lvs.length lc, .slice da c.v.ldr.length dc] :: cmr G (.slice ba c.data.length bc) (.slice ma c.v.mem.length mc) (.slice la c.v.lvs.length lc) (.slice da c.v.ldr.length dc) c :: L)) (by kernel_rfl) (H.drew.sub sU) ?_
  replace H := H.drew
  have HS := H
  first | (refine rg_take (i := 0) rfl kR kR kR (Yld.ldor rfl rfl agg67 size67 rfl (by assumption) sZ (by assumption)) (H.sub sU) ?_; simp only [pS]) | (refine rg_take (i := 0) rfl kR kR kR (Yld.ldr rfl rfl agg67 size67 rfl mR sZ) (H.sub sU) ?_; simp only [pS]) | (refine rg_take (i := 0) rfl kR kR kR (Yld.ldl rfl rfl agg67 size67 rfl mR (by simp)) (H.sub sU) ?_; simp only [pS]; simp only [List.drop_succ_cons, List.drop_zero, List.take_succ_cons, List.take_zero])
  refine rg_take (i := 1) rfl kR kR kR (Yld.move rfl rfl) (H.sub sU) ?_; simp only [pS, pE]
  refine rg_take (i := 2) rfl kR kR kR (Yld.o rfl) (H.sub sU) ?_; simp only [pS]
  refine rg_take (i := 3) rfl kR kR kR (Yld.o rfl) (H.sub sU) ?_; simp only [pS]
  first | (refine rg_take (i := 4) rfl kR kR kR (Yld.ldor rfl rfl agg67 size67 rfl (by assumption) sZ (by assumption)) (H.sub sU) ?_; simp only [pS]) | (refine rg_take (i := 4) rfl kR kR kR (Yld.ldr rfl rfl agg67 size67 rfl mR sZ) (H.sub sU) ?_; simp only [pS]) | (refine rg_take (i := 4) rfl kR kR kR (Yld.ldl rfl rfl agg67 size67 rfl mR (by simp)) (H.sub sU) ?_; simp only [pS]; simp only [List.drop_succ_cons, List.drop_zero, List.take_succ_cons, List.take_zero])
  refine rg_one (i := 5) (by kernel_rfl) rfl rfl (fun K hK => ?_)
  refine wp_callf rfl ent84 (before_ok b pr b1 b2 p1 p2 false HB.out _) rfl (fun v w1 hr => ?_)
  obtain ⟨rfl, hb1⟩ := hr
  replace H := H.grow hb1
  clear hb1
  clear HS
  have HS := H
  refine hK.out _ _ (H.sub sU) ?_
  clear hK K
  simp only [pS]
  refine rg_done (by kernel_rfl) ?_
  go_wp2_with (first | (with_reducible refine wpl rfl (dQ 32 rfl ?_); with_reducible refine (Stp.build (v := (.agg #[.int .i64 5, .int .u16 0, .int .u32 0, .int .u64 0, .int .u64 (slot : Int), .int .u64 0, .int .i64 0, .int .u32 (b.r : Int), .int .u16 (b.w.1 : Int), .int .u32 (b.w.2 : Int), .int .u32 0, .int .u16 0, .int .u32 0, .bool false, .int .i64 0, .int .u16 0, .int .u32 0, .int .u64 0, .int .u64 0, .slice none 0 0, .int .u64 0, .slice none 0 0, .slice none 0 0, .slice none 0 0, .int .u64 0, .slice none 0 0, .slice none 0 0, .slice none 0 0, .slice none 0 0])) 32 rfl rfl (fun W => by kernel_rfl) ?_); simp only [pS]) | (with_reducible refine wpl rfl (dQ 5 rfl ?_); with_reducible refine (Stp.box 5 rfl rfl rfl H ?_); clear H; intro g5 w1 H; simp only [pS]; simp only [pE, nC, pS] at H) | (with_reducible refine wpl rfl (dQ 6 rfl ?_); with_reducible refine (Stp.alloc 6 rfl rfl zero74 H ?_); clear H; intro g6 w1 H; simp only [pS]; simp only [nC] at H) | (with_reducible refine wpl rfl (ldQ (ty := 67) rfl ?_); first | (with_reducible refine (Stp.ldor rfl agg67 size67 rfl H (by assumption) sZ (by assumption) ?_); simp only [pS]) | (with_reducible refine (Stp.ldr rfl agg67 size67 rfl H mR sZ ?_); simp only [pS]) | (with_reducible refine (Stp.ldl rfl agg67 size67 rfl H mR (by simp) ?_); simp only [pS]; simp only [List.drop_succ_cons, List.drop_zero, List.take_succ_cons, List.take_zero])) | (with_reducible refine wpl rfl (stQ (ty := 74) rfl ?_); first | (with_reducible refine (Stp.str rfl size74 rfl rfl (by first | rfl | (simp [Value.oneCell']; done) | assumption) H uP sZ sZ ?_); clear H; intro w1 H; simp only [pS]) | (with_reducible refine (Stp.stl rfl size74 rfl rfl rfl rfl H uP (by simp) ?_); clear H; intro w1 H; simp only [pS]; simp only [List.drop_succ_cons, List.drop_zero, List.take_succ_cons, List.take_zero, List.nil_append, List.cons_append, Nat.reduceAdd] at H)) | (with_reducible refine wpl rfl (stQ (ty := 67) rfl ?_); first | (with_reducible refine (Stp.str rfl size67 rfl rfl (by first | rfl | (simp [Value.oneCell']; done) | assumption) H uP sZ sZ ?_); clear H; intro w1 H; simp only [pS]) | (with_reducible refine (Stp.stl rfl size67 rfl rfl rfl rfl H uP (by simp) ?_); clear H; intro w1 H; simp only [pS]; simp only [List.drop_succ_cons, List.drop_zero, List.take_succ_cons, List.take_zero, List.nil_append, List.cons_append, Nat.reduceAdd] at H)) | (with_reducible refine wpl rfl (dQ 9 rfl ?_); with_reducible refine (Stp.alloc 9 rfl rfl zero74 H ?_); clear H; intro g9 w1 H; simp only [pS]; simp only [nC] at H) | (with_reducible refine wpl rfl (ldQ (ty := 154) rfl ?_); first | (with_reducible refine (Stp.ldo rfl agg154 rfl H (by assumption) (by assumption) ?_); simp only [pS]) | (with_reducible refine (Stp.ldc rfl agg154 rfl H mR cE ?_); simp only [pS])) | (with_reducible refine wpl rfl (ldQ (ty := 74) rfl ?_); first | (with_reducible refine (Stp.ldor rfl agg74 size74 rfl H (by assumption) sZ (by assumption) ?_); simp only [pS]) | (with_reducible refine (Stp.ldr rfl agg74 size74 rfl H mR sZ ?_); simp only [pS]) | (with_reducible refine (Stp.ldl rfl agg74 size74 rfl H mR (by simp) ?_); simp only [pS]; simp only [List.drop_succ_cons, List.drop_zero, List.take_succ_cons, List.take_zero])))
  refine rg_begin 21 rfl (S := fun W => St _ _ W (row 156 g0 #[.int .u64 (cur : Int), .int .u32 (b.r : Int), .int .u16 (b.w.1 : Int), .int .u32 (b.w.2 : Int), .pointer (some ⟨ga, 0, none⟩)] :: row 160 ga #[.int .u32 (y.r : Int), .int .u16 (y.w.1 : Int), .int .u32 (y.w.2 : Int), .int .i64 c.kind, .int .u16 (c.fr.1 : Int), .int .u32 (c.fr.2 : Int), .int .u64 (c.num : Int), .int .u64 (c.vw : Int), .slice ba c.data.length bc, .int .u64 (c.v.id : Int), .slice ma c.v.mem.length mc, .slice la c.v.lvs.length lc, .slice da c.v.ldr.length dc] :: cmr G (.slice ba c.data.length bc) (.slice ma c.v.mem.length mc) (.slice la c.v.lvs.length lc) (.slice da c.v.ldr.length dc) c :: L)) (by kernel_rfl) (H.drew.sub sU) ?_
  replace H := H.drew
  have HS := H
  refine rg_take (i := 0) rfl kR kR kR (Yld.move rfl rfl) (H.sub sU) ?_; simp only [pS, pE]
  refine rg_take (i := 1) rfl kR kR kR (Yld.o rfl) (H.sub sU) ?_; simp only [pS]
  refine rg_take (i := 2) rfl kR kR kR (Yld.o rfl) (H.sub sU) ?_; simp only [pS]
  first | (refine rg_take (i := 3) rfl kR kR kR (Yld.ldo rfl rfl agg154 rfl (by assumption) (by assumption)) (H.sub sU) ?_; simp only [pS]) | (refine rg_take (i := 3) rfl kR kR kR (Yld.ldc rfl rfl agg154 rfl mR cE) (H.sub sU) ?_; simp only [pS])
  refine rg_take (i := 4) rfl kR kR kR (Yld.o rfl) (H.sub sU) ?_; simp only [pS]
  refine rg_take (i := 5) rfl kR kR kR (Yld.o rfl) (H.sub sU) ?_; simp only [pS]
  first | (refine rg_take (i := 6) rfl kR kR kR (Yld.ldor rfl rfl agg67 size67 rfl (by assumption) sZ (by assumption)) (H.sub sU) ?_; simp only [pS]) | (refine rg_take (i := 6) rfl kR kR kR (Yld.ldr rfl rfl agg67 size67 rfl mR sZ) (H.sub sU) ?_; simp only [pS]) | (refine rg_take (i := 6) rfl kR kR kR (Yld.ldl rfl rfl agg67 size67 rfl mR (by simp)) (H.sub sU) ?_; simp only [pS]; simp only [List.drop_succ_cons, List.drop_zero, List.take_succ_cons, List.take_zero])
  refine rg_take (i := 7) rfl kR kR kR (Yld.move rfl rfl) (H.sub sU) ?_; simp only [pS, pE]
  refine rg_take (i := 8) rfl kR kR kR (Yld.o rfl) (H.sub sU) ?_; simp only [pS]
  refine rg_take (i := 9) rfl kR kR kR (Yld.o rfl) (H.sub sU) ?_; simp only [pS]
  first | (refine rg_take (i := 10) rfl kR kR kR (Yld.ldo rfl rfl agg154 rfl (by assumption) (by assumption)) (H.sub sU) ?_; simp only [pS]) | (refine rg_take (i := 10) rfl kR kR kR (Yld.ldc rfl rfl agg154 rfl mR cE) (H.sub sU) ?_; simp only [pS])
  refine rg_take (i := 11) rfl kR kR kR (Yld.o rfl) (H.sub sU) ?_; simp only [pS]
  refine rg_take (i := 12) rfl kR kR kR (Yld.o rfl) (H.sub sU) ?_; simp only [pS]
  first | (refine rg_take (i := 13) rfl kR kR kR (Yld.ldor rfl rfl agg43 size43 rfl (by assumption) sZ (by assumption)) (H.sub sU) ?_; simp only [pS]) | (refine rg_take (i := 13) rfl kR kR kR (Yld.ldr rfl rfl agg43 size43 rfl mR sZ) (H.sub sU) ?_; simp only [pS]) | (refine rg_take (i := 13) rfl kR kR kR (Yld.ldl rfl rfl agg43 size43 rfl mR (by simp)) (H.sub sU) ?_; simp only [pS]; simp only [List.drop_succ_cons, List.drop_zero, List.take_succ_cons, List.take_zero])
  refine rg_take (i := 15) rfl kR kR kR (Yld.o rfl) (H.sub sU) ?_; simp only [pS]
  refine rg_one (i := 14) (by kernel_rfl) rfl rfl (fun K hK => ?_)
  refine wp_callf rfl ent83 (ccopy_ok c ba ma la da bc mc lc dc hm _ (H.get (r := cmr G (.slice ba c.data.length bc) (.slice ma c.v.mem.length mc) (.slice la c.v.lvs.length lc) (.slice da c.v.ldr.length dc) c) mE)) rfl (fun v w1 hr => ?_)
  obtain ⟨G2, ab, am, al, ad, cb, cm, cl, cd, rfl, hG2, hv2, hb1⟩ := hr
  replace H := H.new hb1 (cmr_sound hG2 hv2) (fun g hg => (hG2 g hg).1)
  clear hb1 hG2 hv2
  clear HS
  have HS := H
  refine hK.out _ _ (H.sub sU) ?_
  clear hK K
  simp only [pS]
  refine rg_one (i := 16) (by kernel_rfl) rfl rfl (fun K hK => ?_)
  refine Stp.wp (Stp.stc rfl size4 rfl rfl rfl rfl H uP (by simp) ?_)
  clear H
  intro w1 H
  simp only [pE, nC, pS] at H
  clear HS
  have HS := H
  refine hK.out _ _ (H.sub sU) ?_
  clear hK K
  simp only [pS]
  refine rg_take (i := 17) rfl kR kR kR (Yld.o rfl) (H.sub sU) ?_; simp only [pS]
  refine rg_one (i := 18) (by kernel_rfl) rfl rfl (fun K hK => ?_)
  refine Stp.wp (Stp.stl (m := [.int .u32 (y.r : Int), .int .u16 (y.w.1 : Int), .int .u32 (y.w.2 : Int)]) rfl size67 rfl rfl rfl rfl H uP (by simp) ?_)
  clear H
  intro w1 H
  simp only [List.drop_succ_cons, List.drop_zero, List.take_succ_cons, List.take_zero, List.nil_append, List.cons_append, Nat.reduceAdd] at H
  clear HS
  have HS := H
  refine hK.out _ _ (H.sub sU) ?_
  clear hK K
  simp only [pS]
  refine rg_take (i := 19) rfl kR kR kR (Yld.o rfl) (H.sub sU) ?_; simp only [pS]
  refine rg_one (i := 20) (by kernel_rfl) rfl rfl (fun K hK => ?_)
  refine Stp.wp (Stp.stl (m := [.int .i64 c.kind, .int .u16 (c.fr.1 : Int), .int .u32 (c.fr.2 : Int), .int .u64 (c.num : Int), .int .u64 (c.vw : Int), .slice ab c.data.length cb, .int .u64 (c.v.id : Int), .slice am c.v.mem.length cm, .slice al c.v.lvs.length cl, .slice ad c.v.ldr.length cd]) rfl size43 rfl rfl rfl rfl H uP (by simp) ?_)
  clear H
  intro w1 H
  simp only [List.drop_succ_cons, List.drop_zero, List.take_succ_cons, List.take_zero, List.nil_append, List.cons_append, Nat.reduceAdd] at H
  clear HS
  have HS := H
  refine hK.out _ _ (H.sub sU) ?_
  clear hK K
  simp only [pS]
  refine rg_done (by kernel_rfl) ?_
  go_wp2_with (first | (with_reducible refine wpl rfl (dQ 5 rfl ?_); with_reducible refine (Stp.box 5 rfl rfl rfl H ?_); clear H; intro g5 w1 H; simp only [pS]; simp only [pE, nC, pS] at H) | (with_reducible refine wpl rfl (dQ 6 rfl ?_); with_reducible refine (Stp.alloc 6 rfl rfl zero74 H ?_); clear H; intro g6 w1 H; simp only [pS]; simp only [nC] at H) | (with_reducible refine wpl rfl (ldQ (ty := 67) rfl ?_); first | (with_reducible refine (Stp.ldor rfl agg67 size67 rfl H (by assumption) sZ (by assumption) ?_); simp only [pS]) | (with_reducible refine (Stp.ldr rfl agg67 size67 rfl H mR sZ ?_); simp only [pS]) | (with_reducible refine (Stp.ldl rfl agg67 size67 rfl H mR (by simp) ?_); simp only [pS]; simp only [List.drop_succ_cons, List.drop_zero, List.take_succ_cons, List.take_zero])) | (with_reducible refine wpl rfl (stQ (ty := 74) rfl ?_); first | (with_reducible refine (Stp.str rfl size74 rfl rfl (by first | rfl | (simp [Value.oneCell']; done) | assumption) H uP sZ sZ ?_); clear H; intro w1 H; simp only [pS]) | (with_reducible refine (Stp.stl rfl size74 rfl rfl rfl rfl H uP (by simp) ?_); clear H; intro w1 H; simp only [pS]; simp only [List.drop_succ_cons, List.drop_zero, List.take_succ_cons, List.take_zero, List.nil_append, List.cons_append, Nat.reduceAdd] at H)) | (with_reducible refine wpl rfl (stQ (ty := 67) rfl ?_); first | (with_reducible refine (Stp.str rfl size67 rfl rfl (by first | rfl | (simp [Value.oneCell']; done) | assumption) H uP sZ sZ ?_); clear H; intro w1 H; simp only [pS]) | (with_reducible refine (Stp.stl rfl size67 rfl rfl rfl rfl H uP (by simp) ?_); clear H; intro w1 H; simp only [pS]; simp only [List.drop_succ_cons, List.drop_zero, List.take_succ_cons, List.take_zero, List.nil_append, List.cons_append, Nat.reduceAdd] at H)) | (with_reducible refine wpl rfl (dQ 9 rfl ?_); with_reducible refine (Stp.alloc 9 rfl rfl zero74 H ?_); clear H; intro g9 w1 H; simp only [pS]; simp only [nC] at H) | (with_reducible refine wpl rfl (ldQ (ty := 154) rfl ?_); first | (with_reducible refine (Stp.ldo rfl agg154 rfl H (by assumption) (by assumption) ?_); simp only [pS]) | (with_reducible refine (Stp.ldc rfl agg154 rfl H mR cE ?_); simp only [pS])) | (with_reducible refine wpl rfl (ldQ (ty := 74) rfl ?_); first | (with_reducible refine (Stp.ldor rfl agg74 size74 rfl H (by assumption) sZ (by assumption) ?_); simp only [pS]) | (with_reducible refine (Stp.ldr rfl agg74 size74 rfl H mR sZ ?_); simp only [pS]) | (with_reducible refine (Stp.ldl rfl agg74 size74 rfl H mR (by simp) ?_); simp only [pS]; simp only [List.drop_succ_cons, List.drop_zero, List.take_succ_cons, List.take_zero])))
  refine post_row2 rfl agg74 size74 rfl H mE rfl rfl ⟨_, rfl, ⟨ab, am, al, ad, cb, cm, cl, cd⟩, G2, rfl, ?_⟩
  exact ((((H.pull (r := cmr G2 _ _ _ _ c) pU).pull (r := cmr G _ _ _ _ c) pU).pull (r := row 160 ga _) pU).pull (r := row 156 g0 _) pU).sub sU
end Go.Proofs.Ytjghcmejmdllbaa
namespace Go.Proofs.Ytjghcmejmdllbaa
open Go.ChangeShapes Go.WideShapes Go.ChangeAt Go.RowKit Go.Maps Go.Deep
set_option linter.unusedVariables false
set_option linter.unusedSimpArgs false
set_option linter.unusedSectionVars false
set_option maxRecDepth 100000
set_option maxHeartbeats 4000000
/-- An acceptor of slot 1 in memory. -/
def AcR (g0 : Nat) (a : Ad) (R : Res) : Prop :=
  (a.has = none ∧ R = row 156 g0 #[.int .u64 ((1 : Nat) : Int), .int .u32 (a.pr.r : Int), .int .u16 (a.pr.w.1 : Int), .int .u32 (a.pr.w.2 : Int), .pointer none]) ∨
  (∃ (y : Bl) (d : Cm) (ga : Nat) (ha : Hd) (G : Nat → Prop), a.has = some (y, d) ∧ R = sep (row 156 g0 #[.int .u64 ((1 : Nat) : Int), .int .u32 (a.pr.r : Int), .int .u16 (a.pr.w.1 : Int), .int .u32 (a.pr.w.2 : Int), .pointer (some ⟨ga, 0, none⟩)]) (sep (row 160 ga #[.int .u32 (y.r : Int), .int .u16 (y.w.1 : Int), .int .u32 (y.w.2 : Int), .int .i64 d.kind, .int .u16 (d.fr.1 : Int), .int .u32 (d.fr.2 : Int), .int .u64 (d.num : Int), .int .u64 (d.vw : Int), .slice ha.ba d.data.length ha.bc, .int .u64 (d.v.id : Int), .slice ha.ma d.v.mem.length ha.mc, .slice ha.la d.v.lvs.length ha.lc, .slice ha.da d.v.ldr.length ha.dc]) (cmr G (.slice ha.ba d.data.length ha.bc) (.slice ha.ma d.v.mem.length ha.mc) (.slice ha.la d.v.lvs.length ha.lc) (.slice ha.da d.v.ldr.length ha.dc) d)))
theorem asE1 {b : Bl} (h : may b.w.1 b.w.2 = true) : asE 1 1 b = 0 := by unfold asE; rw [h]; rfl
theorem anewR_ok {B : Nat} {w0 : World} {L : List Res} (w : World) (H : St B w0 w L) :
    Calls Try.prog 54 #[.int .u64 1] w (Ret fun v w' => ∃ g0, v = .pointer (some ⟨g0, 0, none⟩) ∧ ∃ R, AcR g0 ⟨bl0, none⟩ R ∧ St B w0 w' (R :: L)) := by
  refine (anew_ok 1 w H).mono ?_
  rintro e1 w1 ⟨v, rfl, g0, rfl, H2⟩
  exact ⟨_, rfl, g0, rfl, _, .inl ⟨rfl, rfl⟩, H2⟩
attribute [local irreducible] may asE blt cErr
theorem acprep_ok {B : Nat} {w0 : World} {L : List Res} (g0 : Nat) (a : Ad) (R : Res) (hR : AcR g0 a R) (b : Bl) (hb1 : b.w.1 < 65536) (hb2 : b.w.2 < 4294967296) (hp1 : a.pr.w.1 < 65536) (hp2 : a.pr.w.2 < 4294967296) (hmay : may b.w.1 b.w.2 = true) (hsm : ∀ y d, a.has = some (y, d) → smC d) (w : World) (H : St B w0 w (R :: L)) :
    Calls Try.prog 55 #[.pointer (some ⟨g0, 0, none⟩), .int .u64 1, .agg #[.int .u32 (b.r : Int), .int .u16 (b.w.1 : Int), .int .u32 (b.w.2 : Int)]] w (Ret fun v w' => ∃ (kd : Int) (mb ma : Bl) (mh : Bool) (mc : Cm) (me : Hd) (G : Nat → Prop) (a' : Ad), Hid (prepD a b = (kd, mb, mh, ma, mc, a')) ∧ v = .tuple #[.agg (mgC kd 1 mb ma mh mc me), .int .i64 0] ∧ ∃ R', AcR g0 a' R' ∧ St B w0 w' (R' :: cmr G (.slice me.ba mc.data.length me.bc) (.slice me.ma mc.v.mem.length me.mc) (.slice me.la mc.v.lvs.length me.lc) (.slice me.da mc.v.ldr.length me.dc) mc :: L)) := by
  have he := asE1 hmay
  by_cases hb : blt b a.pr = true
  · have hD : prepD a b = (8, a.pr, false, bl0, cm0, a) := if_pos hb
    rcases hR with ⟨hn, rfl⟩ | ⟨y, d, ga, ha, G, hn, rfl⟩
    · refine (aprepNack_ok g0 1 1 a.pr b hb1 hb2 hp1 hp2 none he hb w H).mono ?_
      rintro e1 w1 ⟨v, rfl, rfl, H2⟩
      exact ⟨_, rfl, _, _, _, _, _, hd0, fun _ => False, _, Lib.hid hD, rfl, _, .inl ⟨hn, rfl⟩, (cmr0 H2).swap⟩
    · refine (aprepNack_ok g0 1 1 a.pr b hb1 hb2 hp1 hp2 (some ⟨ga, 0, none⟩) he hb w ((((H.part.swap.part.pull (r := cmr G _ _ _ _ _) pU).pull (r := row 160 ga _) pU).pull (r := row 156 g0 _) pU))).mono ?_
      rintro e1 w1 ⟨v, rfl, rfl, H2⟩
      exact ⟨_, rfl, _, _, _, _, _, hd0, fun _ => False, _, Lib.hid hD, rfl, _, .inr ⟨y, d, ga, ha, G, hn, rfl⟩, (cmr0 ((((H2.pull (r := cmr G _ _ _ _ _) pU).pull (r := row 160 ga _) pU).sep.pull (r := row 156 g0 _) pU).sep)).swap⟩
  · have hbf : blt b a.pr = false := by cases h : blt b a.pr; rfl; exact absurd h hb
    rcases hR with ⟨hn, rfl⟩ | ⟨y, d, ga, ha, G, hn, rfl⟩
    · have hD : prepD a b = (5, b, false, bl0, cm0, ⟨b, none⟩) := by unfold prepD; rw [if_neg hb, hn]
      refine (aprepYes0_ok g0 1 1 a.pr b hb1 hb2 hp1 hp2 he hbf w H).mono ?_
      rintro e1 w1 ⟨v, rfl, rfl, H2⟩
      exact ⟨_, rfl, _, _, _, _, _, hd0, fun _ => False, _, Lib.hid hD, rfl, _, .inl ⟨rfl, rfl⟩, (cmr0 H2).swap⟩
    · have hD : prepD a b = (5, b, true, y, d, ⟨b, some (y, d)⟩) := by unfold prepD; rw [if_neg hb, hn]
      refine (aprepYes1_ok (G := G) g0 1 1 a.pr b y ga d ha.ba ha.ma ha.la ha.da ha.bc ha.mc ha.lc ha.dc (hsm y d hn) hb1 hb2 hp1 hp2 he hbf w ((((H.part.swap.part.pull (r := cmr G _ _ _ _ _) pU).pull (r := row 160 ga _) pU).pull (r := row 156 g0 _) pU))).mono ?_
      rintro e1 w1 ⟨v, rfl, h, G2, rfl, H2⟩
      exact ⟨_, rfl, _, _, _, _, _, h, G2, _, Lib.hid hD, rfl, _, .inr ⟨y, d, ga, ha, G, rfl, rfl⟩, (((H2.pull (r := cmr G _ _ _ _ _) pU).pull (r := row 160 ga _) pU).sep.pull (r := row 156 g0 _) pU).sep⟩
theorem actake_ok {B : Nat} {w0 : World} {L : List Res} {G1 : Nat → Prop} (g0 : Nat) (a : Ad) (R : Res) (hR : AcR g0 a R) (b : Bl) (c : Cm) (e : Hd) (hm : smC c) (hw : wfC c) (hc : cErr c = 0) (hb1 : b.w.1 < 65536) (hb2 : b.w.2 < 4294967296) (hp1 : a.pr.w.1 < 65536) (hp2 : a.pr.w.2 < 4294967296) (hmay : may b.w.1 b.w.2 = true) (hx : Rd B w0 L fun W => CmG G1 W (.slice e.ba c.data.length e.bc) (.slice e.ma c.v.mem.length e.mc) (.slice e.la c.v.lvs.length e.lc) (.slice e.da c.v.ldr.length e.dc) c) (w : World) (H : St B w0 w (R :: L)) :
    Calls Try.prog 56 #[.pointer (some ⟨g0, 0, none⟩), .int .u64 1, .agg #[.int .u32 (b.r : Int), .int .u16 (b.w.1 : Int), .int .u32 (b.w.2 : Int)], .agg (cmH c e)] w (Ret fun v w' => ∃ (kd : Int) (mb : Bl) (a' : Ad), Hid (takeD a b c = (kd, mb, a')) ∧ v = .tuple #[.agg (mgC kd 1 mb bl0 false cm0 hd0), .int .i64 0] ∧ ∃ R', AcR g0 a' R' ∧ St B w0 w' (R' :: L)) := by
  have he := asE1 hmay
  by_cases hb : blt b a.pr = true
  · have hD : takeD a b c = (8, a.pr, a) := if_pos hb
    rcases hR with ⟨hn, rfl⟩ | ⟨y, d, ga, ha, G, hn, rfl⟩
    · refine (aaccNack_ok g0 1 1 a.pr b c e.ba e.ma e.la e.da e.bc e.mc e.lc e.dc hm hw hx hb1 hb2 hp1 hp2 none hc he hb w H).mono ?_
      rintro e1 w1 ⟨v, rfl, rfl, H2⟩
      exact ⟨_, rfl, _, _, _, Lib.hid hD, rfl, _, .inl ⟨hn, rfl⟩, H2⟩
    · refine (aaccNack_ok g0 1 1 a.pr b c e.ba e.ma e.la e.da e.bc e.mc e.lc e.dc hm hw (hx.mono (fun r hr => List.mem_cons_of_mem _ (List.mem_cons_of_mem _ hr))) hb1 hb2 hp1 hp2 (some ⟨ga, 0, none⟩) hc he hb w ((((H.part.swap.part.pull (r := cmr G _ _ _ _ _) pU).pull (r := row 160 ga _) pU).pull (r := row 156 g0 _) pU))).mono ?_
      rintro e1 w1 ⟨v, rfl, rfl, H2⟩
      exact ⟨_, rfl, _, _, _, Lib.hid hD, rfl, _, .inr ⟨y, d, ga, ha, G, hn, rfl⟩, (((H2.pull (r := cmr G _ _ _ _ _) pU).pull (r := row 160 ga _) pU).sep.pull (r := row 156 g0 _) pU).sep⟩
  · have hbf : blt b a.pr = false := by cases h : blt b a.pr; rfl; exact absurd h hb
    have hD : takeD a b c = (7, b, ⟨b, some (b, c)⟩) := if_neg hb
    have H3 : ∃ x, St B w0 w (row 156 g0 #[.int .u64 ((1 : Nat) : Int), .int .u32 (a.pr.r : Int), .int .u16 (a.pr.w.1 : Int), .int .u32 (a.pr.w.2 : Int), .pointer x] :: L) := by
      rcases hR with ⟨hn, rfl⟩ | ⟨y, d, ga, ha, G, hn, rfl⟩
      · exact ⟨_, H⟩
      · exact ⟨_, (H.part).sub (.cons_cons _ (.cons _ (List.Sublist.refl _)))⟩
    obtain ⟨x, H3⟩ := H3
    refine (aaccYes_ok g0 1 1 a.pr b c e.ba e.ma e.la e.da e.bc e.mc e.lc e.dc hm hw hx hb1 hb2 hp1 hp2 x hc he hbf w H3).mono ?_
    rintro e1 w1 ⟨v, rfl, ga, h, G2, rfl, H2⟩
    exact ⟨_, rfl, _, _, _, Lib.hid hD, rfl, _, .inr ⟨b, c, ga, h, G2, rfl, rfl⟩, (((H2.pull (r := cmr G2 _ _ _ _ _) pU).pull (r := row 160 ga _) pU).sep.pull (r := row 156 g0 _) pU).sep⟩
end Go.Proofs.Ytjghcmejmdllbaa
namespace Go.Proofs.Ytjghcmejmdllbaa
open Go.ChangeShapes Go.WideShapes Go.ChangeAt Go.RowKit
set_option linter.unusedVariables false
set_option linter.unusedSimpArgs false
/-- A number of 0 to n - 1 that any number stands for. -/
theorem pick_mod (b z : Int) (n : Nat) (hz : z = n) (hn : 0 < n) (hn2 : n ≤ 1000000) (w : World) :
    Calls Try.prog 34 #[.int .i64 b, .int .i64 z] w (Ret fun v w' => v = .int .i64 (((b % n).toNat : Nat) : Int) ∧ Below w.heap.size w w') := by
  subst hz
  have H := St.init w
  have e1 := Int.emod_nonneg b (show (n : Int) ≠ 0 by omega)
  have e2 := Int.emod_lt_of_pos b (show (0 : Int) < n by omega)
  have h := Int.tmod_eq_emod (a := b) (b := (n : Int))
  rw [Int.natAbs_natCast] at h
  have hr : (b.tmod n < 0 → b.tmod n + n = b % n) ∧ (¬ b.tmod n < 0 → b.tmod n = b % n) := by
    split at h <;> constructor <;> intro h' <;> omega
  obtain ⟨e, he⟩ : ∃ e, b.tmod n = e := ⟨_, rfl⟩
  obtain ⟨q, hq⟩ : ∃ q, b % (n : Int) = q := ⟨_, rfl⟩
  rw [he, hq] at hr
  rw [hq] at e1 e2 ⊢
  have eb : -(n : Int) ≤ e ∧ e < n := by
    by_cases h0 : e < 0
    · have := hr.1 h0; omega
    · have := hr.2 h0; omega
  obtain ⟨eb1, eb2⟩ := eb
  have n1 : ¬ (n : Int) < 1 := by omega
  have nz : ((n : Int) == 0) = false := by simp; omega
  clear hq h
  by_cases h0 : e < 0
  · have HQ := Lib.hid (hr.1 h0)
    clear hr
    go_enter Try.func34, Try.ntmps34
    go_wp2
    go_ret
    exact ⟨_, rfl, congrArg (Value.int IntKind.i64) (show e + (n : Int) = _ by have := HQ.out; omega), H.below⟩
  · have HQ := Lib.hid (hr.2 h0)
    clear hr
    go_enter Try.func34, Try.ntmps34
    go_wp2
    go_ret
    exact ⟨_, rfl, congrArg (Value.int IntKind.i64) (show e = _ by have := HQ.out; omega), H.below⟩
end Go.Proofs.Ytjghcmejmdllbaa
namespace Go.Proofs.Ytjghcmejmdllbaa
open Go.ChangeShapes Go.WideShapes Go.ChangeAt Go.RowKit Go.Maps Go.Deep
set_option linter.unusedVariables false
set_option linter.unusedSimpArgs false
set_option linter.unusedSectionVars false
set_option maxRecDepth 100000
set_option maxHeartbeats 4000000
def pd0 : Pd := ⟨bl0, 0, [], 0, bl0, 0, 0, none⟩
def ptr3 (gp : Nat → Nat) : Array Value := #[.pointer (some ⟨gp 0, 0, none⟩), .pointer (some ⟨gp 1, 0, none⟩), .pointer (some ⟨gp 2, 0, none⟩)]
theorem ptr3_at (gp : Nat → Nat) {x : Nat} (hx : x < 3) : (ptr3 gp)[x]? = some (.pointer (some ⟨gp x, 0, none⟩)) := by
  have : x = 0 ∨ x = 1 ∨ x = 2 := by omega
  rcases this with rfl | rfl | rfl <;> rfl
structure Tri (W : World) (g3 ga gc gd : Nat) : Prop where
  v : ∀ j, j < 4 → W.cell? ⟨g3, 0 + j, none⟩ = (#[.int .u64 1, .slice (some ⟨ga, 0, none⟩) 3 3, .slice (some ⟨gc, 0, none⟩) 1 1, .slice (some ⟨gd, 0, none⟩) 3 3] : Array Value)[j]?
  l : W.cell? ⟨g3, 3, none⟩ = some (.slice (some ⟨gd, 0, none⟩) 3 3)
  b3 : g3 < W.heap.size
  bd : gd < W.heap.size
  d : ∀ x, x < 3 → ∀ j, j < 2 → W.cell? ⟨gd, x * 2 + j, none⟩ = (#[.int .u16 ((ldr3 x).1 : Int), .int .u32 ((ldr3 x).2 : Int)] : Array Value)[j]?
  x : VwG (fun _ => True) W (.slice (some ⟨ga, 0, none⟩) 3 3) (.slice (some ⟨gc, 0, none⟩) 1 1) (.slice (some ⟨gd, 0, none⟩) 3 3) awV3
theorem three_old {B : Nat} {w0 w : World} {L : List Res} {g3 ga gb gc gd : Nat} (H : St B w0 w (row 26 g3 #[.int .u64 1, .slice (some ⟨ga, 0, none⟩) 3 3, .slice (some ⟨gc, 0, none⟩) 1 1, .slice (some ⟨gd, 0, none⟩) 3 3] :: row 36 gd #[.int .u16 1, .int .u32 1, .int .u16 2, .int .u32 1, .int .u16 3, .int .u32 1] :: row 23 gc #[.slice (some ⟨gb, 0, none⟩) 3 3] :: row 36 gb #[.int .u16 1, .int .u32 1, .int .u16 2, .int .u32 1, .int .u16 3, .int .u32 1] :: row 36 ga #[.int .u16 1, .int .u32 1, .int .u16 2, .int .u32 1, .int .u16 3, .int .u32 1] :: L)) : Tri w g3 ga gc gd := by
  have h3 := H.getRow (t := 26) (g := g3) mE
  have hd := H.getRow (t := 36) (g := gd) mE
  have h1 : w.heap[ga]? = some (.cells #[.int .u16 1, .int .u32 1, .int .u16 2, .int .u32 1, .int .u16 3, .int .u32 1] 36 (0, 0)) := H.getHeap mE
  have h2 : w.heap[gc]? = some (.cells #[.slice (some ⟨gb, 0, none⟩) 3 3] 23 (0, 0)) := H.getHeap mE
  have h4 : w.heap[gb]? = some (.cells #[.int .u16 1, .int .u32 1, .int .u16 2, .int .u32 1, .int .u16 3, .int .u32 1] 36 (0, 0)) := H.getHeap mE
  have h5 : w.heap[gd]? = some (.cells #[.int .u16 1, .int .u32 1, .int .u16 2, .int .u32 1, .int .u16 3, .int .u32 1] 36 (0, 0)) := H.getHeap mE
  refine ⟨fun j _ => by rw [Nat.zero_add]; exact cell_of_rowAt h3 j, by rw [cell_of_rowAt h3]; rfl, rowAt_lt h3, rowAt_lt hd, fun x hx j hj => ?_, ?_⟩
  · rw [cell_of_rowAt hd]
    have h1 : x = 0 ∨ x = 1 ∨ x = 2 := by omega
    have h2 : j = 0 ∨ j = 1 := by omega
    rcases h1 with rfl | rfl | rfl <;> rcases h2 with rfl | rfl <;> rfl
  · refine ⟨slg_l3 h1 trivial, ⟨fun _ => .slice (some ⟨gb, 0, none⟩) 3 3, ⟨_, _, rfl, by simp [awV3, maxLen], fun _ => ⟨gc, 0, rfl, trivial, rowAt_lt (rowAt_of h2), fun i hi j hj => ?_⟩⟩, fun i hi => ?_⟩, slg_l3 h5 trivial⟩
    · rw [cell_of_rowAt (rowAt_of h2)]
      have : i = 0 := by simp only [awV3, List.length_singleton] at hi; omega
      subst this
      obtain rfl : j = 0 := by omega
      rfl
    · have : i = 0 := by simp only [awV3, List.length_singleton] at hi; omega
      subst this
      exact slg_l3 h4 trivial
theorem three_init {B : Nat} {w0 w : World} {L : List Res} (H : St B w0 w L) : St w.heap.size w w [] := St.init w
theorem perm3 (R : Nat → Res) {x : Nat} (hx : x < 3) (r : Res) : [r, R ((x + 1) % 3), R ((x + 2) % 3)].Perm [upd R x r 0, upd R x r 1, upd R x r 2] := by
  have : x = 0 ∨ x = 1 ∨ x = 2 := by omega
  rcases this with rfl | rfl | rfl
  · exact List.Perm.refl _
  · exact List.perm_append_comm (l₁ := [r, R 2]) (l₂ := [R 0])
  · exact List.perm_append_comm (l₁ := [r]) (l₂ := [R 0, R 1])
theorem perm3' (R : Nat → Res) {x : Nat} (hx : x < 3) : [R 0, R 1, R 2].Perm [R x, R ((x + 1) % 3), R ((x + 2) % 3)] := by
  have h := (perm3 R hx (R x)).symm
  rw [upd_id] at h
  exact h
theorem shut6 {B : Nat} {w0 w : World} {L : List Res} {c1 c2 R' S' : Res} {Rp Ra : Nat → Res} {x y : Nat} (hx : x < 3) (hy : y < 3) (H : St B w0 w (c1 :: c2 :: R' :: Rp ((x + 1) % 3) :: Rp ((x + 2) % 3) :: S' :: Ra ((y + 1) % 3) :: Ra ((y + 2) % 3) :: L)) :
    St B w0 w (c1 :: c2 :: upd Rp x R' 0 :: upd Rp x R' 1 :: upd Rp x R' 2 :: upd Ra y S' 0 :: upd Ra y S' 1 :: upd Ra y S' 2 :: L) :=
  H.perm ((((perm3 Rp hx R').append ((perm3 Ra hy S').append_right L)).cons c2).cons c1)
theorem open6 {B : Nat} {w0 w : World} {L : List Res} {c1 c2 : Res} {Rp Ra : Nat → Res} {x y : Nat} (hx : x < 3) (hy : y < 3) (H : St B w0 w (c1 :: c2 :: Rp 0 :: Rp 1 :: Rp 2 :: Ra 0 :: Ra 1 :: Ra 2 :: L)) :
    St B w0 w (c1 :: c2 :: Rp x :: Rp ((x + 1) % 3) :: Rp ((x + 2) % 3) :: Ra y :: Ra ((y + 1) % 3) :: Ra ((y + 2) % 3) :: L) :=
  H.perm ((((perm3' Rp hx).append ((perm3' Ra hy).append_right L)).cons c2).cons c1)
/-- One round's words: who is asked, and what they hold. -/
structure Rnd (gp ga : Nat → Nat) (D : Nat → Pd) (A : Nat → Ad) (Rp Ra : Nat → Res) (cc : Cm) (x y p q : Nat) (d : Pd) (a : Ad) (R R2 R3 S S2 S3 : Res) : Prop where
  x3 : x < 3
  y3 : y < 3
  hp : gp x = p
  hq : ga y = q
  hd : D x = d
  ha : A y = a
  e1 : Rp x = R
  e2 : Rp ((x + 1) % 3) = R2
  e3 : Rp ((x + 2) % 3) = R3
  f1 : Ra y = S
  f2 : Ra ((y + 1) % 3) = S2
  f3 : Ra ((y + 2) % 3) = S3
  s : SIf D A cc
  pr : ∀ z, z < 3 → ProR (gp z) (ldr3 z) (D z) (Rp z)
  ac : ∀ z, z < 3 → AcR (ga z) (A z) (Ra z)
theorem Rnd.mk' {B : Nat} {w0 w : World} {L : List Res} {c1 c2 : Res} {gp ga : Nat → Nat} {D : Nat → Pd} {A : Nat → Ad} {Rp Ra : Nat → Res} {cc : Cm} {x y : Nat} (hx : x < 3) (hy : y < 3) (s : SIf D A cc) (pr : ∀ z, z < 3 → ProR (gp z) (ldr3 z) (D z) (Rp z)) (ac : ∀ z, z < 3 → AcR (ga z) (A z) (Ra z))
    (H : St B w0 w (c1 :: c2 :: Rp 0 :: Rp 1 :: Rp 2 :: Ra 0 :: Ra 1 :: Ra 2 :: L)) : ∃ p q d a R R2 R3 S S2 S3, Rnd gp ga D A Rp Ra cc x y p q d a R R2 R3 S S2 S3 ∧ St B w0 w (c1 :: c2 :: R :: R2 :: R3 :: S :: S2 :: S3 :: L) :=
  ⟨_, _, _, _, _, _, _, _, _, _, ⟨hx, hy, rfl, rfl, rfl, rfl, rfl, rfl, rfl, rfl, rfl, rfl, s, pr, ac⟩, open6 hx hy H⟩
section
variable {gp ga : Nat → Nat} {D : Nat → Pd} {A : Nat → Ad} {Rp Ra : Nat → Res} {cc : Cm} {x y p q : Nat} {d : Pd} {a : Ad} {R R2 R3 S S2 S3 : Res}
theorem Rnd.prR (h : Rnd gp ga D A Rp Ra cc x y p q d a R R2 R3 S S2 S3) : ProR p (ldr3 x) d R := by have := h.pr x h.x3; rw [h.hp, h.hd, h.e1] at this; exact this
theorem Rnd.acR (h : Rnd gp ga D A Rp Ra cc x y p q d a R R2 R3 S S2 S3) : AcR q a S := by have := h.ac y h.y3; rw [h.hq, h.ha, h.f1] at this; exact this
theorem Rnd.pw (h : Rnd gp ga D A Rp Ra cc x y p q d a R R2 R3 S S2 S3) : Pw d := by have := h.s.pd h.x3; rw [h.hd] at this; exact this
theorem Rnd.aiA (h : Rnd gp ga D A Rp Ra cc x y p q d a R R2 R3 S S2 S3) : Go.Proofs.Ytjghcmejmdllbaa.AI a := by have := h.s.ai h.y3; rw [h.ha] at this; exact this
theorem Rnd.bl (h : Rnd gp ga D A Rp Ra cc x y p q d a R R2 R3 S S2 S3) (hph : d.ph ≠ 0) : d.bl.w.1 < 65536 ∧ d.bl.w.2 < 4294967296 ∧ may d.bl.w.1 d.bl.w.2 = true := by have := h.s.bl h.x3 (by rw [h.hd]; exact hph); rw [h.hd] at this; exact this
theorem Rnd.same (h : Rnd gp ga D A Rp Ra cc x y p q d a R R2 R3 S S2 S3) : SIf (upd D x d) (upd A y a) cc := by rw [← h.hd, ← h.ha, upd_id, upd_id]; exact h.s
theorem Rnd.start (h : Rnd gp ga D A Rp Ra cc x y p q d a R R2 R3 S S2 S3) {b : Bl} {i : Int} {d' : Pd} (hs : startD d (ldr3 x) awV3 1 = (b, i, d')) : SIf (upd D x d') (upd A y a) cc := by
  rw [← h.ha, upd_id]; exact h.s.start h.x3 (by rw [h.hd]; exact hs)
theorem Rnd.prop (h : Rnd gp ga D A Rp Ra cc x y p q d a R R2 R3 S S2 S3) (hsl : d.sl = 1) {c cv : Cm} {i : Int} {d' : Pd} (hs : smC c) (hw : wfC c) (hk : c.kind ≠ 0) (hp : propD d c = (cv, i, d')) : SIf (upd D x d') (upd A y a) cc := by
  rw [← h.ha, upd_id]; exact h.s.proposed h.x3 (by rw [h.hd]; exact hsl) hs hw hk (by rw [h.hd]; exact hp)
theorem Rnd.prep (h : Rnd gp ga D A Rp Ra cc x y p q d a R R2 R3 S S2 S3) (hph : d.ph = 1) {kd : Int} {mb ma : Bl} {mh : Bool} {mc : Cm} {a' : Ad} (hp : prepD a d.bl = (kd, mb, mh, ma, mc, a'))
    {r r2 : Bool} {d1 d2 : Pd} (hw : Pw d1) (h1 : promD d (ldr3 y) kd 1 mb mh ma mc = (r, d1)) (h2 : nackD d1 kd mb = (r2, d2)) : SIf (upd D x d2) (upd A y a') cc ∧ d2.ph ≠ 3 := by
  have hd := h.hd; have ha := h.ha
  subst hd ha
  exact h.s.prep h.x3 h.y3 hph hp hw h1 h2
theorem Rnd.take (h : Rnd gp ga D A Rp Ra cc x y p q d a R R2 R3 S S2 S3) (hph : d.ph = 3) {c : Cm} {b : Bool} (hv : valD d = (c, b)) {kd : Int} {mb : Bl} {a' : Ad} (hp : takeD a d.bl c = (kd, mb, a'))
    {r r1 : Bool} {d1 d2 : Pd} (h1 : nackD d kd mb = (r1, d1)) (h2 : accD d1 (ldr3 y) kd 1 mb = (r, d2)) : (r = true → cc.kind ≠ 0 → cc = c) ∧ SIf (upd D x d2) (upd A y a') (if r = true then c else cc) := by
  have hd := h.hd; have ha := h.ha
  subst hd ha
  exact h.s.take h.x3 h.y3 hph hv hp h1 h2
theorem Rnd.val (h : Rnd gp ga D A Rp Ra cc x y p q d a R R2 R3 S S2 S3) (hph : d.ph = 3) {c : Cm} {b : Bool} (hv : valD d = (c, b)) : smC c ∧ wfC c ∧ cErr c = 0 ∧ c.kind ≠ 0 := by
  have hd := h.hd
  subst hd
  exact h.s.val h.x3 hph hv
theorem Rnd.px (h : Rnd gp ga D A Rp Ra cc x y p q d a R R2 R3 S S2 S3) : (ptr3 gp)[x]? = some (.pointer (some ⟨p, 0, none⟩)) := by rw [ptr3_at gp h.x3, h.hp]
theorem Rnd.py (h : Rnd gp ga D A Rp Ra cc x y p q d a R R2 R3 S S2 S3) : (ptr3 ga)[y]? = some (.pointer (some ⟨q, 0, none⟩)) := by rw [ptr3_at ga h.y3, h.hq]
end
/-- Between two rounds. -/
def EO (W wr : World) (g4 g5 g7 : Nat) (gp ga : Nat → Nat) (n : Nat) (i : Value) : Prop := ∃ (kk : Nat) (D : Nat → Pd) (A : Nat → Ad) (Rp Ra : Nat → Res) (cc : Cm) (hc : Hd) (Gc : Nat → Prop), kk ≤ n ∧ kk ≤ 200 ∧ i = .int .i64 (kk : Int) ∧ Hid (SIf D A cc) ∧ Hid (∀ x, x < 3 → ProR (gp x) (ldr3 x) (D x) (Rp x)) ∧ Hid (∀ y, y < 3 → AcR (ga y) (A y) (Ra y)) ∧
  St W.heap.size W wr (row 43 g7 #[.int .i64 cc.kind, .int .u16 (cc.fr.1 : Int), .int .u32 (cc.fr.2 : Int), .int .u64 (cc.num : Int), .int .u64 (cc.vw : Int), .slice hc.ba cc.data.length hc.bc, .int .u64 (cc.v.id : Int), .slice hc.ma cc.v.mem.length hc.mc, .slice hc.la cc.v.lvs.length hc.lc, .slice hc.da cc.v.ldr.length hc.dc] :: cmr Gc (.slice hc.ba cc.data.length hc.bc) (.slice hc.ma cc.v.mem.length hc.mc) (.slice hc.la cc.v.lvs.length hc.lc) (.slice hc.da cc.v.ldr.length hc.dc) cc :: Rp 0 :: Rp 1 :: Rp 2 :: Ra 0 :: Ra 1 :: Ra 2 :: row 102 g4 (ptr3 gp) :: row 104 g5 (ptr3 ga) :: [])
theorem Rnd.fin {W wr : World} {g4 g5 g7 n kk : Nat} {gp ga : Nat → Nat} {D : Nat → Pd} {A : Nat → Ad} {Rp Ra : Nat → Res} {cc0 cc : Cm} {x y p q : Nat} {d d' : Pd} {a a' : Ad} {R R2 R3 S S2 S3 R' S' : Res} {hc : Hd} {Gc : Nat → Prop} {i : Value}
    (h : Rnd gp ga D A Rp Ra cc0 x y p q d a R R2 R3 S S2 S3) (hkn : kk < n) (hk2 : kk < 200) (hi : i = .int .i64 ((kk + 1 : Nat) : Int)) (hS : SIf (upd D x d') (upd A y a') cc) (hR' : ProR p (ldr3 x) d' R') (hA' : AcR q a' S')
    (H : St W.heap.size W wr (row 43 g7 #[.int .i64 cc.kind, .int .u16 (cc.fr.1 : Int), .int .u32 (cc.fr.2 : Int), .int .u64 (cc.num : Int), .int .u64 (cc.vw : Int), .slice hc.ba cc.data.length hc.bc, .int .u64 (cc.v.id : Int), .slice hc.ma cc.v.mem.length hc.mc, .slice hc.la cc.v.lvs.length hc.lc, .slice hc.da cc.v.ldr.length hc.dc] :: cmr Gc (.slice hc.ba cc.data.length hc.bc) (.slice hc.ma cc.v.mem.length hc.mc) (.slice hc.la cc.v.lvs.length hc.lc) (.slice hc.da cc.v.ldr.length hc.dc) cc :: R' :: R2 :: R3 :: S' :: S2 :: S3 :: row 102 g4 (ptr3 gp) :: row 104 g5 (ptr3 ga) :: [])) : EO W wr g4 g5 g7 gp ga n i := by
  refine ⟨kk + 1, _, _, upd Rp x R', upd Ra y S', cc, hc, Gc, hkn, hk2, hi, Lib.hid hS, Lib.hid fun z hz => ?_, Lib.hid fun z hz => ?_, shut6 h.x3 h.y3 ?_⟩
  · by_cases e : z = x
    · subst e; rw [upd_at, upd_at, h.hp]; exact hR'
    · rw [upd_ne _ _ e, upd_ne _ _ e]; exact h.pr z hz
  · by_cases e : z = y
    · subst e; rw [upd_at, upd_at, h.hq]; exact hA'
    · rw [upd_ne _ _ e, upd_ne _ _ e]; exact h.ac z hz
  · rw [h.e2, h.e3, h.f2, h.f3]; exact H
theorem pnew0_ok {B : Nat} {w0 : World} {L : List Res} (w : World) (H : St B w0 w L) : Calls Try.prog 30 #[.agg #[.int .u16 ((ldr3 0).1 : Int), .int .u32 ((ldr3 0).2 : Int)]] w (Ret fun v w' => ∃ gp, v = .pointer (some ⟨gp, 0, none⟩) ∧ ∃ R : Res, ProR gp (ldr3 0) pd0 R ∧ St B w0 w' (R :: L)) := by
  refine (enew_ok (ldr3 0) w H).mono ?_
  rintro e1 w1 ⟨v, rfl, gp, rfl, H2⟩
  have H3 := ((((H2.nil 36 2).empR.pull (r := slc 36 2 _ _ _) pU).pull (r := row 129 gp _) pU)).mkR
  exact ⟨_, rfl, gp, rfl, _, ⟨none, 0, none, Go.Proofs.Ytjghcmejmdllbaa.empR, ⟨rfl, rfl⟩, rfl⟩, H3⟩
theorem pnew1_ok {B : Nat} {w0 : World} {L : List Res} (w : World) (H : St B w0 w L) : Calls Try.prog 30 #[.agg #[.int .u16 ((ldr3 1).1 : Int), .int .u32 ((ldr3 1).2 : Int)]] w (Ret fun v w' => ∃ gp, v = .pointer (some ⟨gp, 0, none⟩) ∧ ∃ R : Res, ProR gp (ldr3 1) pd0 R ∧ St B w0 w' (R :: L)) := by
  refine (enew_ok (ldr3 1) w H).mono ?_
  rintro e1 w1 ⟨v, rfl, gp, rfl, H2⟩
  have H3 := ((((H2.nil 36 2).empR.pull (r := slc 36 2 _ _ _) pU).pull (r := row 129 gp _) pU)).mkR
  exact ⟨_, rfl, gp, rfl, _, ⟨none, 0, none, Go.Proofs.Ytjghcmejmdllbaa.empR, ⟨rfl, rfl⟩, rfl⟩, H3⟩
theorem pnew2_ok {B : Nat} {w0 : World} {L : List Res} (w : World) (H : St B w0 w L) : Calls Try.prog 30 #[.agg #[.int .u16 ((ldr3 2).1 : Int), .int .u32 ((ldr3 2).2 : Int)]] w (Ret fun v w' => ∃ gp, v = .pointer (some ⟨gp, 0, none⟩) ∧ ∃ R : Res, ProR gp (ldr3 2) pd0 R ∧ St B w0 w' (R :: L)) := by
  refine (enew_ok (ldr3 2) w H).mono ?_
  rintro e1 w1 ⟨v, rfl, gp, rfl, H2⟩
  have H3 := ((((H2.nil 36 2).empR.pull (r := slc 36 2 _ _ _) pU).pull (r := row 129 gp _) pU)).mkR
  exact ⟨_, rfl, gp, rfl, _, ⟨none, 0, none, Go.Proofs.Ytjghcmejmdllbaa.empR, ⟨rfl, rfl⟩, rfl⟩, H3⟩
theorem rdCm {B : Nat} {w0 : World} {L : List Res} {G : Nat → Prop} {vb va vl vd : Value} {c : Cm} (h : cmr G vb va vl vd c ∈ L) : Rd B w0 L fun W => CmG G W vb va vl vd c := fun W _ q => q _ h
theorem St.cmE {B : Nat} {w0 w : World} {L : List Res} {G : Nat → Prop} {vb va vl vd : Value} {c : Cm} (H : St B w0 w L) (hm : cmr G vb va vl vd c ∈ L) : CmG G w vb va vl vd c := H.get hm
theorem prom3_ok {B : Nat} {w0 : World} {L : List Res} {G1 : Nat → Prop} (gp : Nat) (sf : Pr) (d : Pd) (R : Res) (hR : ProR gp sf d R) (hw : Pw d) (q : Pr) (kd : Int) (mb ma : Bl) (mh : Bool) (mc : Cm) (me : Hd) (ha1 : ma.w.1 < 65536) (ha2 : ma.w.2 < 4294967296) (hm : smC mc)
    (w : World) (H : St B w0 w (R :: L)) (hx : cmr G1 (.slice me.ba mc.data.length me.bc) (.slice me.ma mc.v.mem.length me.mc) (.slice me.la mc.v.lvs.length me.lc) (.slice me.da mc.v.ldr.length me.dc) mc ∈ L) :
    Calls Try.prog 41 #[.pointer (some ⟨gp, 0, none⟩), .agg #[.int .u16 (q.1 : Int), .int .u32 (q.2 : Int)], .agg (mgC kd 1 mb ma mh mc me)] w (Ret fun v w' => ∃ (r : Bool) (d' : Pd), Hid (promD d q kd 1 mb mh ma mc = (r, d')) ∧ v = .bool r ∧ ∃ R', ProR gp sf d' R' ∧ St B w0 w' (R' :: L)) :=
  rprom_ok gp sf d R hR hw q kd 0 0 0 0 0 1 mb ma mh mc me vw0 hd0 none 0 0 ha1 ha2 hm (rdCm hx) w H
theorem take3_ok {B : Nat} {w0 : World} {L : List Res} {G1 : Nat → Prop} (g0 : Nat) (a : Ad) (R : Res) (hR : AcR g0 a R) (b : Bl) (c : Cm) (e : Hd) (hm : smC c) (hw : wfC c) (hc : cErr c = 0) (hb1 : b.w.1 < 65536) (hb2 : b.w.2 < 4294967296) (hp1 : a.pr.w.1 < 65536) (hp2 : a.pr.w.2 < 4294967296) (hmay : may b.w.1 b.w.2 = true) (w : World) (H : St B w0 w (R :: L)) (hx : cmr G1 (.slice e.ba c.data.length e.bc) (.slice e.ma c.v.mem.length e.mc) (.slice e.la c.v.lvs.length e.lc) (.slice e.da c.v.ldr.length e.dc) c ∈ L) :
    Calls Try.prog 56 #[.pointer (some ⟨g0, 0, none⟩), .int .u64 1, .agg #[.int .u32 (b.r : Int), .int .u16 (b.w.1 : Int), .int .u32 (b.w.2 : Int)], .agg (cmH c e)] w (Ret fun v w' => ∃ (kd : Int) (mb : Bl) (a' : Ad), Hid (takeD a b c = (kd, mb, a')) ∧ v = .tuple #[.agg (mgC kd 1 mb bl0 false cm0 hd0), .int .i64 0] ∧ ∃ R', AcR g0 a' R' ∧ St B w0 w' (R' :: L)) :=
  actake_ok g0 a R hR b c e hm hw hc hb1 hb2 hp1 hp2 hmay (rdCm hx) w H
theorem nack3_ok {B : Nat} {w0 : World} {L : List Res} (gp : Nat) (sf : Pr) (d : Pd) (R : Res) (hR : ProR gp sf d R) (hw : Pw d) (kd : Int) (mb ma : Bl) (mh : Bool) (mc : Cm) (me : Hd) (ha1 : mb.w.1 < 65536) (ha2 : mb.w.2 < 4294967296) (w : World) (H : St B w0 w (R :: L)) :
    Calls Try.prog 43 #[.pointer (some ⟨gp, 0, none⟩), .agg (mgC kd 1 mb ma mh mc me)] w (Ret fun v w' => ∃ (r : Bool) (d' : Pd), Hid (nackD d kd mb = (r, d')) ∧ v = .bool r ∧ ∃ R', ProR gp sf d' R' ∧ St B w0 w' (R' :: L)) :=
  rnackR_ok gp sf d R hR hw kd 0 0 0 0 0 1 mb ma mh mc me vw0 hd0 none 0 0 ha1 ha2 w H
theorem accd3_ok {B : Nat} {w0 : World} {L : List Res} (gp : Nat) (sf : Pr) (d : Pd) (R : Res) (hR : ProR gp sf d R) (hw : Pw d) (q : Pr) (kd : Int) (mb ma : Bl) (mh : Bool) (mc : Cm) (me : Hd) (w : World) (H : St B w0 w (R :: L)) :
    Calls Try.prog 42 #[.pointer (some ⟨gp, 0, none⟩), .agg #[.int .u16 (q.1 : Int), .int .u32 (q.2 : Int)], .agg (mgC kd 1 mb ma mh mc me)] w (Ret fun v w' => ∃ (r : Bool) (d' : Pd), Hid (accD d q kd 1 mb = (r, d')) ∧ v = .bool r ∧ ∃ R', ProR gp sf d' R' ∧ St B w0 w' (R' :: L)) :=
  raccd_ok gp sf d R hR hw q kd 0 0 0 0 0 1 mb ma mh mc me vw0 hd0 none 0 0 w H
theorem start3_ok {B : Nat} {w0 : World} {L : List Res} (gp : Nat) (sf : Pr) (d : Pd) (R : Res) (hR : ProR gp sf d R) (hw : Pw d) (g3 ga gc gd : Nat) (W : World) (hB : B = W.heap.size) (hW : w0 = W) (hT : Tri W g3 ga gc gd) (w : World) (H : St B w0 w (R :: L)) :
    Calls Try.prog 36 #[.pointer (some ⟨gp, 0, none⟩), .agg #[.int .u64 1, .slice (some ⟨ga, 0, none⟩) 3 3, .slice (some ⟨gc, 0, none⟩) 1 1, .slice (some ⟨gd, 0, none⟩) 3 3], .int .u64 1] w (Ret fun v w' => ∃ (b : Bl) (i : Int) (d' : Pd), Hid (startD d sf awV3 1 = (b, i, d')) ∧ v = .tuple #[.agg #[.int .u32 (b.r : Int), .int .u16 (b.w.1 : Int), .int .u32 (b.w.2 : Int)], .int .i64 i] ∧ ∃ R', ProR gp sf d' R' ∧ St B w0 w' (R' :: L)) := by
  subst hB hW
  exact rstartR_ok gp sf d R hR hw awV3 (some ⟨ga, 0, none⟩) (some ⟨gc, 0, none⟩) (some ⟨gd, 0, none⟩) 3 1 3 1 awV3_sm awV3_wf (fun V hb _ => hT.x.grow hb) w H
def snd3 (q : Pr) (m : Nat) : Cm := ⟨2, q, m, 1, [], vw0⟩
theorem snd3_sm (q : Pr) (m : Nat) : smC (snd3 q m) := ⟨Nat.zero_le _, ⟨Nat.zero_le _, Nat.zero_le _, fun l hl => absurd hl List.not_mem_nil, Nat.zero_le _⟩⟩
theorem snd3_wf {q : Pr} {m : Nat} (h1 : q.1 < 65536) (h2 : q.2 < 4294967296) (hm : m < 18446744073709551616) : wfC (snd3 q m) :=
  ⟨h1, h2, hm, by show (1 : Nat) < _; decide, (by intro x hx; cases hx), ⟨by show (0 : Nat) < _; decide, (by intro p hp; cases hp), (by intro l hl; cases hl), (by intro p hp; cases hp)⟩⟩
theorem prop3_ok {B : Nat} {w0 : World} {L : List Res} (gp : Nat) (sf : Pr) (d : Pd) (R : Res) (hR : ProR gp sf d R) (hw : Pw d) (q : Pr) (m : Nat) (h1 : q.1 < 65536) (h2 : q.2 < 4294967296) (hm : m < 18446744073709551616) (w : World) (H : St B w0 w (R :: L)) :
    Calls Try.prog 37 #[.pointer (some ⟨gp, 0, none⟩), .agg #[.int .i64 2, .int .u16 (q.1 : Int), .int .u32 (q.2 : Int), .int .u64 (m : Int), .int .u64 1, .slice none 0 0, .int .u64 0, .slice none 0 0, .slice none 0 0, .slice none 0 0]] w (Ret fun v w' => ∃ (cv : Cm) (h3 : Hd) (G3 : Nat → Prop) (i : Int) (d' : Pd), Hid (propD d (snd3 q m) = (cv, i, d')) ∧ v = .tuple #[.agg (cmH cv h3), .int .i64 i] ∧ ∃ R', ProR gp sf d' R' ∧ St B w0 w' (R' :: cmr G3 (.slice h3.ba cv.data.length h3.bc) (.slice h3.ma cv.v.mem.length h3.mc) (.slice h3.la cv.v.lvs.length h3.lc) (.slice h3.da cv.v.ldr.length h3.dc) cv :: L)) :=
  rpropR_ok (G1 := fun _ => False) gp sf d R hR hw (snd3 q m) hd0 (snd3_sm q m) (snd3_wf h1 h2 hm) (fun W _ _ => ⟨SlG.nil _ _ _ _, VwG.nil _ _ _⟩) w H
abbrev elS (l : List (Int × Int × Int)) (i : Nat) : Array Value := #[.int .i64 (l.getD i (0, 0, 0)).1, .int .i64 (l.getD i (0, 0, 0)).2.1, .int .i64 (l.getD i (0, 0, 0)).2.2]
section
variable {H : Type} {enc : TypeId × Value → H}
theorem cells_go {fuel : Nat} {W : World} {cs : List Value} {y : DataW H × List MemPlace} (hf : DataW.trod enc Try.prog W 0 (fun _ => true) true fuel 107 cs = some y) :
    ∃ a b c : Int, cs = [.int .i64 a, .int .i64 b, .int .i64 c] := by
  obtain ⟨xs, n, _, _, hl, hx, hfl⟩ := DataW.trod_struct Try.underlying107 hf
  have hC : Try.prog.cellsOf 107 = 3 := by kernel_rfl
  rw [hC] at hl
  have hC1 : Try.prog.cellsOf 3 = 1 := by kernel_rfl
  match cs, hl with
  | [c0, c1, c2], _ =>
    match xs, hx with
    | [x0, x1, x2], _ =>
      have h0 := hfl 0 _ rfl
      have h1 := hfl 1 _ rfl
      have h2 := hfl 2 _ rfl
      simp only [List.getElem_toArray, List.getElem_cons_zero, List.getElem_cons_succ, hC1, List.drop_zero, List.drop_succ_cons, List.take_succ_cons, List.take_zero, List.getElem?_cons_zero, List.getElem?_cons_succ] at h0 h1 h2
      obtain ⟨k0, e0, _, w0⟩ := DataW.trod_int Try.underlying3 h0
      obtain ⟨k1, e1, _, w1⟩ := DataW.trod_int Try.underlying3 h1
      obtain ⟨k2, e2, _, w2⟩ := DataW.trod_int Try.underlying3 h2
      simp only [List.cons.injEq, and_true] at e0 e1 e2
      subst e0 e1 e2
      exact ⟨k0, k1, k2, rfl⟩
theorem open_gos {W : World} {base : Nat} {v : Value} {d : DataW H} {p : List MemPlace} (hv : Value.okWide Try.prog W .any base 101 v) (h : DataW.Trod enc Try.prog W 0 (fun _ => true) true 101 v d p) :
    ∃ (l : List (Int × Int × Int)) (va : Option Addr) (vc : Nat), v = .slice va l.length vc ∧ Sl W 3 l.length (.slice va l.length vc) (elS l) := by
  obtain ⟨n, E, hs, hE⟩ := open_sl Try.underlying101 (by kernel_rfl : Try.prog.cellsOf 107 = 3) (by omega) hv h
  obtain ⟨l, rfl, hl⟩ := collect (fun i (a : Int × Int × Int) => E i = #[.int .i64 a.1, .int .i64 a.2.1, .int .i64 a.2.2]) n (fun i hi => by
    obtain ⟨_, fuel, y, hf⟩ := hE i hi
    obtain ⟨a, b, c, e⟩ := cells_go hf
    exact ⟨(a, b, c), Array.toList_inj.1 e⟩)
  obtain ⟨va, vc, rfl, hm, hc⟩ := hs
  refine ⟨l, va, vc, rfl, ⟨va, vc, rfl, hm, fun h0 => ?_⟩⟩
  obtain ⟨b, off, e, hb, hh⟩ := hc h0
  exact ⟨b, off, e, hb, fun i hi j hj => by rw [hh i hi j hj, hl i hi]; unfold elS; rw [getD_at hi]⟩
end
end Go.Proofs.Ytjghcmejmdllbaa
