/- The statement LedgerNil of layer 18 (ledger), proved; no condition: a ledger that is none, the example, the law's walk, and the row round it. -/
import Derived.Test.YtmokecicjmjkbaaLed3
import Derived.Test.YtmokecicjmjkbaaOpenV
namespace Go.Proofs.Ytmokecicjmjkbaa
open Go.ChangeShapes Go.WideShapes Go.ChangeAt Go.RowKit Go.Maps Go.Deep
set_option linter.unusedVariables false
set_option linter.unusedSimpArgs false
set_option maxRecDepth 100000
theorem nApplied_ok (w : World) : Calls Try.prog 31 #[.pointer none] w (Ret fun v w' => v = .int .u64 0 ∧ Below w.heap.size w w') := by
  have H := St.init w
  go_enter Try.func31, Try.ntmps31
  go_wp2_with (first | (with_reducible refine wpl rfl (Stp.ldc rfl agg26 rfl H mR cE ?_); simp only [pS]) | (with_reducible refine wpl rfl (Stp.ldo rfl agg26 rfl H (by assumption) (by assumption) ?_); simp only [pS]))
  go_ret
  exact ⟨_, rfl, rfl, H.below⟩
theorem nFrom_ok (w : World) : Calls Try.prog 32 #[.pointer none] w (Ret fun v w' => v = .int .u64 0 ∧ Below w.heap.size w w') := by
  have H := St.init w
  go_enter Try.func32, Try.ntmps32
  go_wp2_with fail
  go_ret
  exact ⟨_, rfl, rfl, H.below⟩
theorem nKept_ok (w : World) : Calls Try.prog 30 #[.pointer none] w (Ret fun v w' => v = .int .i64 0 ∧ Below w.heap.size w w') := by
  have H := St.init w
  go_enter Try.func30, Try.ntmps30
  go_wp2_with (first | (with_reducible refine wpl rfl (Stp.ldc rfl agg93 rfl H mR cE ?_); simp only [pS]) | (with_reducible refine wpl rfl (Stp.ldo rfl agg93 rfl H (by assumption) (by assumption) ?_); simp only [pS]))
  go_ret
  exact ⟨_, rfl, rfl, H.below⟩
theorem nRoom_ok (w : World) : Calls Try.prog 34 #[.pointer none] w (Ret fun v w' => v = .int .i64 0 ∧ Below w.heap.size w w') := by
  have H := St.init w
  go_enter Try.func34, Try.ntmps34
  go_wp2_with (first | (with_reducible refine wpl rfl (Stp.ldc rfl agg93 rfl H mR cE ?_); simp only [pS]) | (with_reducible refine wpl rfl (Stp.ldo rfl agg93 rfl H (by assumption) (by assumption) ?_); simp only [pS]))
  go_ret
  exact ⟨_, rfl, rfl, H.below⟩
theorem nCut_ok (st : Int) (w : World) : Calls Try.prog 35 #[.pointer none, .int .u64 st] w (Ret fun v w' => v = .int .i64 0 ∧ Below w.heap.size w w') := by
  have H := St.init w
  go_enter Try.func35, Try.ntmps35
  go_wp2_with (first | (with_reducible refine wpl rfl (Stp.ldc rfl agg93 rfl H mR cE ?_); simp only [pS]) | (with_reducible refine wpl rfl (Stp.ldo rfl agg93 rfl H (by assumption) (by assumption) ?_); simp only [pS]) | (with_reducible refine wpl rfl (Stp.stc rfl size93 rfl rfl rfl rfl H uP (by first | omega | (simp; done) | (simp; omega)) ?_); clear H; intro w1 H; simp only [pS]; simp only [pE, nC, pS] at H))
  go_ret
  exact ⟨_, rfl, rfl, H.below⟩
theorem nAdd_ok (st : Int) (cs : Array Value) (w : World) : Calls Try.prog 15 #[.pointer none, .int .u64 st, .agg cs] w (Ret fun v w' => v = .int .i64 7 ∧ Below w.heap.size w w') := by
  have H := St.init w
  go_enter Try.func15, Try.ntmps15
  go_wp2_with (first | (with_reducible refine wpl rfl (Stp.box 5 rfl rfl rfl H ?_); clear H; intro g5 w1 H; simp only [pS]; simp only [pE, nC, pS] at H) | (with_reducible refine wpl rfl (Stp.ldr rfl agg36 size36 rfl H mR sZ ?_); simp only [pS]) | (with_reducible refine wpl rfl (Stp.ldl rfl agg36 size36 rfl H mR (by simp) ?_); simp only [pS]; simp only [List.drop_succ_cons, List.drop_zero, List.take_succ_cons, List.take_zero]) | (with_reducible refine wpl rfl (Stp.ldor rfl agg36 size36 rfl H (by assumption) sZ (by assumption) ?_); simp only [pS]) | (with_reducible refine wpl rfl (Stp.ldc rfl agg26 rfl H mR cE ?_); simp only [pS]) | (with_reducible refine wpl rfl (Stp.ldo rfl agg26 rfl H (by assumption) (by assumption) ?_); simp only [pS]) | (with_reducible refine wpl rfl (Stp.ldc rfl agg93 rfl H mR cE ?_); simp only [pS]) | (with_reducible refine wpl rfl (Stp.ldo rfl agg93 rfl H (by assumption) (by assumption) ?_); simp only [pS]) | (with_reducible refine wpl rfl (Stp.stc rfl size26 rfl rfl rfl rfl H uP (by first | omega | (simp; done) | (simp; omega)) ?_); clear H; intro w1 H; simp only [pS]; simp only [pE, nC, pS] at H))
  go_ret
  exact ⟨_, rfl, rfl, H.below⟩
theorem nplace_ok (st : Int) (w : World) : Calls Try.prog 50 #[.pointer none, .int .u64 st] w (Ret fun v w' => v = .tuple #[.int .i64 0, .bool false] ∧ Below w.heap.size w w') := by
  have H := St.init w
  go_enter Try.func50, Try.ntmps50
  go_wp2_with fail
  refine rg_begin 25 rfl (S := fun W => St _ _ W _) (by kernel_rfl) H.drew ?_
  replace H := H.drew
  have HS := H
  refine rg_take (i := 0) rfl kR kR kR (Yld.move rfl rfl) HS ?_; simp only [pS, pE]
  refine rg_take (i := 1) rfl kR kR kR (Yld.o rfl) HS ?_; simp only [pS]
  refine rg_take (i := 2) rfl kR kR kR (Yld.move rfl rfl) HS ?_; simp only [pS, pE]
  refine rg_take (i := 3) rfl kR kR kR (Yld.skip rfl) HS ?_; simp only [pS]
  refine rg_take (i := 4) rfl kR kR kR (Yld.skip rfl) HS ?_; simp only [pS]
  refine rg_take (i := 5) rfl kR kR kR (Yld.skip rfl) HS ?_; simp only [pS]
  refine rg_take (i := 6) rfl kR kR kR (Yld.skip rfl) HS ?_; simp only [pS]
  refine rg_take (i := 7) rfl kR kR kR (Yld.skip rfl) HS ?_; simp only [pS]
  refine rg_take (i := 8) rfl kR kR kR (Yld.skip rfl) HS ?_; simp only [pS]
  refine rg_take (i := 9) rfl kR kR kR (Yld.pick rfl rfl rfl) HS ?_; simp only [pS, pE]
  refine rg_take (i := 10) rfl kR kR kR (Yld.move rfl rfl) HS ?_; simp only [pS, pE]
  refine rg_take (i := 11) rfl kR kR kR (Yld.skip rfl) HS ?_; simp only [pS]
  refine rg_take (i := 12) rfl kR kR kR (Yld.skip rfl) HS ?_; simp only [pS]
  refine rg_take (i := 13) rfl kR kR kR (Yld.skip rfl) HS ?_; simp only [pS]
  refine rg_take (i := 14) rfl kR kR kR (Yld.skip rfl) HS ?_; simp only [pS]
  refine rg_take (i := 15) rfl kR kR kR (Yld.skip rfl) HS ?_; simp only [pS]
  refine rg_take (i := 16) rfl kR kR kR (Yld.skip rfl) HS ?_; simp only [pS]
  refine rg_take (i := 17) rfl kR kR kR (Yld.skip rfl) HS ?_; simp only [pS]
  refine rg_take (i := 18) rfl kR kR kR (Yld.skip rfl) HS ?_; simp only [pS]
  refine rg_take (i := 19) rfl kR kR kR (Yld.skip rfl) HS ?_; simp only [pS]
  refine rg_take (i := 20) rfl kR kR kR (Yld.skip rfl) HS ?_; simp only [pS]
  refine rg_take (i := 21) rfl kR kR kR (Yld.skip rfl) HS ?_; simp only [pS]
  refine rg_take (i := 22) rfl kR kR kR (Yld.skip rfl) HS ?_; simp only [pS]
  refine rg_take (i := 23) rfl kR kR kR (Yld.skip rfl) HS ?_; simp only [pS]
  refine rg_take (i := 24) rfl kR kR kR (Yld.pick rfl rfl rfl) HS ?_; simp only [pS, pE]
  refine rg_done (by kernel_rfl) ?_
  go_wp2_with fail
  go_ret2
  exact ⟨_, rfl, rfl, H.below⟩
theorem nGet_ok (st : Int) (w : World) : Calls Try.prog 16 #[.pointer none, .int .u64 st] w (Ret fun v w' => v = .tuple #[.agg #[.int .i64 0, .int .u16 0, .int .u32 0, .int .u64 0, .int .u64 0, .slice none 0 0, .int .u64 0, .slice none 0 0, .slice none 0 0, .slice none 0 0], .int .i64 8] ∧ Below w.heap.size w w') := by
  have H := St.init w
  go_enter Try.func16, Try.ntmps16
  go_wp2_with (first | (go_at_call 50; (with_reducible refine (nplace_ok st _).mono ?_); rintro e w1 ⟨v, rfl, hr⟩; obtain ⟨rfl, hb1⟩ := hr; replace H := H.grow hb1; clear hb1) | (with_reducible refine wpl rfl (Stp.build (v := (.agg #[.int .i64 0, .int .u16 0, .int .u32 0, .int .u64 0, .int .u64 0, .slice none 0 0, .int .u64 0, .slice none 0 0, .slice none 0 0, .slice none 0 0])) 16 rfl rfl (fun W => by kernel_rfl) ?_); simp only [pS]) | (with_reducible refine wpl rfl (Stp.alloc 4 rfl rfl zero36 H ?_); clear H; intro g4 w1 H; simp only [pS]; simp only [nC] at H) | (with_reducible refine wpl rfl (Stp.str rfl size36 rfl rfl (by first | rfl | (simp [Value.oneCell']; done) | assumption) H uP sZ sZ ?_); clear H; intro w1 H; simp only [pS]) | (with_reducible refine wpl rfl (Stp.stl rfl size36 rfl rfl rfl rfl H uP (by simp) ?_); clear H; intro w1 H; simp only [pS]; simp only [List.drop_succ_cons, List.drop_zero, List.take_succ_cons, List.take_zero, List.nil_append, List.cons_append, Nat.reduceAdd] at H) | (with_reducible refine wpl rfl (Stp.ldc rfl agg93 rfl H mR cE ?_); simp only [pS]) | (with_reducible refine wpl rfl (Stp.ldo rfl agg93 rfl H (by assumption) (by assumption) ?_); simp only [pS]) | (with_reducible refine wpl rfl (Stp.ldr rfl agg36 size36 rfl H mR sZ ?_); simp only [pS]) | (with_reducible refine wpl rfl (Stp.ldl rfl agg36 size36 rfl H mR (by simp) ?_); simp only [pS]; simp only [List.drop_succ_cons, List.drop_zero, List.take_succ_cons, List.take_zero]) | (with_reducible refine wpl rfl (Stp.ldor rfl agg36 size36 rfl H (by assumption) sZ (by assumption) ?_); simp only [pS]))
  exact post_row2 rfl agg36 size36 rfl H mE rfl rfl ⟨_, rfl, rfl, H.below⟩
/-! ### The example -/
theorem awnew_ok {B : Nat} {w0 : World} {L : List Res} (w : World) (H : St B w0 w L) : Calls Try.prog 14 #[.int .u64 4] w (Ret fun v w' => ∃ g0, v = .pointer (some ⟨g0, 0, none⟩) ∧ LdSt B w0 w' g0 4 [] L) := lnew_ok 4 w H
def nopC : Cm := ⟨1, (0, 0), 0, 0, [], vw0⟩
theorem nop_err : cErr nopC = 0 := by
  have h1 : only nopC = nopC := rfl
  have h2 : cSame nopC nopC = true := cSame_iff.2 rfl
  unfold cErr kindOk
  rw [h1, h2]
  rfl
theorem nop_sm : smC nopC := ⟨by decide, ⟨by decide, by decide, (by intro l hl; cases hl), by decide⟩⟩
theorem nop_wf : wfC nopC := ⟨by decide, by decide, by decide, by decide, (by intro x hx; cases hx), ⟨by decide, (by intro p hp; cases hp), (by intro l hl; cases hl), (by intro p hp; cases hp)⟩⟩
theorem awadd_ok {B : Nat} {w0 : World} {L : List Res} (g0 : Nat) (w : World) (H : LdSt B w0 w g0 4 [] L) : Calls Try.prog 15 #[.pointer (some ⟨g0, 0, none⟩), .int .u64 5, .agg #[.int .i64 1, .int .u16 0, .int .u32 0, .int .u64 0, .int .u64 0, .slice none 0 0, .int .u64 0, .slice none 0 0, .slice none 0 0, .slice none 0 0]] w (Ret fun v w' => v = .int .i64 0 ∧ ∃ h, LdSt B w0 w' g0 5 [(nopC, h)] L) := by
  have := ladd_ok (G1 := fun _ => False) g0 4 5 [] nopC none none none none 0 0 0 0 (by decide) (by decide) (by decide) nop_sm nop_wf (fun W _ _ => CmG.nil _ W 1) w H
  have he : addE 4 ([] : List (Cm × Hd)).length 5 nopC = 0 := by unfold addE; rw [nop_err]; rfl
  rw [he] at this
  refine this.mono ?_
  rintro e w1 ⟨v, rfl, hv, h⟩
  rcases h with ⟨_, h, H1⟩ | ⟨hc, _⟩
  · exact ⟨_, rfl, hv, h, H1⟩
  · exact absurd rfl hc
theorem awfrom5_ok (g0 kc : Nat) (ka : Option Addr) (w : World) (hr : w.heap[g0]? = some (.cells #[.int .u64 5, .slice ka 1 kc] 97 (0, 0))) :
    Calls Try.prog 32 #[.pointer (some ⟨g0, 0, none⟩)] w (Ret fun v w' => v = .int .u64 5 ∧ Below w.heap.size w w') := lFrom_ok g0 5 1 kc ka (by decide) (by decide) (by decide) w hr
theorem awfrom6_ok (g0 kc : Nat) (ka : Option Addr) (w : World) (hr : w.heap[g0]? = some (.cells #[.int .u64 5, .slice ka 0 kc] 97 (0, 0))) :
    Calls Try.prog 32 #[.pointer (some ⟨g0, 0, none⟩)] w (Ret fun v w' => v = .int .u64 6 ∧ Below w.heap.size w w') := lFrom_ok g0 5 0 kc ka (by decide) (by decide) (by decide) w hr
theorem awapp_ok (g0 kc : Nat) (ka : Option Addr) (w : World) (hr : w.heap[g0]? = some (.cells #[.int .u64 5, .slice ka 1 kc] 97 (0, 0))) :
    Calls Try.prog 31 #[.pointer (some ⟨g0, 0, none⟩)] w (Ret fun v w' => v = .int .u64 5 ∧ Below w.heap.size w w') := lApplied_ok g0 5 1 kc ka w hr
theorem awcut_ok {B : Nat} {w0 : World} {L : List Res} (g0 : Nat) (h : Hd) (ka : Option Addr) (kc : Nat) (G : Nat → Prop) (w : World) (H : St B w0 w (row 97 g0 #[.int .u64 5, .slice ka 1 kc] :: slo 36 10 (.slice ka 1 kc) 1 (kv [(nopC, h)]) :: cmsr G [(nopC, h)] :: L)) : Calls Try.prog 35 #[.pointer (some ⟨g0, 0, none⟩), .int .u64 5] w (Ret fun v w' => v = .int .i64 1 ∧ LdSt B w0 w' g0 5 [] L) :=
  lcut_ok g0 5 5 [(nopC, h)] (by simp) (by decide) (by simp) (by decide) w ⟨ka, kc, G, H⟩
theorem awget_ok {B : Nat} {w0 : World} {L : List Res} (g0 : Nat) (w : World) (H : LdSt B w0 w g0 5 [] L) : Calls Try.prog 16 #[.pointer (some ⟨g0, 0, none⟩), .int .u64 5] w (Ret fun v w' => v = .tuple #[.agg #[.int .i64 0, .int .u16 0, .int .u32 0, .int .u64 0, .int .u64 0, .slice none 0 0, .int .u64 0, .slice none 0 0, .slice none 0 0, .slice none 0 0], .int .i64 8] ∧ LdSt B w0 w' g0 5 [] L) := by
  refine (lget_ok g0 5 5 [] (by decide) (by decide) (by decide) (by intro p hp; cases hp) w H).mono ?_
  rintro e w1 ⟨v, rfl, h⟩
  rcases h with ⟨_, hv, H1⟩ | ⟨k, p, G2, h, hp, hk, _⟩
  · exact ⟨_, rfl, hv, H1⟩
  · cases hk
theorem aw18_ok (w : World) : Calls Try.prog 13 #[] w (Ret fun v w' => v = .bool true ∧ Below w.heap.size w w') := by
  have H := St.init w
  go_enter Try.func13, Try.ntmps13
  go_wp2_with (first | (go_at_call 14; (with_reducible refine (awnew_ok _ H).mono ?_); rintro e w1 ⟨v, rfl, hr⟩; obtain ⟨g0, rfl, HL⟩ := hr; clear H) | (with_reducible refine wpl rfl (Stp.alloc 6 rfl rfl zero36 H ?_); clear H; intro g6 w1 H; simp only [pS]; simp only [nC] at H) | (with_reducible refine wpl rfl (Stp.str rfl size36 rfl rfl (by first | rfl | (simp [Value.oneCell']; done) | assumption) H uP sZ sZ ?_); clear H; intro w1 H; simp only [pS]) | (with_reducible refine wpl rfl (Stp.stl rfl size36 rfl rfl rfl rfl H uP (by simp) ?_); clear H; intro w1 H; simp only [pS]; simp only [List.drop_succ_cons, List.drop_zero, List.take_succ_cons, List.take_zero, List.nil_append, List.cons_append, Nat.reduceAdd] at H))
  go_wp2_with (first | (with_reducible refine wpl rfl (Stp.build (v := (.agg #[.int .i64 1, .int .u16 0, .int .u32 0, .int .u64 0, .int .u64 0, .slice none 0 0, .int .u64 0, .slice none 0 0, .slice none 0 0, .slice none 0 0])) 10 rfl rfl (fun W => by kernel_rfl) ?_); simp only [pS]) | (go_at_call 15; (with_reducible refine (awadd_ok g0 _ HL).mono ?_); rintro e w1 ⟨v, rfl, hr⟩; obtain ⟨rfl, h, HL2⟩ := hr; clear HL; have HL := HL2; clear HL2) | (with_reducible refine wpl rfl (Stp.alloc 6 rfl rfl zero36 H ?_); clear H; intro g6 w1 H; simp only [pS]; simp only [nC] at H) | (with_reducible refine wpl rfl (Stp.str rfl size36 rfl rfl (by first | rfl | (simp [Value.oneCell']; done) | assumption) H uP sZ sZ ?_); clear H; intro w1 H; simp only [pS]) | (with_reducible refine wpl rfl (Stp.stl rfl size36 rfl rfl rfl rfl H uP (by simp) ?_); clear H; intro w1 H; simp only [pS]; simp only [List.drop_succ_cons, List.drop_zero, List.take_succ_cons, List.take_zero, List.nil_append, List.cons_append, Nat.reduceAdd] at H))
  obtain ⟨ka, kc, G, H⟩ := HL
  replace H : St _ _ _ (row 97 g0 #[.int .u64 5, .slice ka 1 kc] :: slo 36 10 (.slice ka 1 kc) 1 (kv [(nopC, h)]) :: cmsr G [(nopC, h)] :: []) := H
  go_wp2_with (first | (go_at_call 32; (with_reducible refine (awfrom5_ok g0 kc ka _ (H.getHeap mE)).mono ?_); rintro e w1 ⟨v, rfl, hr⟩; obtain ⟨rfl, hb1⟩ := hr; replace H := H.grow hb1; clear hb1) | (go_at_call 31; (with_reducible refine (awapp_ok g0 kc ka _ (H.getHeap mE)).mono ?_); rintro e w1 ⟨v, rfl, hr⟩; obtain ⟨rfl, hb1⟩ := hr; replace H := H.grow hb1; clear hb1) | (go_at_call 35; (with_reducible refine (awcut_ok g0 h ka kc G _ H).mono ?_); rintro e w1 ⟨v, rfl, hr⟩; obtain ⟨rfl, HL⟩ := hr; clear H) | (with_reducible refine wpl rfl (Stp.alloc 6 rfl rfl zero36 H ?_); clear H; intro g6 w1 H; simp only [pS]; simp only [nC] at H) | (with_reducible refine wpl rfl (Stp.str rfl size36 rfl rfl (by first | rfl | (simp [Value.oneCell']; done) | assumption) H uP sZ sZ ?_); clear H; intro w1 H; simp only [pS]) | (with_reducible refine wpl rfl (Stp.stl rfl size36 rfl rfl rfl rfl H uP (by simp) ?_); clear H; intro w1 H; simp only [pS]; simp only [List.drop_succ_cons, List.drop_zero, List.take_succ_cons, List.take_zero, List.nil_append, List.cons_append, Nat.reduceAdd] at H))
  go_wp2_with (first | (go_at_call 16; (with_reducible refine (awget_ok g0 _ HL).mono ?_); rintro e w1 ⟨v, rfl, hr⟩; obtain ⟨rfl, HL2⟩ := hr; clear HL; obtain ⟨kb, kd, G2, H⟩ := HL2; replace H : St _ _ _ (row 97 g0 #[.int .u64 5, .slice kb 0 kd] :: slo 36 10 (.slice kb 0 kd) 0 (kv []) :: cmsr G2 [] :: []) := H) | (with_reducible refine wpl rfl (Stp.alloc 6 rfl rfl zero36 H ?_); clear H; intro g6 w1 H; simp only [pS]; simp only [nC] at H) | (with_reducible refine wpl rfl (Stp.str rfl size36 rfl rfl (by first | rfl | (simp [Value.oneCell']; done) | assumption) H uP sZ sZ ?_); clear H; intro w1 H; simp only [pS]) | (with_reducible refine wpl rfl (Stp.stl rfl size36 rfl rfl rfl rfl H uP (by simp) ?_); clear H; intro w1 H; simp only [pS]; simp only [List.drop_succ_cons, List.drop_zero, List.take_succ_cons, List.take_zero, List.nil_append, List.cons_append, Nat.reduceAdd] at H))
  go_wp2_with (first | (go_at_call 32; (with_reducible refine (awfrom6_ok g0 kd kb _ (H.getHeap mE)).mono ?_); rintro e w1 ⟨v, rfl, hr⟩; obtain ⟨rfl, hb1⟩ := hr; replace H := H.grow hb1; clear hb1) | (with_reducible refine wpl rfl (Stp.alloc 6 rfl rfl zero36 H ?_); clear H; intro g6 w1 H; simp only [pS]; simp only [nC] at H) | (with_reducible refine wpl rfl (Stp.str rfl size36 rfl rfl (by first | rfl | (simp [Value.oneCell']; done) | assumption) H uP sZ sZ ?_); clear H; intro w1 H; simp only [pS]) | (with_reducible refine wpl rfl (Stp.stl rfl size36 rfl rfl rfl rfl H uP (by simp) ?_); clear H; intro w1 H; simp only [pS]; simp only [List.drop_succ_cons, List.drop_zero, List.take_succ_cons, List.take_zero, List.nil_append, List.cons_append, Nat.reduceAdd] at H))
  go_ret
  exact ⟨_, rfl, rfl, H.below⟩
/-! ### The law -/
theorem law_lnil (n : Int) (c : Cm) (ba ma la da : Option Addr) (bc mc lc dc : Nat) (w : World) :
    Calls Try.prog 7 #[.int .u64 n, .agg (cmC c ba ma la da bc mc lc dc)] w (Ret fun v w' => v = .bool true ∧ Below w.heap.size w w') := by
  have H := St.init w
  simp only [cmC]
  go_enter Try.func7, Try.ntmps7
  go_wp2_with (first | (go_at_call 16; (with_reducible refine (nGet_ok n _).mono ?_); rintro e w1 ⟨v, rfl, hr⟩; obtain ⟨rfl, hb1⟩ := hr; replace H := H.grow hb1; clear hb1) | (go_at_call 15; (with_reducible refine (nAdd_ok n _ _).mono ?_); rintro e w1 ⟨v, rfl, hr⟩; obtain ⟨rfl, hb1⟩ := hr; replace H := H.grow hb1; clear hb1) | (go_at_call 35; (with_reducible refine (nCut_ok n _).mono ?_); rintro e w1 ⟨v, rfl, hr⟩; obtain ⟨rfl, hb1⟩ := hr; replace H := H.grow hb1; clear hb1) | (go_at_call 31; (with_reducible refine (nApplied_ok _).mono ?_); rintro e w1 ⟨v, rfl, hr⟩; obtain ⟨rfl, hb1⟩ := hr; replace H := H.grow hb1; clear hb1) | (go_at_call 32; (with_reducible refine (nFrom_ok _).mono ?_); rintro e w1 ⟨v, rfl, hr⟩; obtain ⟨rfl, hb1⟩ := hr; replace H := H.grow hb1; clear hb1) | (go_at_call 30; (with_reducible refine (nKept_ok _).mono ?_); rintro e w1 ⟨v, rfl, hr⟩; obtain ⟨rfl, hb1⟩ := hr; replace H := H.grow hb1; clear hb1) | (go_at_call 34; (with_reducible refine (nRoom_ok _).mono ?_); rintro e w1 ⟨v, rfl, hr⟩; obtain ⟨rfl, hb1⟩ := hr; replace H := H.grow hb1; clear hb1) | (go_at_call 13; (with_reducible refine (aw18_ok _).mono ?_); rintro e w1 ⟨v, rfl, hr⟩; obtain ⟨rfl, hb1⟩ := hr; replace H := H.grow hb1; clear hb1) | (with_reducible refine wpl rfl (Stp.box 3 rfl rfl rfl H ?_); clear H; intro g3 w1 H; simp only [pS]; simp only [pE, nC, pS] at H) | (with_reducible refine wpl rfl (Stp.alloc 6 rfl rfl zero36 H ?_); clear H; intro g6 w1 H; simp only [pS]; simp only [nC] at H) | (with_reducible refine wpl rfl (Stp.str rfl size36 rfl rfl (by first | rfl | (simp [Value.oneCell']; done) | assumption) H uP sZ sZ ?_); clear H; intro w1 H; simp only [pS]) | (with_reducible refine wpl rfl (Stp.stl rfl size36 rfl rfl rfl rfl H uP (by simp) ?_); clear H; intro w1 H; simp only [pS]; simp only [List.drop_succ_cons, List.drop_zero, List.take_succ_cons, List.take_zero, List.nil_append, List.cons_append, Nat.reduceAdd] at H) | (with_reducible refine wpl rfl (Stp.ldr rfl agg36 size36 rfl H mR sZ ?_); simp only [pS]) | (with_reducible refine wpl rfl (Stp.ldl rfl agg36 size36 rfl H mR (by simp) ?_); simp only [pS]; simp only [List.drop_succ_cons, List.drop_zero, List.take_succ_cons, List.take_zero]) | (with_reducible refine wpl rfl (Stp.ldor rfl agg36 size36 rfl H (by assumption) sZ (by assumption) ?_); simp only [pS]))
  go_ret
  exact ⟨_, rfl, rfl, H.below⟩
set_option maxRecDepth 100000 in
theorem ledgerNil_lifted (os : Os) (started : os.Started) (H : Type) (enc : TypeId × Value → H) :
    ReturnsInHanded {} Try.checked os 7 .any (Rows.ledgerNilSpec.pre6 enc Try.prog Try.f7 Rows.ledgerNilRow.domain false) (Rows.ledgerNilSpec.post enc Try.prog Try.f7 false true false false) := by
  refine law_lifted (C := Try.checked) own started (by kernel_rfl) Try.func7 laidOut rfl Try.underlying4 rfl (by kernel_rfl) (fun ds hd => ?_)
    (ChangeSpec.witness6 (enc := enc) (C := Try.checked) false ⟨#[], #[.int .u64 0, .agg #[.int .i64 0, .int .u16 0, .int .u32 0, .int .u64 0, .int .u64 0, .slice none 0 0, .int .u64 0, .slice none 0 0, .slice none 0 0, .slice none 0 0]], []⟩ 8 (by kernel_rfl) (by kernel_rfl) (by kernel_rfl) (by kernel_rfl)) ?_
  · match ds, hd with
    | [d0, d1], _ => exact ⟨rfl, rfl, rfl⟩
  intro W base args ds p hval hA
  rw [Try.params7] at hA hval
  obtain ⟨v0, vs0, d0, ds0, p0, q0, hargs, rfl, rfl, h0, r0⟩ := trodAll_cons hA
  obtain ⟨v1, vs1, d1, ds1, p1, q1, rfl, rfl, rfl, h1, r1⟩ := trodAll_cons r0
  obtain ⟨rfl, rfl, rfl⟩ := trodAll_nil r1
  obtain rfl : args = #[v0, v1] := by cases args; simp_all
  obtain ⟨n, rfl, _, _, nw⟩ := open_int Try.underlying26 (hval 0 26 v0 rfl rfl) h0
  obtain ⟨c, ba, ma, la, da, bc, mc, lc, dc, rfl, cw, cr⟩ := open_cm (hval 1 36 v1 rfl rfl) h1
  exact law_lnil n c ba ma la da bc mc lc dc W
theorem ledgerNil_over : Rows.ledgerNilRow.holds Try.pinned (OpenSpec.ofChange Rows.ledgerNilSpec) :=
  OpenClaim.holds_of_wide 7 Try.f7 rfl rfl rfl rfl rfl rfl rfl ⟨rfl, rfl, rfl, rfl, rfl⟩ rfl rfl rfl rfl rfl (by kernel_rfl) Try.func7 (by kernel_rfl)
    (of_decide_eq_true (by kernel_rfl)) (by unfold Func.isWrapper; first | (rw [if_pos (by decide +kernel)]; kernel_rfl) | (rw [if_neg (by decide +kernel)]; exact ⟨rfl, rfl⟩))
    (fun os started H enc _ => ledgerNil_lifted os started H enc)
theorem ledgerNil_holds : Rows.LedgerNilSaid := ledgerNil_over
#print axioms ledgerNil_holds
end Go.Proofs.Ytmokecicjmjkbaa
