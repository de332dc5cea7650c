/- The statement LedgerNil of layer 18 (ledger), proved; no condition: a ledger that is none, the example, the law's walk, and the row round it. The statement LedgerReads of layer 18 (ledger): any bytes are read as the ledger whose bytes they are, or refused, as the reference says; the bounds stand in the walk. -/
import Derived.Test.YtmokecicjmjkbaaGz10
import Derived.Test.YtmokecicjmjkbaaGz23
import Derived.Test.YtmokecicjmjkbaaGz24
import Derived.Test.YtmokecicjmjkbaaGz25
namespace Go.Proofs.Ytmokecicjmjkbaa
open Go.ChangeShapes Go.WideShapes Go.ChangeAt Go.RowKit Go.Maps Go.Deep
set_option linter.unusedVariables false
set_option linter.unusedSimpArgs false
set_option maxRecDepth 100000
theorem awnew_ok {B : Nat} {w0 : World} {L : List Res} (w : World) (H : St B w0 w L) : Calls Try.prog 14 #[.int .u64 4] w (Ret fun v w' => ∃ g0, v = .pointer (some ⟨g0, 0, none⟩) ∧ LdSt B w0 w' g0 4 [] L) := lnew_ok 4 w H
def nopC : Cm := ⟨1, (0, 0), 0, 0, [], vw0⟩
theorem nop_err : cErr nopC = 0 := by
  have h1 : only nopC = nopC := rfl
  have h2 : cSame nopC nopC = true := cSame_iff.2 rfl
  unfold cErr kindOk
  rw [h1, h2]
  rfl
theorem nop_sm : smC nopC := ⟨by decide, ⟨by decide, by decide, (by intro l hl; cases hl), by decide⟩⟩
theorem nop_wf : wfC nopC := ⟨by decide, by decide, by decide, by decide, (by intro x hx; cases hx), ⟨by decide, (by intro p hp; cases hp), (by intro l hl; cases hl), (by intro p hp; cases hp)⟩⟩
theorem awadd_ok {B : Nat} {w0 : World} {L : List Res} (g0 : Nat) (w : World) (H : LdSt B w0 w g0 4 [] L) : Calls Try.prog 15 #[.pointer (some ⟨g0, 0, none⟩), .int .u64 5, .agg #[.int .i64 1, .int .u16 0, .int .u32 0, .int .u64 0, .int .u64 0, .slice none 0 0, .int .u64 0, .slice none 0 0, .slice none 0 0, .slice none 0 0]] w (Ret fun v w' => v = .int .i64 0 ∧ ∃ h, LdSt B w0 w' g0 5 [(nopC, h)] L) := by
  have := ladd_ok (G1 := fun _ => False) g0 4 5 [] nopC none none none none 0 0 0 0 (by decide) (by decide) (by decide) nop_sm nop_wf (fun W _ _ => CmG.nil _ W 1) w H
  have he : addE 4 ([] : List (Cm × Hd)).length 5 nopC = 0 := by unfold addE; rw [nop_err]; rfl
  rw [he] at this
  refine this.mono ?_
  rintro e w1 ⟨v, rfl, hv, h⟩
  rcases h with ⟨_, h, H1⟩ | ⟨hc, _⟩
  · exact ⟨_, rfl, hv, h, H1⟩
  · exact absurd rfl hc
theorem awfrom5_ok (g0 kc : Nat) (ka : Option Addr) (w : World) (hr : w.heap[g0]? = some (.cells #[.int .u64 5, .slice ka 1 kc] 97 (0, 0))) :
    Calls Try.prog 32 #[.pointer (some ⟨g0, 0, none⟩)] w (Ret fun v w' => v = .int .u64 5 ∧ Below w.heap.size w w') := lFrom_ok g0 5 1 kc ka (by decide) (by decide) (by decide) w hr
theorem awfrom6_ok (g0 kc : Nat) (ka : Option Addr) (w : World) (hr : w.heap[g0]? = some (.cells #[.int .u64 5, .slice ka 0 kc] 97 (0, 0))) :
    Calls Try.prog 32 #[.pointer (some ⟨g0, 0, none⟩)] w (Ret fun v w' => v = .int .u64 6 ∧ Below w.heap.size w w') := lFrom_ok g0 5 0 kc ka (by decide) (by decide) (by decide) w hr
theorem awapp_ok (g0 kc : Nat) (ka : Option Addr) (w : World) (hr : w.heap[g0]? = some (.cells #[.int .u64 5, .slice ka 1 kc] 97 (0, 0))) :
    Calls Try.prog 31 #[.pointer (some ⟨g0, 0, none⟩)] w (Ret fun v w' => v = .int .u64 5 ∧ Below w.heap.size w w') := lApplied_ok g0 5 1 kc ka w hr
theorem awcut_ok {B : Nat} {w0 : World} {L : List Res} (g0 : Nat) (h : Hd) (ka : Option Addr) (kc : Nat) (G : Nat → Prop) (w : World) (H : St B w0 w (row 97 g0 #[.int .u64 5, .slice ka 1 kc] :: slo 36 10 (.slice ka 1 kc) 1 (kv [(nopC, h)]) :: cmsr G [(nopC, h)] :: L)) : Calls Try.prog 35 #[.pointer (some ⟨g0, 0, none⟩), .int .u64 5] w (Ret fun v w' => v = .int .i64 1 ∧ LdSt B w0 w' g0 5 [] L) :=
  lcut_ok g0 5 5 [(nopC, h)] (by simp) (by decide) (by simp) (by decide) w ⟨ka, kc, G, H⟩
theorem awget_ok {B : Nat} {w0 : World} {L : List Res} (g0 : Nat) (w : World) (H : LdSt B w0 w g0 5 [] L) : Calls Try.prog 16 #[.pointer (some ⟨g0, 0, none⟩), .int .u64 5] w (Ret fun v w' => v = .tuple #[.agg #[.int .i64 0, .int .u16 0, .int .u32 0, .int .u64 0, .int .u64 0, .slice none 0 0, .int .u64 0, .slice none 0 0, .slice none 0 0, .slice none 0 0], .int .i64 8] ∧ LdSt B w0 w' g0 5 [] L) := by
  refine (lget_ok g0 5 5 [] (by decide) (by decide) (by decide) (by intro p hp; cases hp) w H).mono ?_
  rintro e w1 ⟨v, rfl, h⟩
  rcases h with ⟨_, hv, H1⟩ | ⟨k, p, G2, h, hp, hk, _⟩
  · exact ⟨_, rfl, hv, H1⟩
  · cases hk
theorem aw18_ok (w : World) : Calls Try.prog 13 #[] w (Ret fun v w' => v = .bool true ∧ Below w.heap.size w w') := by
  have H := St.init w
  go_enter Try.func13, Try.ntmps13
  go_wp2_with (first | (go_at_call 14; (with_reducible refine (awnew_ok _ H).mono ?_); rintro e w1 ⟨v, rfl, hr⟩; obtain ⟨g0, rfl, HL⟩ := hr; clear H) | (with_reducible refine wpl rfl (dQ 6 rfl ?_); with_reducible refine (Stp.alloc 6 rfl rfl zero36 H ?_); clear H; intro g6 w1 H; simp only [pS]; simp only [nC] at H) | (with_reducible refine wpl rfl (stQ (ty := 36) rfl ?_); first | (with_reducible refine (Stp.str rfl size36 rfl rfl (by first | rfl | (simp [Value.oneCell']; done) | assumption) H uP sZ sZ ?_); clear H; intro w1 H; simp only [pS]) | (with_reducible refine (Stp.stl rfl size36 rfl rfl rfl rfl H uP (by simp) ?_); clear H; intro w1 H; simp only [pS]; simp only [List.drop_succ_cons, List.drop_zero, List.take_succ_cons, List.take_zero, List.nil_append, List.cons_append, Nat.reduceAdd] at H)))
  go_wp2_with (first | (with_reducible refine wpl rfl (dQ 10 rfl ?_); with_reducible refine (Stp.build (v := (.agg #[.int .i64 1, .int .u16 0, .int .u32 0, .int .u64 0, .int .u64 0, .slice none 0 0, .int .u64 0, .slice none 0 0, .slice none 0 0, .slice none 0 0])) 10 rfl rfl (fun W => by kernel_rfl) ?_); simp only [pS]) | (go_at_call 15; (with_reducible refine (awadd_ok g0 _ HL).mono ?_); rintro e w1 ⟨v, rfl, hr⟩; obtain ⟨rfl, h, HL2⟩ := hr; clear HL; have HL := HL2; clear HL2) | (with_reducible refine wpl rfl (dQ 6 rfl ?_); with_reducible refine (Stp.alloc 6 rfl rfl zero36 H ?_); clear H; intro g6 w1 H; simp only [pS]; simp only [nC] at H) | (with_reducible refine wpl rfl (stQ (ty := 36) rfl ?_); first | (with_reducible refine (Stp.str rfl size36 rfl rfl (by first | rfl | (simp [Value.oneCell']; done) | assumption) H uP sZ sZ ?_); clear H; intro w1 H; simp only [pS]) | (with_reducible refine (Stp.stl rfl size36 rfl rfl rfl rfl H uP (by simp) ?_); clear H; intro w1 H; simp only [pS]; simp only [List.drop_succ_cons, List.drop_zero, List.take_succ_cons, List.take_zero, List.nil_append, List.cons_append, Nat.reduceAdd] at H)))
  obtain ⟨ka, kc, G, H⟩ := HL
  replace H : St _ _ _ (row 97 g0 #[.int .u64 5, .slice ka 1 kc] :: slo 36 10 (.slice ka 1 kc) 1 (kv [(nopC, h)]) :: cmsr G [(nopC, h)] :: []) := H
  go_wp2_with (first | (go_at_call 32; (with_reducible refine (awfrom5_ok g0 kc ka _ (H.getHeap mE)).mono ?_); rintro e w1 ⟨v, rfl, hr⟩; obtain ⟨rfl, hb1⟩ := hr; replace H := H.grow hb1; clear hb1) | (go_at_call 31; (with_reducible refine (awapp_ok g0 kc ka _ (H.getHeap mE)).mono ?_); rintro e w1 ⟨v, rfl, hr⟩; obtain ⟨rfl, hb1⟩ := hr; replace H := H.grow hb1; clear hb1) | (go_at_call 35; (with_reducible refine (awcut_ok g0 h ka kc G _ H).mono ?_); rintro e w1 ⟨v, rfl, hr⟩; obtain ⟨rfl, HL⟩ := hr; clear H) | (with_reducible refine wpl rfl (dQ 6 rfl ?_); with_reducible refine (Stp.alloc 6 rfl rfl zero36 H ?_); clear H; intro g6 w1 H; simp only [pS]; simp only [nC] at H) | (with_reducible refine wpl rfl (stQ (ty := 36) rfl ?_); first | (with_reducible refine (Stp.str rfl size36 rfl rfl (by first | rfl | (simp [Value.oneCell']; done) | assumption) H uP sZ sZ ?_); clear H; intro w1 H; simp only [pS]) | (with_reducible refine (Stp.stl rfl size36 rfl rfl rfl rfl H uP (by simp) ?_); clear H; intro w1 H; simp only [pS]; simp only [List.drop_succ_cons, List.drop_zero, List.take_succ_cons, List.take_zero, List.nil_append, List.cons_append, Nat.reduceAdd] at H)))
  go_wp2_with (first | (go_at_call 16; (with_reducible refine (awget_ok g0 _ HL).mono ?_); rintro e w1 ⟨v, rfl, hr⟩; obtain ⟨rfl, HL2⟩ := hr; clear HL; obtain ⟨kb, kd, G2, H⟩ := HL2; replace H : St _ _ _ (row 97 g0 #[.int .u64 5, .slice kb 0 kd] :: slo 36 10 (.slice kb 0 kd) 0 (kv []) :: cmsr G2 [] :: []) := H) | (with_reducible refine wpl rfl (dQ 6 rfl ?_); with_reducible refine (Stp.alloc 6 rfl rfl zero36 H ?_); clear H; intro g6 w1 H; simp only [pS]; simp only [nC] at H) | (with_reducible refine wpl rfl (stQ (ty := 36) rfl ?_); first | (with_reducible refine (Stp.str rfl size36 rfl rfl (by first | rfl | (simp [Value.oneCell']; done) | assumption) H uP sZ sZ ?_); clear H; intro w1 H; simp only [pS]) | (with_reducible refine (Stp.stl rfl size36 rfl rfl rfl rfl H uP (by simp) ?_); clear H; intro w1 H; simp only [pS]; simp only [List.drop_succ_cons, List.drop_zero, List.take_succ_cons, List.take_zero, List.nil_append, List.cons_append, Nat.reduceAdd] at H)))
  go_wp2_with (first | (go_at_call 32; (with_reducible refine (awfrom6_ok g0 kd kb _ (H.getHeap mE)).mono ?_); rintro e w1 ⟨v, rfl, hr⟩; obtain ⟨rfl, hb1⟩ := hr; replace H := H.grow hb1; clear hb1) | (with_reducible refine wpl rfl (dQ 6 rfl ?_); with_reducible refine (Stp.alloc 6 rfl rfl zero36 H ?_); clear H; intro g6 w1 H; simp only [pS]; simp only [nC] at H) | (with_reducible refine wpl rfl (stQ (ty := 36) rfl ?_); first | (with_reducible refine (Stp.str rfl size36 rfl rfl (by first | rfl | (simp [Value.oneCell']; done) | assumption) H uP sZ sZ ?_); clear H; intro w1 H; simp only [pS]) | (with_reducible refine (Stp.stl rfl size36 rfl rfl rfl rfl H uP (by simp) ?_); clear H; intro w1 H; simp only [pS]; simp only [List.drop_succ_cons, List.drop_zero, List.take_succ_cons, List.take_zero, List.nil_append, List.cons_append, Nat.reduceAdd] at H)))
  go_ret
  exact ⟨_, rfl, rfl, H.below⟩
end Go.Proofs.Ytmokecicjmjkbaa
namespace Go.Proofs.Ytmokecicjmjkbaa
open Go.ChangeShapes Go.WideShapes Go.ChangeAt Go.RowKit Go.Maps
set_option linter.unusedVariables false
set_option linter.unusedSimpArgs false
set_option linter.unusedSectionVars false
set_option maxRecDepth 100000
set_option maxHeartbeats 4000000
theorem lunpackN_ok {B : Nat} {w0 : World} {M : List Res} (v : Value) (l : List Nat) (hl : l.length ≤ 100000) (hx : ∀ x ∈ l, x < 256) (z : Nat × List Cm) (f : Nat) (hf : lgF l = (z, f)) (h0 : f ≠ 0) (w : World) (hs : Sl w 1 l.length v (elB l)) (H : St B w0 w M) :
    Calls Try.prog 42 #[v] w (Ret fun v' w' => v' = .tuple #[.pointer none, .int .i64 (f : Int)] ∧ St B w0 w' M) := by
  refine (lunpack_ok v l hl hx w hs H).mono ?_
  rintro e w1 ⟨v', rfl, ⟨f', _, h1, rfl, H2⟩ | ⟨a, ks, g0, h1, _⟩⟩
  · rw [hf] at h1
    obtain ⟨_, rfl⟩ := Prod.mk.inj h1
    exact ⟨_, rfl, rfl, H2⟩
  · rw [hf] at h1
    exact absurd (Prod.mk.inj h1).2 h0
theorem lunpackY_ok {B : Nat} {w0 : World} {M : List Res} (v : Value) (l : List Nat) (hl : l.length ≤ 100000) (hx : ∀ x ∈ l, x < 256) (a : Nat) (cs : List Cm) (hf : lgF l = ((a, cs), 0)) (w : World) (hs : Sl w 1 l.length v (elB l)) (H : St B w0 w M) :
    Calls Try.prog 42 #[v] w (Ret fun v' w' => ∃ (ks : List (Cm × Hd)) (g0 : Nat), v' = .tuple #[.pointer (some ⟨g0, 0, none⟩), .int .i64 0] ∧ ks.map (·.1) = cs ∧ LdSt B w0 w' g0 a ks M) := by
  refine (lunpack_ok v l hl hx w hs H).mono ?_
  rintro e w1 ⟨v', rfl, ⟨f', h0, h1, rfl, H2⟩ | ⟨a', ks, g0, h1, rfl, H2⟩⟩
  · rw [hf] at h1
    exact absurd (Prod.mk.inj h1).2.symm h0
  · rw [hf] at h1
    obtain ⟨rfl, h2⟩ := Prod.mk.inj (Prod.mk.inj h1).1
    exact ⟨_, rfl, ks, g0, rfl, h2.symm, H2⟩
theorem rlunpackN_ok {B : Nat} {w0 : World} {L T : List Res} (v : Value) (l : List Nat) (hb0 : Byt B w0 L v l) (hML : L.Sublist T) (z : Nat × List Cm) (f : Nat) (hf : lgF l = (z, f)) (h0 : f ≠ 0) (w : World) (H : St B w0 w T) :
    Calls Try.prog 43 #[v] w (Ret fun v' w' => v' = .tuple #[.pointer none, .int .i64 (f : Int)] ∧ St B w0 w' T) := by
  refine (rlunpack_ok v l hb0 hML w H).mono ?_
  rintro e w1 ⟨v', rfl, ⟨f', _, h1, rfl, H2⟩ | ⟨a, cs, g0, h1, _⟩⟩
  · rw [hf] at h1
    obtain ⟨_, rfl⟩ := Prod.mk.inj h1
    exact ⟨_, rfl, rfl, H2⟩
  · rw [hf] at h1
    exact absurd (Prod.mk.inj h1).2 h0
theorem rlunpackY_ok {B : Nat} {w0 : World} {L T : List Res} (v : Value) (l : List Nat) (hb0 : Byt B w0 L v l) (hML : L.Sublist T) (a : Nat) (cs : List Cm) (hf : lgF l = ((a, cs), 0)) (w : World) (H : St B w0 w T) :
    Calls Try.prog 43 #[v] w (Ret fun v' w' => ∃ gx, v' = .tuple #[.pointer (some ⟨gx, 0, none⟩), .int .i64 0] ∧ ∃ (xa : Option Addr) (xc : Nat), St B w0 w' (row 65 gx #[.int .u64 (a : Int), .slice xa cs.length xc] :: T)) := by
  refine (rlunpack_ok v l hb0 hML w H).mono ?_
  rintro e w1 ⟨v', rfl, ⟨f', h0, h1, rfl, H2⟩ | ⟨a', cs', g0, h1, rfl, xa, xc, H2⟩⟩
  · rw [hf] at h1
    exact absurd (Prod.mk.inj h1).2.symm h0
  · rw [hf] at h1
    obtain ⟨rfl, rfl⟩ := Prod.mk.inj (Prod.mk.inj h1).1
    exact ⟨_, rfl, g0, rfl, xa, xc, H2⟩
theorem open_bsL {H : Type} {enc : TypeId × Value → H} {W : World} {base : Nat} {v : Value} {d : DataW H} {p : List MemPlace} (hv : Value.okWide Try.prog W .any base 22 v) (h : DataW.Trod enc Try.prog W 0 (fun _ => true) true 22 v d p) :
    ∃ (a : Option Addr) (c : Nat) (l : List Nat), v = .slice a l.length c ∧ l.length ≤ c ∧ (∀ x ∈ l, x < 256) ∧ Sl W 1 l.length (.slice a l.length c) (elB l) := by
  obtain ⟨l, hx, hs⟩ := open_bs hv h
  have hcap := cap_in Try.underlying22 hv h
  obtain ⟨a, c, rfl, hm, hh⟩ := id hs
  exact ⟨a, c, l, rfl, hcap _ _ _ rfl, hx, hs⟩
attribute [local irreducible] lgF lgB
theorem law_lreads (A : Option Addr) (cp : Nat) (l : List Nat) (hcp : l.length ≤ cp) (hx : ∀ x ∈ l, x < 256) (w : World) (hs : Sl w 1 l.length (.slice A l.length cp) (elB l)) :
    Calls Try.prog 11 #[.slice A l.length cp] w (Ret fun v w' => v = .bool true ∧ Below w.heap.size w w') := by
  have H := St.init w
  have HX := Lib.hid hx
  by_cases hl2 : 2000 < l.length
  · have hli : (2000 : Int) < (l.length : Int) := by omega
    clear hx
    go_enter Try.func11, Try.ntmps11
    go_wp2_with (first | (go_at_call 13; (with_reducible refine (aw18_ok _).mono ?_); rintro e w1 ⟨v, rfl, hr⟩; obtain ⟨rfl, hb1⟩ := hr; replace H := H.grow hb1; clear hb1))
    go_ret
    exact ⟨_, rfl, rfl, H.below⟩
  have hl5 : l.length ≤ 100000 := by omega
  have hli : ¬ (2000 : Int) < (l.length : Int) := by omega
  have hb0 : Byt w.heap.size w [] (.slice A l.length cp) l := ⟨A, l.length, cp, rfl, rfl, hcp, hx, hl5, Rd.of_old hs⟩
  obtain ⟨⟨z, f⟩, hf⟩ : ∃ y, lgF l = y := ⟨_, rfl⟩
  by_cases h0 : f ≠ 0
  · have HF := Lib.hid hf
    have HF0 := Lib.hid h0
    have hfi : ((f : Int) != 0) = true := by simp; omega
    have hff : ((f : Int) != (f : Int)) = false := by simp
    clear hf h0 hl2 hx
    go_enter Try.func11, Try.ntmps11
    go_wp2_with (first | (go_at_call 42; (with_reducible refine (lunpackN_ok _ l hl5 HX.out z f HF.out HF0.out _ (hs.grow H.below) H).mono ?_); rintro e w1 ⟨v, rfl, hr⟩; obtain ⟨rfl, H2⟩ := hr; clear H; have H := H2; clear H2) | (go_at_call 43; (with_reducible refine (rlunpackN_ok _ l hb0 (List.nil_sublist _) z f HF.out HF0.out _ H).mono ?_); rintro e w1 ⟨v, rfl, hr⟩; obtain ⟨rfl, H2⟩ := hr; clear H; have H := H2; clear H2) | (go_at_call 13; (with_reducible refine (aw18_ok _).mono ?_); rintro e w1 ⟨v, rfl, hr⟩; obtain ⟨rfl, hb1⟩ := hr; replace H := H.grow hb1; clear hb1))
    refine rg_begin 31 rfl (S := fun W => St _ _ W ([] : List Res)) (by kernel_rfl) (H.drew.sub sU) ?_
    replace H := H.drew
    have HS := H
    refine rg_take (i := 0) rfl kR kR kR (Yld.move rfl rfl) (H.sub sU) ?_; simp only [pS, pE]
    refine rg_take (i := 1) rfl kR kR kR (Yld.o rfl) (H.sub sU) ?_; simp only [pS]
    refine rg_take (i := 2) rfl kR kR kR (Yld.move rfl rfl) (H.sub sU) ?_; simp only [pS, pE]
    refine rg_take (i := 3) rfl kR kR kR (Yld.skip rfl) (H.sub sU) ?_; simp only [pS]
    refine rg_take (i := 4) rfl kR kR kR (Yld.skip rfl) (H.sub sU) ?_; simp only [pS]
    refine rg_take (i := 5) rfl kR kR kR (Yld.skip rfl) (H.sub sU) ?_; simp only [pS]
    refine rg_take (i := 6) rfl kR kR kR (Yld.skip rfl) (H.sub sU) ?_; simp only [pS]
    refine rg_take (i := 7) rfl kR kR kR (Yld.skip rfl) (H.sub sU) ?_; simp only [pS]
    refine rg_take (i := 8) rfl kR kR kR (Yld.skip rfl) (H.sub sU) ?_; simp only [pS]
    refine rg_take (i := 9) rfl kR kR kR (Yld.skip rfl) (H.sub sU) ?_; simp only [pS]
    refine rg_take (i := 10) rfl kR kR kR (Yld.skip rfl) (H.sub sU) ?_; simp only [pS]
    refine rg_take (i := 11) rfl kR kR kR (Yld.skip rfl) (H.sub sU) ?_; simp only [pS]
    refine rg_take (i := 12) rfl kR kR kR (Yld.skip rfl) (H.sub sU) ?_; simp only [pS]
    refine rg_take (i := 13) rfl kR kR kR (Yld.skip rfl) (H.sub sU) ?_; simp only [pS]
    refine rg_take (i := 14) rfl kR kR kR (Yld.skip rfl) (H.sub sU) ?_; simp only [pS]
    refine rg_take (i := 15) rfl kR kR kR (Yld.skip rfl) (H.sub sU) ?_; simp only [pS]
    refine rg_take (i := 16) rfl kR kR kR (Yld.skip rfl) (H.sub sU) ?_; simp only [pS]
    refine rg_take (i := 17) rfl kR kR kR (Yld.skip rfl) (H.sub sU) ?_; simp only [pS]
    refine rg_take (i := 18) rfl kR kR kR (Yld.skip rfl) (H.sub sU) ?_; simp only [pS]
    refine rg_take (i := 19) rfl kR kR kR (Yld.skip rfl) (H.sub sU) ?_; simp only [pS]
    refine rg_take (i := 20) rfl kR kR kR (Yld.skip rfl) (H.sub sU) ?_; simp only [pS]
    refine rg_take (i := 21) rfl kR kR kR (Yld.skip rfl) (H.sub sU) ?_; simp only [pS]
    refine rg_take (i := 22) rfl kR kR kR (Yld.skip rfl) (H.sub sU) ?_; simp only [pS]
    refine rg_take (i := 23) rfl kR kR kR (Yld.skip rfl) (H.sub sU) ?_; simp only [pS]
    refine rg_take (i := 24) rfl kR kR kR (Yld.skip rfl) (H.sub sU) ?_; simp only [pS]
    refine rg_take (i := 25) rfl kR kR kR (Yld.skip rfl) (H.sub sU) ?_; simp only [pS]
    refine rg_take (i := 26) rfl kR kR kR (Yld.pick rfl rfl rfl) (H.sub sU) ?_; simp only [pS, pE]
    refine rg_take (i := 27) rfl kR kR kR (Yld.move rfl rfl) (H.sub sU) ?_; simp only [pS, pE]
    refine rg_one (i := 28) (by kernel_rfl) rfl rfl (fun K hK => ?_)
    refine wp_callf rfl ent13 (aw18_ok _) rfl (fun v w1 hr => ?_)
    obtain ⟨rfl, hb1⟩ := hr
    replace H := H.grow hb1
    clear hb1
    clear HS
    have HS := H
    refine hK.out _ _ (H.sub sU) ?_
    clear hK K
    simp only [pS]
    refine rg_take (i := 29) rfl kR kR kR (Yld.pick rfl rfl rfl) (H.sub sU) ?_; simp only [pS, pE]
    refine rg_take (i := 30) rfl kR kR kR (Yld.assign rfl rfl) (H.sub sU) ?_; simp only [pS, pE]
    refine rg_done (by kernel_rfl) ?_
    go_wp2_with (first | (go_at_call 13; (with_reducible refine (aw18_ok _).mono ?_); rintro e w1 ⟨v, rfl, hr⟩; obtain ⟨rfl, hb1⟩ := hr; replace H := H.grow hb1; clear hb1))
    go_ret
    exact ⟨_, rfl, rfl, H.below⟩
  · obtain rfl : f = 0 := by omega
    obtain ⟨a, cs⟩ := z
    obtain ⟨h1, h2, h3, h4, h5⟩ := lgF_form hx hf
    have h6 := lgF_sm hx hf
    have HF := Lib.hid hf
    have h00 : (((0 : Nat) : Int) != 0) = false := by simp
    have ha64 : a < 18446744073709551616 := by omega
    have HB0 := Lib.hid h1.symm
    have H25 := Lib.hid (And.intro h2 h5)
    have H6 := Lib.hid h6
    clear hf h0 hl2 hx h1 h2 h3 h4 h5 h6
    go_enter Try.func11, Try.ntmps11
    go_upto_region 5 with (first | (go_at_call 42; (with_reducible refine (lunpackY_ok _ l hl5 HX.out a cs HF.out _ (hs.grow H.below) H).mono ?_); rintro e w1 ⟨v, rfl, hr⟩; obtain ⟨ks, g0, rfl, hks, ka, kc, G, H2⟩ := hr; clear H; have H := H2; clear H2; have HKS := Lib.hid hks; clear hks) | (go_at_call 43; (with_reducible refine (rlunpackY_ok _ l hb0 (List.nil_sublist _) a cs HF.out _ H).mono ?_); rintro e w1 ⟨v, rfl, hr⟩; obtain ⟨gx, rfl, xa, xc, H2⟩ := hr; clear H; have H := H2; clear H2; rw [show cs.length = ks.length from by rw [← HKS.out, List.length_map]] at H))
    have HN : Hid (ks.length ≤ 64) := Lib.hid (by have := H25.out.1; rw [← HKS.out, List.length_map] at this; exact this)
    have HOK : Hid (∀ p ∈ ks, cErr p.1 = 0 ∧ smC p.1 ∧ wfC p.1) := Lib.hid (fun p hp => by
      have hm : p.1 ∈ cs := by rw [← HKS.out]; exact List.mem_map_of_mem hp
      exact ⟨H25.out.2 _ hm, H6.out _ hm⟩)
    have HB : Hid (lgB a (ks.map (·.1)) = l) := Lib.hid (by rw [HKS.out]; exact HB0.out)
    have haa : ((a : Int) == (a : Int)) = true := by simp
    have hkk : ((ks.length : Int) == (ks.length : Int)) = true := by simp
    go_wp2_with fail
    refine rg_begin 31 rfl (S := fun W => St _ _ W (row 65 gx #[.int .u64 (a : Int), .slice xa ks.length xc] :: [])) (by kernel_rfl) (H.drew.sub sU) ?_
    replace H := H.drew
    have HS := H
    refine rg_take (i := 0) rfl kR kR kR (Yld.move rfl rfl) (H.sub sU) ?_; simp only [pS, pE]
    refine rg_take (i := 1) rfl kR kR kR (Yld.o rfl) (H.sub sU) ?_; simp only [pS]
    refine rg_take (i := 2) rfl kR kR kR (Yld.move rfl rfl) (H.sub sU) ?_; simp only [pS, pE]
    refine rg_take (i := 3) rfl kR kR kR (Yld.move rfl rfl) (H.sub sU) ?_; simp only [pS, pE]
    refine rg_take (i := 5) rfl kR kR kR (Yld.move rfl rfl) (H.sub sU) ?_; simp only [pS, pE]
    refine rg_take (i := 6) rfl kR kR kR (Yld.o rfl) (H.sub sU) ?_; simp only [pS]
    refine rg_take (i := 7) rfl kR kR kR (Yld.o rfl) (H.sub sU) ?_; simp only [pS]
    first | (refine rg_take (i := 8) rfl kR kR kR (Yld.ldo rfl rfl agg26 rfl (by assumption) (by assumption)) (H.sub sU) ?_; simp only [pS]) | (refine rg_take (i := 8) rfl kR kR kR (Yld.ldc rfl rfl agg26 rfl mR cE) (H.sub sU) ?_; simp only [pS])
    refine rg_one (i := 4) (by kernel_rfl) rfl rfl (fun K hK => ?_)
    refine wp_callf rfl ent31 (lApplied_ok g0 a ks.length kc ka _ (H.getHeap mE)) rfl (fun v w1 hr => ?_)
    obtain ⟨rfl, hb1⟩ := hr
    replace H := H.grow hb1
    clear hb1
    clear HS
    have HS := H
    refine hK.out _ _ (H.sub sU) ?_
    clear hK K
    simp only [pS]
    refine rg_take (i := 9) rfl kR kR kR (Yld.o rfl) (H.sub sU) ?_; simp only [pS]
    refine rg_take (i := 10) rfl kR kR kR (Yld.move rfl rfl) (H.sub sU) ?_; simp only [pS, pE]
    refine rg_take (i := 11) rfl kR kR kR (Yld.move rfl rfl) (H.sub sU) ?_; simp only [pS, pE]
    refine rg_take (i := 13) rfl kR kR kR (Yld.move rfl rfl) (H.sub sU) ?_; simp only [pS, pE]
    refine rg_take (i := 14) rfl kR kR kR (Yld.o rfl) (H.sub sU) ?_; simp only [pS]
    refine rg_take (i := 15) rfl kR kR kR (Yld.o rfl) (H.sub sU) ?_; simp only [pS]
    first | (refine rg_take (i := 16) rfl kR kR kR (Yld.ldo rfl rfl agg63 rfl (by assumption) (by assumption)) (H.sub sU) ?_; simp only [pS]) | (refine rg_take (i := 16) rfl kR kR kR (Yld.ldc rfl rfl agg63 rfl mR cE) (H.sub sU) ?_; simp only [pS])
    refine rg_take (i := 17) rfl kR kR kR (Yld.o rfl) (H.sub sU) ?_; simp only [pS]
    refine rg_one (i := 12) (by kernel_rfl) rfl rfl (fun K hK => ?_)
    refine wp_callf rfl ent30 (lKept_ok g0 a ks.length kc ka _ (H.getHeap mE)) rfl (fun v w1 hr => ?_)
    obtain ⟨rfl, hb1⟩ := hr
    replace H := H.grow hb1
    clear hb1
    clear HS
    have HS := H
    refine hK.out _ _ (H.sub sU) ?_
    clear hK K
    simp only [pS]
    refine rg_take (i := 18) rfl kR kR kR (Yld.o rfl) (H.sub sU) ?_; simp only [pS]
    refine rg_take (i := 19) rfl kR kR kR (Yld.pick rfl rfl rfl) (H.sub sU) ?_; simp only [pS, pE]
    refine rg_take (i := 20) rfl kR kR kR (Yld.move rfl rfl) (H.sub sU) ?_; simp only [pS, pE]
    refine rg_take (i := 21) rfl kR kR kR (Yld.move rfl rfl) (H.sub sU) ?_; simp only [pS, pE]
    refine rg_take (i := 23) rfl kR kR kR (Yld.move rfl rfl) (H.sub sU) ?_; simp only [pS, pE]
    refine rg_one (i := 22) (by kernel_rfl) rfl rfl (fun K hK => ?_)
    refine wp_callf rfl ent44 (lpack_ok g0 a ks l ha64 HN.out HOK.out HB.out _ (H.ldw (g0 := g0) (ap := a) (ks := ks) (ka := ka) (kc := kc) (G := G) mE mE mE)) rfl (fun v w1 hr => ?_)
    obtain ⟨⟨am, cm, rfl⟩, ho, hb1⟩ := hr
    replace H := H.new hb1 (slc_sound ho) (fun g hg => (ho.lt g hg).1)
    clear hb1 ho
    clear HS
    have HS := H
    refine hK.out _ _ (H.sub sU) ?_
    clear hK K
    simp only [pS]
    refine rg_one (i := 24) (by kernel_rfl) rfl rfl (fun K hK => ?_)
    refine wp_callf rfl ent17 (same_ok _ _ l l _ (own_slk (H.getSlc (xs := bv l) mE) rfl (by omega)) (hs.grow H.below)) rfl (fun v w1 hr => ?_)
    obtain ⟨rfl, hb1⟩ := hr
    replace H := H.grow hb1
    clear hb1
    rw [beq_self_eq_true]
    clear HS
    have HS := H
    refine hK.out _ _ (H.sub sU) ?_
    clear hK K
    simp only [pS]
    refine rg_take (i := 25) rfl kR kR kR (Yld.pick rfl rfl rfl) (H.sub sU) ?_; simp only [pS, pE]
    refine rg_take (i := 26) rfl kR kR kR (Yld.pick rfl rfl rfl) (H.sub sU) ?_; simp only [pS, pE]
    refine rg_take (i := 27) rfl kR kR kR (Yld.move rfl rfl) (H.sub sU) ?_; simp only [pS, pE]
    refine rg_one (i := 28) (by kernel_rfl) rfl rfl (fun K hK => ?_)
    refine wp_callf rfl ent13 (aw18_ok _) rfl (fun v w1 hr => ?_)
    obtain ⟨rfl, hb1⟩ := hr
    replace H := H.grow hb1
    clear hb1
    clear HS
    have HS := H
    refine hK.out _ _ (H.sub sU) ?_
    clear hK K
    simp only [pS]
    refine rg_take (i := 29) rfl kR kR kR (Yld.pick rfl rfl rfl) (H.sub sU) ?_; simp only [pS, pE]
    refine rg_take (i := 30) rfl kR kR kR (Yld.assign rfl rfl) (H.sub sU) ?_; simp only [pS, pE]
    refine rg_done (by kernel_rfl) ?_
    go_wp2_with fail
    go_ret
    exact ⟨_, rfl, rfl, H.below⟩
set_option maxRecDepth 100000 in
theorem ledgerReads_lifted (os : Os) (started : os.Started) (H : Type) (enc : TypeId × Value → H) :
    ReturnsInHanded {} Try.checked os 11 .any (Rows.ledgerReadsSpec.pre6 enc Try.prog Try.f11 Rows.ledgerReadsRow.domain false) (Rows.ledgerReadsSpec.post enc Try.prog Try.f11 false true false false) := by
  refine law_lifted (C := Try.checked) own started (by kernel_rfl) Try.func11 laidOut rfl Try.underlying4 rfl (by kernel_rfl) (fun ds hd => ?_)
    (ChangeSpec.witness6 (enc := enc) (C := Try.checked) false ⟨#[], #[.slice none 0 0], []⟩ 8 (by kernel_rfl) (by kernel_rfl) (by kernel_rfl) (by kernel_rfl)) ?_
  · match ds, hd with
    | [d0], _ => exact ⟨rfl, rfl, rfl⟩
  intro W base args ds p hval hA
  rw [Try.params11] at hA hval
  obtain ⟨v0, vs0, d0, ds0, p0, q0, hargs, rfl, rfl, h0, r0⟩ := trodAll_cons hA
  obtain ⟨rfl, rfl, rfl⟩ := trodAll_nil r0
  obtain rfl : args = #[v0] := by cases args; simp_all
  obtain ⟨A, cp, l, rfl, hcp, hlx, hs⟩ := open_bsL (hval 0 22 v0 rfl rfl) h0
  exact law_lreads A cp l hcp hlx W hs
theorem ledgerReads_over : Rows.ledgerReadsRow.holds Try.pinned (OpenSpec.ofChange Rows.ledgerReadsSpec) :=
  OpenClaim.holds_of_wide 11 Try.f11 rfl rfl rfl rfl rfl rfl rfl ⟨rfl, rfl, rfl, rfl, rfl⟩ rfl rfl rfl rfl rfl (by kernel_rfl) Try.func11 (by kernel_rfl)
    (of_decide_eq_true (by kernel_rfl)) (by unfold Func.isWrapper; first | (rw [if_pos (by decide +kernel)]; kernel_rfl) | (rw [if_neg (by decide +kernel)]; exact ⟨rfl, rfl⟩))
    (fun os started H enc _ => ledgerReads_lifted os started H enc)
theorem ledgerReads_holds : Rows.LedgerReadsSaid := ledgerReads_over
#print axioms ledgerReads_holds
end Go.Proofs.Ytmokecicjmjkbaa
