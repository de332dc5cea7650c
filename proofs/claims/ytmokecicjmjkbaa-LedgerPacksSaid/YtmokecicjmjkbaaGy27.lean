/- Layer 18's law's act (choraguslaw18.do): both ledgers go on alike; the bounds stand in it. -/
import Derived.Test.YtmokecicjmjkbaaGy26
namespace Go.Proofs.Ytmokecicjmjkbaa
open Go.ChangeShapes Go.WideShapes Go.ChangeAt Go.RowKit Go.Maps Go.Deep
set_option linter.unusedVariables false
set_option linter.unusedSimpArgs false
set_option maxRecDepth 100000
set_option maxHeartbeats 8000000
theorem St.getCm {B : Nat} {w0 w : World} {L : List Res} {G : Nat → Prop} {vb va vl vd : Value} {c : Cm} (H : St B w0 w L) (h : cmr G vb va vl vd c ∈ L) : CmG G w vb va vl vd c := H.get h
theorem rcsame_z (w : World) : Calls Try.prog 26 #[.agg #[.int .i64 0, .int .u16 0, .int .u32 0, .int .u64 0, .int .u64 0, .slice none 0 0, .int .u64 0, .slice none 0 0, .slice none 0 0, .slice none 0 0], .agg #[.int .i64 0, .int .u16 0, .int .u32 0, .int .u64 0, .int .u64 0, .slice none 0 0, .int .u64 0, .slice none 0 0, .slice none 0 0, .slice none 0 0]] w (Ret fun v w' => v = .bool true ∧ Below w.heap.size w w') :=
  rcsame_is (G1 := fun _ => False) (G2 := fun _ => False) cm0 cm0 none none none none none none none none 0 0 0 0 0 0 0 0 w true (cSame_iff.2 rfl) (CmG.nil _ _ 0) (CmG.nil _ _ 0)
theorem LRel.at {B : Nat} {w0 : World} {G1 : Nat → Prop} {ap s : Nat} {ks qs : List (Cm × Hd)} (h : LRel B w0 G1 ap s ks qs) {q : Nat} (hq : q < ks.length) : ∃ (u : Cm) (h0 h1 : Hd), ks[q]? = some (u, h0) ∧ qs[q]? = some (u, h1) := by
  have hq2 : q < qs.length := by rw [h.qlen]; exact hq
  have e : (ks.map (·.1))[q]? = (qs.map (·.1))[q]? := by rw [h.same]
  rw [List.getElem?_map, List.getElem?_map, List.getElem?_eq_getElem hq, List.getElem?_eq_getElem hq2] at e
  simp only [Option.map_some, Option.some.injEq] at e
  refine ⟨ks[q].1, ks[q].2, qs[q].2, List.getElem?_eq_getElem hq, ?_⟩
  rw [List.getElem?_eq_getElem hq2, e]
theorem LRel.add {B : Nat} {w0 : World} {G1 : Nat → Prop} {ap s slot : Nat} {ks qs : List (Cm × Hd)} (h : LRel B w0 G1 ap s ks qs) {c : Cm} {h1 h2 : Hd} (hm : smC c) (hw : wfC c) (hE : addE ap ks.length slot c = 0)
    (hrd : Rd B w0 [] fun W => CmG G1 W (.slice h1.ba c.data.length h1.bc) (.slice h1.ma c.v.mem.length h1.mc) (.slice h1.la c.v.lvs.length h1.lc) (.slice h1.da c.v.ldr.length h1.dc) c) : LRel B w0 G1 slot s (ks ++ [(c, h2)]) (qs ++ [(c, h1)]) ∧ slot = ap + 1 ∧ slot ≤ 4611686018427387904 := by
  have hs := h.sum
  unfold addE at hE
  split at hE
  · cases hE
  · rename_i hc0
    have hc0 : cErr c = 0 := by simpa using hc0
    split at hE
    · cases hE
    · split at hE
      · cases hE
      · split at hE
        · cases hE
        · split at hE
          · cases hE
          · refine ⟨⟨by rw [List.map_append, List.map_append, h.same]; rfl, by rw [List.length_append]; show s + (ks.length + 1) = slot + 1; omega, by rw [List.length_append]; show ks.length + 1 ≤ 64; omega, ?_, ?_, ?_⟩, by omega, by omega⟩
            · intro p hp
              rcases List.mem_append.1 hp with hp | hp
              · exact h.sm p hp
              · rw [List.mem_singleton] at hp; subst hp; exact hm
            · intro p hp
              rcases List.mem_append.1 hp with hp | hp
              · exact h.ok p hp
              · rw [List.mem_singleton] at hp; subst hp; exact ⟨hc0, hw⟩
            · intro p hp
              rcases List.mem_append.1 hp with hp | hp
              · exact h.rd p hp
              · rw [List.mem_singleton] at hp; subst hp; exact hrd
theorem LRel.drop {B : Nat} {w0 : World} {G1 : Nat → Prop} {ap s q : Nat} {ks qs : List (Cm × Hd)} (h : LRel B w0 G1 ap s ks qs) (hq : q ≤ ks.length) : LRel B w0 G1 ap (s + q) (ks.drop q) (qs.drop q) :=
  ⟨by rw [List.map_drop, List.map_drop, h.same], by rw [List.length_drop]; have := h.sum; omega, by rw [List.length_drop]; have := h.len; omega, fun p hp => h.sm p (List.mem_of_mem_drop hp), fun p hp => h.ok p (List.mem_of_mem_drop hp), fun p hp => h.rd p (List.mem_of_mem_drop hp)⟩
attribute [local irreducible] cErr addE cutN plc
theorem do18_ok {B : Nat} {w0 : World} {L : List Res} {G1 : Nat → Prop} (g0 gx ap s sl : Nat) (ks qs : List (Cm × Hd)) (xa : Option Addr) (xc : Nat) (kind n0 : Int) (near : Bool) (c : Cm) (h : Hd) (hm : smC c) (hw : wfC c) (hrd : Rd B w0 [] fun W => CmG G1 W (.slice h.ba c.data.length h.bc) (.slice h.ma c.v.mem.length h.mc) (.slice h.la c.v.lvs.length h.lc) (.slice h.da c.v.ldr.length h.dc) c)
    (hsl : sl < 18446744073709551616) (hap : ap + 2 < 18446744073709551616) (hR : LRel B w0 G1 ap s ks qs) (w : World) (H0 : LRSt B w0 w g0 gx ap ks ap s qs xa xc L) :
    Calls Try.prog 29 #[.pointer (some ⟨g0, 0, none⟩), .pointer (some ⟨gx, 0, none⟩), .agg #[.int .i64 kind, .int .i64 n0, .int .u64 (sl : Int), .bool near, .int .i64 c.kind, .int .u16 (c.fr.1 : Int), .int .u32 (c.fr.2 : Int), .int .u64 (c.num : Int), .int .u64 (c.vw : Int), .slice h.ba c.data.length h.bc, .int .u64 (c.v.id : Int), .slice h.ma c.v.mem.length h.mc, .slice h.la c.v.lvs.length h.lc, .slice h.da c.v.ldr.length h.dc]] w (Ret fun v w' => v = .bool true ∧ ∃ (ap' s' : Nat) (ks' qs' : List (Cm × Hd)) (xa' : Option Addr) (xc' : Nat), LRel B w0 G1 ap' s' ks' qs' ∧ ap ≤ ap' ∧ (ap' = ap ∨ ap' ≤ 4611686018427387904) ∧ s ≤ s' ∧ LRSt B w0 w' g0 gx ap' ks' ap' s' qs' xa' xc' L) := by
  obtain ⟨ka, kc, G, H⟩ := H0
  have HMc := Lib.hid hm
  have HWc := Lib.hid hw
  have HRL := Lib.hid hR
  have hap1 : ap < 18446744073709551616 := by omega
  have hap2 : ap + 1 < 18446744073709551616 := by omega
  obtain ⟨j, hj⟩ : ∃ j, (kind % ((6 : Nat) : Int)).toNat = j := ⟨_, rfl⟩
  have hj6 : j < 6 := by omega
  have HJ := Lib.hid hj
  clear hm hw hR hj
  go_enter Try.func29, Try.ntmps29
  go_upto_if 16 with (first | (with_reducible refine wpl rfl (dQ 5 rfl ?_); with_reducible refine (Stp.box 5 rfl rfl rfl H ?_); clear H; intro g5 w1 H; simp only [pS]; simp only [pE, nC, pS] at H) | (with_reducible refine wpl rfl (ldQ (ty := 26) rfl ?_); first | (with_reducible refine (Stp.ldo rfl agg26 rfl H (by assumption) (by assumption) ?_); simp only [pS]) | (with_reducible refine (Stp.ldc rfl agg26 rfl H mR cE ?_); simp only [pS])) | (with_reducible refine wpl rfl (ldQ (ty := 4) rfl ?_); first | (with_reducible refine (Stp.ldo rfl agg4 rfl H (by assumption) (by assumption) ?_); simp only [pS]) | (with_reducible refine (Stp.ldc rfl agg4 rfl H mR cE ?_); simp only [pS])) | (with_reducible refine wpl rfl (ldQ (ty := 3) rfl ?_); first | (with_reducible refine (Stp.ldo rfl agg3 rfl H (by assumption) (by assumption) ?_); simp only [pS]) | (with_reducible refine (Stp.ldc rfl agg3 rfl H mR cE ?_); simp only [pS])) | (with_reducible refine wpl rfl (dQ 8 rfl ?_); with_reducible refine (Stp.alloc 8 rfl rfl zero36 H ?_); clear H; intro g8 w1 H; simp only [pS]; simp only [nC] at H) | (with_reducible refine wpl rfl (stQ (ty := 36) rfl ?_); first | (with_reducible refine (Stp.str rfl size36 rfl rfl (by first | rfl | (simp [Value.oneCell']; done) | assumption) H uP sZ sZ ?_); clear H; intro w1 H; simp only [pS]) | (with_reducible refine (Stp.stl rfl size36 rfl rfl rfl rfl H uP (by simp) ?_); clear H; intro w1 H; simp only [pS]; simp only [List.drop_succ_cons, List.drop_zero, List.take_succ_cons, List.take_zero, List.nil_append, List.cons_append, Nat.reduceAdd] at H)) | (with_reducible refine wpl rfl (dQ 10 rfl ?_); with_reducible refine (Stp.alloc 10 rfl rfl zero36 H ?_); clear H; intro g10 w1 H; simp only [pS]; simp only [nC] at H) | (with_reducible refine wpl rfl (ldQ (ty := 36) rfl ?_); first | (with_reducible refine (Stp.ldor rfl agg36 size36 rfl H (by assumption) sZ (by assumption) ?_); simp only [pS]) | (with_reducible refine (Stp.ldr rfl agg36 size36 rfl H mR sZ ?_); simp only [pS]) | (with_reducible refine (Stp.ldl rfl agg36 size36 rfl H mR (by simp) ?_); simp only [pS]; simp only [List.drop_succ_cons, List.drop_zero, List.take_succ_cons, List.take_zero])))
  go_cut [7] from 13 (fun s7 w' => ∃ slot : Nat, s7 = .int .u64 (slot : Int) ∧ slot < 18446744073709551616 ∧ St B w0 w' (row 68 g5 #[.int .i64 kind, .int .i64 n0, .int .u64 (sl : Int), .bool near, .int .i64 c.kind, .int .u16 (c.fr.1 : Int), .int .u32 (c.fr.2 : Int), .int .u64 (c.num : Int), .int .u64 (c.vw : Int), .slice h.ba c.data.length h.bc, .int .u64 (c.v.id : Int), .slice h.ma c.v.mem.length h.mc, .slice h.la c.v.lvs.length h.lc, .slice h.da c.v.ldr.length h.dc] :: row 97 g0 #[.int .u64 (ap : Int), .slice ka ks.length kc] :: slo 36 10 (.slice ka ks.length kc) ks.length (kv ks) :: cmsr G ks :: row 65 gx #[.int .u64 (ap : Int), .slice xa qs.length xc] :: slo 116 11 (.slice xa qs.length xc) qs.length (ov s qs) :: L))
  case first =>
    cases near
    · go_wp2_with fail
      go_meet
      exact ⟨sl, rfl, hsl, H⟩
    · obtain ⟨r, hr0⟩ : ∃ r : Nat, (sl : Int).tmod 100 = (r : Int) := ⟨sl % 100, by rw [Int.tmod_eq_emod_of_nonneg (by omega)]; omega⟩
      have HR0 := Lib.hid hr0
      obtain ⟨a1, ha1⟩ : ∃ a1 : Nat, IntKind.u64.wrap ((ap : Int) + (r : Int)) = (a1 : Int) := ⟨(((ap : Int) + (r : Int)) % 18446744073709551616).toNat, by rw [IntKind.wrap_u64]; omega⟩
      have HA1 := Lib.hid ha1
      obtain ⟨a2, ha2, hlt2⟩ : ∃ a2 : Nat, IntKind.u64.wrap ((a1 : Int) - 70) = (a2 : Int) ∧ a2 < 18446744073709551616 := ⟨(((a1 : Int) - 70) % 18446744073709551616).toNat, by rw [IntKind.wrap_u64]; omega, by omega⟩
      have HA2 := Lib.hid ha2
      clear hr0 ha1 ha2
      go_wp2_with fail
      refine rg_begin 10 rfl (S := fun W => St _ _ W (row 68 g5 #[.int .i64 kind, .int .i64 n0, .int .u64 (sl : Int), .bool true, .int .i64 c.kind, .int .u16 (c.fr.1 : Int), .int .u32 (c.fr.2 : Int), .int .u64 (c.num : Int), .int .u64 (c.vw : Int), .slice h.ba c.data.length h.bc, .int .u64 (c.v.id : Int), .slice h.ma c.v.mem.length h.mc, .slice h.la c.v.lvs.length h.lc, .slice h.da c.v.ldr.length h.dc] :: row 97 g0 #[.int .u64 (ap : Int), .slice ka ks.length kc] :: slo 36 10 (.slice ka ks.length kc) ks.length (kv ks) :: cmsr G ks :: row 65 gx #[.int .u64 (ap : Int), .slice xa qs.length xc] :: slo 116 11 (.slice xa qs.length xc) qs.length (ov s qs) :: L)) (by kernel_rfl) (H.drew.sub sU) ?_
      replace H := H.drew
      have HS := H
      refine rg_take (i := 0) rfl kR kR kR (Yld.move rfl rfl) (H.sub sU) ?_; simp only [pS, pE]
      refine rg_take (i := 1) rfl kR kR kR (Yld.o rfl) (H.sub sU) ?_; simp only [pS]
      refine rg_take (i := 2) rfl kR kR kR (Yld.o rfl) (H.sub sU) ?_; simp only [pS]
      first | (refine rg_take (i := 3) rfl kR kR kR (Yld.ldo rfl rfl agg26 rfl (by assumption) (by assumption)) (H.sub sU) ?_; simp only [pS]) | (refine rg_take (i := 3) rfl kR kR kR (Yld.ldc rfl rfl agg26 rfl mR cE) (H.sub sU) ?_; simp only [pS])
      refine rg_take (i := 4) rfl kR kR kR (Yld.o rfl) (H.sub sU) ?_; simp only [pS]
      first | (refine rg_take (i := 5) rfl kR kR kR (Yld.ldo rfl rfl agg26 rfl (by assumption) (by assumption)) (H.sub sU) ?_; simp only [pS]) | (refine rg_take (i := 5) rfl kR kR kR (Yld.ldc rfl rfl agg26 rfl mR cE) (H.sub sU) ?_; simp only [pS])
      refine rg_take (i := 6) rfl kR kR kR (Yld.of (v := .int .u64 (r : Int)) rfl (fun W _ => by go_simp; first | done | (rw [HR0.out]))) (H.sub sU) ?_; simp only [pS, pE]
      refine rg_take (i := 7) rfl kR kR kR (Yld.of (v := .int .u64 (a1 : Int)) rfl (fun W _ => by go_simp; first | done | (rw [HA1.out]))) (H.sub sU) ?_; simp only [pS, pE]
      refine rg_take (i := 8) rfl kR kR kR (Yld.of (v := .int .u64 (a2 : Int)) rfl (fun W _ => by go_simp; first | done | (rw [HA2.out]))) (H.sub sU) ?_; simp only [pS, pE]
      refine rg_take (i := 9) rfl kR kR kR (Yld.assign rfl rfl) (H.sub sU) ?_; simp only [pS, pE]
      refine rg_done (by kernel_rfl) ?_
      go_wp2_with fail
      go_meet
      exact ⟨a2, rfl, hlt2, H⟩
  case rest =>
  obtain ⟨slot, rfl, hslt, H2⟩ := hcut
  clear H
  have H := H2
  clear H2
  have HQL : Hid (qs.length ≤ 64) := Lib.hid (by rw [HRL.out.qlen]; exact HRL.out.len)
  have HQS : Hid (s + qs.length = ap + 1) := Lib.hid (by rw [HRL.out.qlen]; exact HRL.out.sum)
  by_cases hj3 : j = 3
  · subst hj3
    obtain ⟨e, he⟩ : ∃ e, addE ap ks.length slot c = e := ⟨_, rfl⟩
    have HEQ0 : Hid (addE ap qs.length slot c = e) := Lib.hid (by rw [HRL.out.qlen]; exact he)
    by_cases h0 : e = 0
    · subst h0
      have HEY := Lib.hid he
      have HEQ := HEQ0
      clear he
      go_wp2_with (first | (go_at_call 58; (with_reducible refine (pick_mod _ _ 6 (by omega) (by omega) (by omega) _).mono ?_); rintro e w1 ⟨v, rfl, hr⟩; obtain ⟨rfl, hb1⟩ := hr; replace H := H.grow hb1; clear hb1; rw [HJ.out]) | (with_reducible refine wpl rfl (ldQ (ty := 3) rfl ?_); first | (with_reducible refine (Stp.ldo rfl agg3 rfl H (by assumption) (by assumption) ?_); simp only [pS]) | (with_reducible refine (Stp.ldc rfl agg3 rfl H mR cE ?_); simp only [pS])))
      refine rg_begin 12 rfl (S := fun W => St _ _ W (row 68 g5 #[.int .i64 kind, .int .i64 n0, .int .u64 (sl : Int), .bool near, .int .i64 c.kind, .int .u16 (c.fr.1 : Int), .int .u32 (c.fr.2 : Int), .int .u64 (c.num : Int), .int .u64 (c.vw : Int), .slice h.ba c.data.length h.bc, .int .u64 (c.v.id : Int), .slice h.ma c.v.mem.length h.mc, .slice h.la c.v.lvs.length h.lc, .slice h.da c.v.ldr.length h.dc] :: [])) (by kernel_rfl) (H.drew.sub sU) ?_
      replace H := H.drew
      have HS := H
      refine rg_take (i := 0) rfl kR kR kR (Yld.move rfl rfl) (H.sub sU) ?_; simp only [pS, pE]
      refine rg_take (i := 1) rfl kR kR kR (Yld.move rfl rfl) (H.sub sU) ?_; simp only [pS, pE]
      refine rg_take (i := 2) rfl kR kR kR (Yld.o rfl) (H.sub sU) ?_; simp only [pS]
      first | (refine rg_take (i := 3) rfl kR kR kR (Yld.ldor rfl rfl agg36 size36 rfl (by assumption) sZ (by assumption)) (H.sub sU) ?_; simp only [pS]) | (refine rg_take (i := 3) rfl kR kR kR (Yld.ldr rfl rfl agg36 size36 rfl mR sZ) (H.sub sU) ?_; simp only [pS]) | (refine rg_take (i := 3) rfl kR kR kR (Yld.ldl rfl rfl agg36 size36 rfl mR (by simp)) (H.sub sU) ?_; simp only [pS]; simp only [List.drop_succ_cons, List.drop_zero, List.take_succ_cons, List.take_zero])
      refine rg_take (i := 5) rfl kR kR kR (Yld.move rfl rfl) (H.sub sU) ?_; simp only [pS, pE]
      refine rg_take (i := 6) rfl kR kR kR (Yld.move rfl rfl) (H.sub sU) ?_; simp only [pS, pE]
      refine rg_take (i := 7) rfl kR kR kR (Yld.o rfl) (H.sub sU) ?_; simp only [pS]
      first | (refine rg_take (i := 8) rfl kR kR kR (Yld.ldor rfl rfl agg36 size36 rfl (by assumption) sZ (by assumption)) (H.sub sU) ?_; simp only [pS]) | (refine rg_take (i := 8) rfl kR kR kR (Yld.ldr rfl rfl agg36 size36 rfl mR sZ) (H.sub sU) ?_; simp only [pS]) | (refine rg_take (i := 8) rfl kR kR kR (Yld.ldl rfl rfl agg36 size36 rfl mR (by simp)) (H.sub sU) ?_; simp only [pS]; simp only [List.drop_succ_cons, List.drop_zero, List.take_succ_cons, List.take_zero])
      refine rg_one (i := 4) (by kernel_rfl) rfl rfl (fun K hK => ?_)
      refine wp_callf rfl ent15 (pAdd_yes g0 gx ap ap s slot ks qs xa xc c h HMc.out HWc.out hrd (HRL.out.len) hap1 hslt HEY.out _ (LRSt.of (((((H.pull (r := slo 116 11 _ _ _) pU).pull (r := row 65 gx _) pU).pull (r := cmsr G _) pU).pull (r := slo 36 10 _ _ _) pU).pull (r := row 97 g0 _) pU))) rfl (fun v w1 hr => ?_)
      obtain ⟨rfl, h2, ka, kc, G, H2⟩ := hr
      clear H
      have H := H2
      clear H2
      clear HS
      have HS := H
      refine hK.out _ _ (H.sub sU) ?_
      clear hK K
      simp only [pS]
      refine rg_one (i := 9) (by kernel_rfl) rfl rfl (fun K hK => ?_)
      refine wp_callf rfl ent59 (xAdd_yes g0 gx slot ap s slot (ks ++ [(c, h2)]) qs xa xc c h HMc.out HWc.out hrd HQL.out HQS.out hap1 hslt HEQ.out _ (LRSt.of (((((H.pull (r := slo 116 11 _ _ _) pU).pull (r := row 65 gx _) pU).pull (r := cmsr G _) pU).pull (r := slo 36 10 _ _ _) pU).pull (r := row 97 g0 _) pU))) rfl (fun v w1 hr => ?_)
      obtain ⟨rfl, xa, xc, ka, kc, G, H2⟩ := hr
      clear H
      have H := H2
      clear H2
      clear HS
      have HS := H
      refine hK.out _ _ (H.sub sU) ?_
      clear hK K
      simp only [pS]
      refine rg_take (i := 10) rfl kR kR kR (Yld.o rfl) (H.sub sU) ?_; simp only [pS]
      refine rg_take (i := 11) rfl kR kR kR (Yld.assign rfl rfl) (H.sub sU) ?_; simp only [pS, pE]
      refine rg_done (by kernel_rfl) ?_
      go_wp2_with fail
      go_ret
      obtain ⟨r1, r2, r3⟩ := HRL.out.add (h2 := h2) HMc.out HWc.out HEY.out hrd
      first | exact ⟨_, rfl, rfl, slot, s, (ks ++ [(c, h2)]), (qs ++ [(c, h)]), _, _, r1, (by omega), (.inr r3), (Nat.le_refl _), ka, kc, G, (((((H.pull (r := slo 116 11 _ _ _) pU).pull (r := row 65 gx _) pU).pull (r := cmsr G _) pU).pull (r := slo 36 10 _ _ _) pU).pull (r := row 97 g0 _) pU).sub sU⟩ | exact ⟨_, rfl, rfl, slot, s, (ks ++ [(c, h2)]), (qs ++ [(c, h)]), r1, (by omega), (.inr r3), (Nat.le_refl _), _, _, ka, kc, G, (((((H.pull (r := slo 116 11 _ _ _) pU).pull (r := row 65 gx _) pU).pull (r := cmsr G _) pU).pull (r := slo 36 10 _ _ _) pU).pull (r := row 97 g0 _) pU).sub sU⟩
    · have HEY := Lib.hid he
      have HEQ := HEQ0
      have HE0 := Lib.hid h0
      have hee : (e == e) = true := by simp
      clear he h0
      go_wp2_with (first | (go_at_call 58; (with_reducible refine (pick_mod _ _ 6 (by omega) (by omega) (by omega) _).mono ?_); rintro e w1 ⟨v, rfl, hr⟩; obtain ⟨rfl, hb1⟩ := hr; replace H := H.grow hb1; clear hb1; rw [HJ.out]) | (with_reducible refine wpl rfl (ldQ (ty := 3) rfl ?_); first | (with_reducible refine (Stp.ldo rfl agg3 rfl H (by assumption) (by assumption) ?_); simp only [pS]) | (with_reducible refine (Stp.ldc rfl agg3 rfl H mR cE ?_); simp only [pS])))
      refine rg_begin 12 rfl (S := fun W => St _ _ W (row 68 g5 #[.int .i64 kind, .int .i64 n0, .int .u64 (sl : Int), .bool near, .int .i64 c.kind, .int .u16 (c.fr.1 : Int), .int .u32 (c.fr.2 : Int), .int .u64 (c.num : Int), .int .u64 (c.vw : Int), .slice h.ba c.data.length h.bc, .int .u64 (c.v.id : Int), .slice h.ma c.v.mem.length h.mc, .slice h.la c.v.lvs.length h.lc, .slice h.da c.v.ldr.length h.dc] :: [])) (by kernel_rfl) (H.drew.sub sU) ?_
      replace H := H.drew
      have HS := H
      refine rg_take (i := 0) rfl kR kR kR (Yld.move rfl rfl) (H.sub sU) ?_; simp only [pS, pE]
      refine rg_take (i := 1) rfl kR kR kR (Yld.move rfl rfl) (H.sub sU) ?_; simp only [pS, pE]
      refine rg_take (i := 2) rfl kR kR kR (Yld.o rfl) (H.sub sU) ?_; simp only [pS]
      first | (refine rg_take (i := 3) rfl kR kR kR (Yld.ldor rfl rfl agg36 size36 rfl (by assumption) sZ (by assumption)) (H.sub sU) ?_; simp only [pS]) | (refine rg_take (i := 3) rfl kR kR kR (Yld.ldr rfl rfl agg36 size36 rfl mR sZ) (H.sub sU) ?_; simp only [pS]) | (refine rg_take (i := 3) rfl kR kR kR (Yld.ldl rfl rfl agg36 size36 rfl mR (by simp)) (H.sub sU) ?_; simp only [pS]; simp only [List.drop_succ_cons, List.drop_zero, List.take_succ_cons, List.take_zero])
      refine rg_take (i := 5) rfl kR kR kR (Yld.move rfl rfl) (H.sub sU) ?_; simp only [pS, pE]
      refine rg_take (i := 6) rfl kR kR kR (Yld.move rfl rfl) (H.sub sU) ?_; simp only [pS, pE]
      refine rg_take (i := 7) rfl kR kR kR (Yld.o rfl) (H.sub sU) ?_; simp only [pS]
      first | (refine rg_take (i := 8) rfl kR kR kR (Yld.ldor rfl rfl agg36 size36 rfl (by assumption) sZ (by assumption)) (H.sub sU) ?_; simp only [pS]) | (refine rg_take (i := 8) rfl kR kR kR (Yld.ldr rfl rfl agg36 size36 rfl mR sZ) (H.sub sU) ?_; simp only [pS]) | (refine rg_take (i := 8) rfl kR kR kR (Yld.ldl rfl rfl agg36 size36 rfl mR (by simp)) (H.sub sU) ?_; simp only [pS]; simp only [List.drop_succ_cons, List.drop_zero, List.take_succ_cons, List.take_zero])
      refine rg_one (i := 4) (by kernel_rfl) rfl rfl (fun K hK => ?_)
      refine wp_callf rfl ent15 (pAdd_no g0 gx ap ap s slot ks qs xa xc c h HMc.out HWc.out hrd (HRL.out.len) hap1 hslt e HEY.out HE0.out _ (LRSt.of (((((H.pull (r := slo 116 11 _ _ _) pU).pull (r := row 65 gx _) pU).pull (r := cmsr G _) pU).pull (r := slo 36 10 _ _ _) pU).pull (r := row 97 g0 _) pU))) rfl (fun v w1 hr => ?_)
      obtain ⟨rfl, ka, kc, G, H2⟩ := hr
      clear H
      have H := H2
      clear H2
      clear HS
      have HS := H
      refine hK.out _ _ (H.sub sU) ?_
      clear hK K
      simp only [pS]
      refine rg_one (i := 9) (by kernel_rfl) rfl rfl (fun K hK => ?_)
      refine wp_callf rfl ent59 (xAdd_no g0 gx ap ap s slot ks qs xa xc c h HMc.out HWc.out hrd HQL.out HQS.out hap1 hslt e HEQ.out HE0.out _ (LRSt.of (((((H.pull (r := slo 116 11 _ _ _) pU).pull (r := row 65 gx _) pU).pull (r := cmsr G _) pU).pull (r := slo 36 10 _ _ _) pU).pull (r := row 97 g0 _) pU))) rfl (fun v w1 hr => ?_)
      obtain ⟨rfl, xa, xc, ka, kc, G, H2⟩ := hr
      clear H
      have H := H2
      clear H2
      clear HS
      have HS := H
      refine hK.out _ _ (H.sub sU) ?_
      clear hK K
      simp only [pS]
      refine rg_take (i := 10) rfl kR kR kR (Yld.o rfl) (H.sub sU) ?_; simp only [pS]
      refine rg_take (i := 11) rfl kR kR kR (Yld.assign rfl rfl) (H.sub sU) ?_; simp only [pS, pE]
      refine rg_done (by kernel_rfl) ?_
      go_wp2_with fail
      go_ret
      first | exact ⟨_, rfl, rfl, ap, s, ks, qs, _, _, HRL.out, Nat.le_refl _, .inl rfl, Nat.le_refl _, ka, kc, G, (((((H.pull (r := slo 116 11 _ _ _) pU).pull (r := row 65 gx _) pU).pull (r := cmsr G _) pU).pull (r := slo 36 10 _ _ _) pU).pull (r := row 97 g0 _) pU).sub sU⟩ | exact ⟨_, rfl, rfl, ap, s, ks, qs, HRL.out, Nat.le_refl _, .inl rfl, Nat.le_refl _, _, _, ka, kc, G, (((((H.pull (r := slo 116 11 _ _ _) pU).pull (r := row 65 gx _) pU).pull (r := cmsr G _) pU).pull (r := slo 36 10 _ _ _) pU).pull (r := row 97 g0 _) pU).sub sU⟩
  by_cases hj4 : j = 4
  · subst hj4
    obtain ⟨q, hq⟩ : ∃ q, cutN ap ks.length slot = q := ⟨_, rfl⟩
    have HCP := Lib.hid hq
    have HCQ : Hid (cutN ap qs.length slot = q) := Lib.hid (by rw [HRL.out.qlen]; exact hq)
    have HQN : Hid (q ≤ ks.length) := Lib.hid (by rw [← hq, cut_is HRL.out.sum]; exact Nat.min_le_left _ _)
    have HKA : Hid (ks.length ≤ ap + 1) := Lib.hid (by have := HRL.out.sum; omega)
    have hee : ((q : Int) == (q : Int)) = true := by simp
    clear hq
    go_wp2_with (first | (go_at_call 58; (with_reducible refine (pick_mod _ _ 6 (by omega) (by omega) (by omega) _).mono ?_); rintro e w1 ⟨v, rfl, hr⟩; obtain ⟨rfl, hb1⟩ := hr; replace H := H.grow hb1; clear hb1; rw [HJ.out]) | (go_at_call 35; (with_reducible refine (pCut_ok g0 gx ap ap s slot q ks qs xa xc (HRL.out.len) hap2 HKA.out hslt HCP.out _ (LRSt.of (((((H.pull (r := slo 116 11 _ _ _) pU).pull (r := row 65 gx _) pU).pull (r := cmsr G _) pU).pull (r := slo 36 10 _ _ _) pU).pull (r := row 97 g0 _) pU))).mono ?_); rintro e w1 ⟨v, rfl, hr⟩; obtain ⟨rfl, ka, kc, G, H2⟩ := hr; clear H; have H := H2; clear H2) | (go_at_call 60; (with_reducible refine (xCut_ok g0 gx ap ap s slot q (ks.drop q) qs xa xc HQL.out HQS.out HCQ.out _ (LRSt.of (((((H.pull (r := slo 116 11 _ _ _) pU).pull (r := row 65 gx _) pU).pull (r := cmsr G _) pU).pull (r := slo 36 10 _ _ _) pU).pull (r := row 97 g0 _) pU))).mono ?_); rintro e w1 ⟨v, rfl, hr⟩; obtain ⟨rfl, xa, xc, ka, kc, G, H2⟩ := hr; clear H; have H := H2; clear H2) | (with_reducible refine wpl rfl (ldQ (ty := 3) rfl ?_); first | (with_reducible refine (Stp.ldo rfl agg3 rfl H (by assumption) (by assumption) ?_); simp only [pS]) | (with_reducible refine (Stp.ldc rfl agg3 rfl H mR cE ?_); simp only [pS])))
    go_ret
    first | exact ⟨_, rfl, rfl, ap, (s + q), (ks.drop q), (qs.drop q), _, _, (HRL.out.drop HQN.out), (Nat.le_refl _), (.inl rfl), (Nat.le_add_right _ _), ka, kc, G, (((((H.pull (r := slo 116 11 _ _ _) pU).pull (r := row 65 gx _) pU).pull (r := cmsr G _) pU).pull (r := slo 36 10 _ _ _) pU).pull (r := row 97 g0 _) pU).sub sU⟩ | exact ⟨_, rfl, rfl, ap, (s + q), (ks.drop q), (qs.drop q), (HRL.out.drop HQN.out), (Nat.le_refl _), (.inl rfl), (Nat.le_add_right _ _), _, _, ka, kc, G, (((((H.pull (r := slo 116 11 _ _ _) pU).pull (r := row 65 gx _) pU).pull (r := cmsr G _) pU).pull (r := slo 36 10 _ _ _) pU).pull (r := row 97 g0 _) pU).sub sU⟩
  by_cases hj5 : j = 5
  · subst hj5
    cases hp : plc ap ks.length slot with
    | none =>
      have HPN := Lib.hid hp
      have HQN : Hid (plc ap qs.length slot = none) := Lib.hid (by rw [HRL.out.qlen]; exact hp)
      clear hp
      go_wp2_with (first | (go_at_call 58; (with_reducible refine (pick_mod _ _ 6 (by omega) (by omega) (by omega) _).mono ?_); rintro e w1 ⟨v, rfl, hr⟩; obtain ⟨rfl, hb1⟩ := hr; replace H := H.grow hb1; clear hb1; rw [HJ.out]) | (go_at_call 16; (with_reducible refine (pGet_no g0 gx ap ap s slot ks qs xa xc (HRL.out.len) hap1 hslt (HRL.out.sm) HPN.out _ (LRSt.of (((((H.pull (r := slo 116 11 _ _ _) pU).pull (r := row 65 gx _) pU).pull (r := cmsr G _) pU).pull (r := slo 36 10 _ _ _) pU).pull (r := row 97 g0 _) pU))).mono ?_); rintro e w1 ⟨v, rfl, hr⟩; obtain ⟨rfl, ka, kc, G, H2⟩ := hr; clear H; have H := H2; clear H2) | (go_at_call 61; (with_reducible refine (xGet_no g0 gx ap ap s slot ks qs xa xc HQL.out HQS.out HQN.out _ (LRSt.of (((((H.pull (r := slo 116 11 _ _ _) pU).pull (r := row 65 gx _) pU).pull (r := cmsr G _) pU).pull (r := slo 36 10 _ _ _) pU).pull (r := row 97 g0 _) pU))).mono ?_); rintro e w1 ⟨v, rfl, hr⟩; obtain ⟨rfl, xa, xc, ka, kc, G, H2⟩ := hr; clear H; have H := H2; clear H2) | (go_at_call 26; (with_reducible refine (rcsame_z _).mono ?_); rintro e w1 ⟨v, rfl, hr⟩; obtain ⟨rfl, hb1⟩ := hr; replace H := H.grow hb1; clear hb1) | (with_reducible refine wpl rfl (ldQ (ty := 3) rfl ?_); first | (with_reducible refine (Stp.ldo rfl agg3 rfl H (by assumption) (by assumption) ?_); simp only [pS]) | (with_reducible refine (Stp.ldc rfl agg3 rfl H mR cE ?_); simp only [pS])) | (with_reducible refine wpl rfl (dQ 8 rfl ?_); with_reducible refine (Stp.alloc 8 rfl rfl zero36 H ?_); clear H; intro g8 w1 H; simp only [pS]; simp only [nC] at H) | (with_reducible refine wpl rfl (stQ (ty := 36) rfl ?_); first | (with_reducible refine (Stp.str rfl size36 rfl rfl (by first | rfl | (simp [Value.oneCell']; done) | assumption) H uP sZ sZ ?_); clear H; intro w1 H; simp only [pS]) | (with_reducible refine (Stp.stl rfl size36 rfl rfl rfl rfl H uP (by simp) ?_); clear H; intro w1 H; simp only [pS]; simp only [List.drop_succ_cons, List.drop_zero, List.take_succ_cons, List.take_zero, List.nil_append, List.cons_append, Nat.reduceAdd] at H)) | (with_reducible refine wpl rfl (dQ 10 rfl ?_); with_reducible refine (Stp.alloc 10 rfl rfl zero36 H ?_); clear H; intro g10 w1 H; simp only [pS]; simp only [nC] at H) | (with_reducible refine wpl rfl (ldQ (ty := 36) rfl ?_); first | (with_reducible refine (Stp.ldor rfl agg36 size36 rfl H (by assumption) sZ (by assumption) ?_); simp only [pS]) | (with_reducible refine (Stp.ldr rfl agg36 size36 rfl H mR sZ ?_); simp only [pS]) | (with_reducible refine (Stp.ldl rfl agg36 size36 rfl H mR (by simp) ?_); simp only [pS]; simp only [List.drop_succ_cons, List.drop_zero, List.take_succ_cons, List.take_zero])))
      go_ret
      first | exact ⟨_, rfl, rfl, ap, s, ks, qs, _, _, HRL.out, Nat.le_refl _, .inl rfl, Nat.le_refl _, ka, kc, G, (((((H.pull (r := slo 116 11 _ _ _) pU).pull (r := row 65 gx _) pU).pull (r := cmsr G _) pU).pull (r := slo 36 10 _ _ _) pU).pull (r := row 97 g0 _) pU).sub sU⟩ | exact ⟨_, rfl, rfl, ap, s, ks, qs, HRL.out, Nat.le_refl _, .inl rfl, Nat.le_refl _, _, _, ka, kc, G, (((((H.pull (r := slo 116 11 _ _ _) pU).pull (r := row 65 gx _) pU).pull (r := cmsr G _) pU).pull (r := slo 36 10 _ _ _) pU).pull (r := row 97 g0 _) pU).sub sU⟩
    | some q =>
      have HPN := Lib.hid hp
      have HQN : Hid (plc ap qs.length slot = some q) := Lib.hid (by rw [HRL.out.qlen]; exact hp)
      obtain ⟨u, h0, h1, hak, haq⟩ := HRL.out.at (plc_lt hp)
      have HAK := Lib.hid hak
      have HAQ := Lib.hid haq
      have HUU : Hid (cSame u u = true) := Lib.hid (cSame_iff.2 rfl)
      have HRQ := Lib.hid (HRL.out.rd _ (List.mem_of_getElem? haq))
      clear hp hak haq
      go_wp2_with (first | (go_at_call 58; (with_reducible refine (pick_mod _ _ 6 (by omega) (by omega) (by omega) _).mono ?_); rintro e w1 ⟨v, rfl, hr⟩; obtain ⟨rfl, hb1⟩ := hr; replace H := H.grow hb1; clear hb1; rw [HJ.out]) | (go_at_call 16; (with_reducible refine (pGet_yes g0 gx ap ap s slot ks qs xa xc q u h0 (HRL.out.len) hap1 hslt (HRL.out.sm) HPN.out HAK.out _ (LRSt.of (((((H.pull (r := slo 116 11 _ _ _) pU).pull (r := row 65 gx _) pU).pull (r := cmsr G _) pU).pull (r := slo 36 10 _ _ _) pU).pull (r := row 97 g0 _) pU))).mono ?_); rintro e w1 ⟨v, rfl, hr⟩; obtain ⟨h3, G3, rfl, ka, kc, G, H2⟩ := hr; clear H; have H := H2; clear H2; simp only [cmH, cmC]) | (go_at_call 61; (with_reducible refine (xGet_yes g0 gx ap ap s slot ks qs xa xc q u h1 HQL.out HQS.out HQN.out HAQ.out _ (LRSt.of (((((H.pull (r := slo 116 11 _ _ _) pU).pull (r := row 65 gx _) pU).pull (r := cmsr G _) pU).pull (r := slo 36 10 _ _ _) pU).pull (r := row 97 g0 _) pU))).mono ?_); rintro e w1 ⟨v, rfl, hr⟩; obtain ⟨rfl, xa, xc, ka, kc, G, H2⟩ := hr; clear H; have H := H2; clear H2; simp only [cmH, cmC]) | (go_at_call 26; (with_reducible refine (rcsame_is u u _ _ _ _ _ _ _ _ _ _ _ _ _ _ _ _ _ true HUU.out (H.getCm (G := G3) mE) (HRQ.out.at H (List.nil_sublist _))).mono ?_); rintro e w1 ⟨v, rfl, hr⟩; obtain ⟨rfl, hb1⟩ := hr; replace H := H.grow hb1; clear hb1) | (with_reducible refine wpl rfl (ldQ (ty := 3) rfl ?_); first | (with_reducible refine (Stp.ldo rfl agg3 rfl H (by assumption) (by assumption) ?_); simp only [pS]) | (with_reducible refine (Stp.ldc rfl agg3 rfl H mR cE ?_); simp only [pS])) | (with_reducible refine wpl rfl (dQ 8 rfl ?_); with_reducible refine (Stp.alloc 8 rfl rfl zero36 H ?_); clear H; intro g8 w1 H; simp only [pS]; simp only [nC] at H) | (with_reducible refine wpl rfl (stQ (ty := 36) rfl ?_); first | (with_reducible refine (Stp.str rfl size36 rfl rfl (by first | rfl | (simp [Value.oneCell']; done) | assumption) H uP sZ sZ ?_); clear H; intro w1 H; simp only [pS]) | (with_reducible refine (Stp.stl rfl size36 rfl rfl rfl rfl H uP (by simp) ?_); clear H; intro w1 H; simp only [pS]; simp only [List.drop_succ_cons, List.drop_zero, List.take_succ_cons, List.take_zero, List.nil_append, List.cons_append, Nat.reduceAdd] at H)) | (with_reducible refine wpl rfl (dQ 10 rfl ?_); with_reducible refine (Stp.alloc 10 rfl rfl zero36 H ?_); clear H; intro g10 w1 H; simp only [pS]; simp only [nC] at H) | (with_reducible refine wpl rfl (ldQ (ty := 36) rfl ?_); first | (with_reducible refine (Stp.ldor rfl agg36 size36 rfl H (by assumption) sZ (by assumption) ?_); simp only [pS]) | (with_reducible refine (Stp.ldr rfl agg36 size36 rfl H mR sZ ?_); simp only [pS]) | (with_reducible refine (Stp.ldl rfl agg36 size36 rfl H mR (by simp) ?_); simp only [pS]; simp only [List.drop_succ_cons, List.drop_zero, List.take_succ_cons, List.take_zero])))
      go_ret
      first | exact ⟨_, rfl, rfl, ap, s, ks, qs, _, _, HRL.out, Nat.le_refl _, .inl rfl, Nat.le_refl _, ka, kc, G, (((((H.pull (r := slo 116 11 _ _ _) pU).pull (r := row 65 gx _) pU).pull (r := cmsr G _) pU).pull (r := slo 36 10 _ _ _) pU).pull (r := row 97 g0 _) pU).sub sU⟩ | exact ⟨_, rfl, rfl, ap, s, ks, qs, HRL.out, Nat.le_refl _, .inl rfl, Nat.le_refl _, _, _, ka, kc, G, (((((H.pull (r := slo 116 11 _ _ _) pU).pull (r := row 65 gx _) pU).pull (r := cmsr G _) pU).pull (r := slo 36 10 _ _ _) pU).pull (r := row 97 g0 _) pU).sub sU⟩
  have z3 : ((j : Int) == 3) = false := beq_eq_false_iff_ne.2 (by omega)
  have z4 : ((j : Int) == 4) = false := beq_eq_false_iff_ne.2 (by omega)
  have z5 : ((j : Int) == 5) = false := beq_eq_false_iff_ne.2 (by omega)
  clear hj3 hj4 hj5 hj6
  · go_wp2_with (first | (go_at_call 58; (with_reducible refine (pick_mod _ _ 6 (by omega) (by omega) (by omega) _).mono ?_); rintro e w1 ⟨v, rfl, hr⟩; obtain ⟨rfl, hb1⟩ := hr; replace H := H.grow hb1; clear hb1; rw [HJ.out]) | (with_reducible refine wpl rfl (ldQ (ty := 3) rfl ?_); first | (with_reducible refine (Stp.ldo rfl agg3 rfl H (by assumption) (by assumption) ?_); simp only [pS]) | (with_reducible refine (Stp.ldc rfl agg3 rfl H mR cE ?_); simp only [pS])))
    go_loopw [12] (fun i wr => ∃ (m ap1 : Nat) (ks1 qs1 : List (Cm × Hd)) (xa : Option Addr) (xc : Nat) (ka : Option Addr) (kc : Nat) (G : Nat → Prop), m ≤ 70 ∧ i = .int .i64 (m : Int) ∧ Hid (LRel B w0 G1 ap1 s ks1 qs1) ∧ ap ≤ ap1 ∧ (ap1 = ap ∨ ap1 ≤ 4611686018427387904) ∧ St B w0 wr (row 97 g0 #[.int .u64 (ap1 : Int), .slice ka ks1.length kc] :: slo 36 10 (.slice ka ks1.length kc) ks1.length (kv ks1) :: cmsr G ks1 :: row 65 gx #[.int .u64 (ap1 : Int), .slice xa qs1.length xc] :: slo 116 11 (.slice xa qs1.length xc) qs1.length (ov s qs1) :: row 68 g5 #[.int .i64 kind, .int .i64 n0, .int .u64 (sl : Int), .bool near, .int .i64 c.kind, .int .u16 (c.fr.1 : Int), .int .u32 (c.fr.2 : Int), .int .u64 (c.num : Int), .int .u64 (c.vw : Int), .slice h.ba c.data.length h.bc, .int .u64 (c.v.id : Int), .slice h.ma c.v.mem.length h.mc, .slice h.la c.v.lvs.length h.lc, .slice h.da c.v.ldr.length h.dc] :: L)) (fun i _ => 70 - (intOf i).toNat)
    case atStart => exact ⟨0, ap, ks, qs, xa, xc, ka, kc, G, by omega, rfl, HRL, Nat.le_refl _, .inl rfl, (((((H.pull (r := slo 116 11 _ _ _) pU).pull (r := row 65 gx _) pU).pull (r := cmsr G _) pU).pull (r := slo 36 10 _ _ _) pU).pull (r := row 97 g0 _) pU)⟩
    case round =>
      clear H
      obtain ⟨m, ap1, ks1, qs1, xa, xc, ka, kc, G, hm70, rfl, HRL1, hle, hmx, H⟩ := hrel
      have HQL1 : Hid (qs1.length ≤ 64) := Lib.hid (by rw [HRL1.out.qlen]; exact HRL1.out.len)
      have HQS1 : Hid (s + qs1.length = ap1 + 1) := Lib.hid (by rw [HRL1.out.qlen]; exact HRL1.out.sum)
      obtain ⟨a1, ha1⟩ : ∃ a1, ap1 + 1 = a1 := ⟨_, rfl⟩
      have W1 : IntKind.u64.wrap ((ap1 : Int) + 1) = (a1 : Int) := by rw [IntKind.wrap_u64]; omega
      obtain ⟨e, he⟩ : ∃ e, addE ap1 ks1.length a1 c = e := ⟨_, rfl⟩
      have HEQ0 : Hid (addE ap1 qs1.length a1 c = e) := Lib.hid (by rw [HRL1.out.qlen]; exact he)
      by_cases hm1 : m < 1
      · have zi : (m : Int) < 1 := by omega
        by_cases h0 : e = 0
        · subst h0
          have HEY := Lib.hid he
          have HEQ := HEQ0
          clear he
          go_wp2_with fail
          refine rk_begin 17 19 (fun W => St B w0 W (row 65 gx #[.int .u64 (ap1 : Int), .slice xa qs1.length xc] :: row 68 g5 #[.int .i64 kind, .int .i64 n0, .int .u64 (sl : Int), .bool near, .int .i64 c.kind, .int .u16 (c.fr.1 : Int), .int .u32 (c.fr.2 : Int), .int .u64 (c.num : Int), .int .u64 (c.vw : Int), .slice h.ba c.data.length h.bc, .int .u64 (c.v.id : Int), .slice h.ma c.v.mem.length h.mc, .slice h.la c.v.lvs.length h.lc, .slice h.da c.v.ldr.length h.dc] :: [])) rfl (by kernel_rfl) ?_
          replace H := H.drew
          have HS := H
          refine rk_free (i := 0) rfl kR kR kR kR (Yld.move rfl rfl) (fun _ => (H.sub sU)) ?_; simp only [pS, pE]
          refine rk_free (i := 1) rfl kR kR kR kR (Yld.move rfl rfl) (fun _ => (H.sub sU)) ?_; simp only [pS, pE]
          refine rk_free (i := 2) rfl kR kR kR kR (Yld.o rfl) (fun _ => (H.sub sU)) ?_; simp only [pS]
          refine rk_free (i := 3) rfl kR kR kR kR (Yld.o rfl) (fun _ => (H.sub sU)) ?_; simp only [pS]
          first | (refine rk_via (i := 4) [5, 8, 17] rfl kR kR kR kR kR kR kR (Yld.ldc rfl rfl agg26 rfl mR cE) (H.sub sU) ?_; simp only [pS]) | (refine rk_via (i := 4) [5, 8, 17] rfl kR kR kR kR kR kR kR (Yld.ldo rfl rfl agg26 rfl (by assumption) (by assumption)) (H.sub sU) ?_; simp only [pS])
          refine rk_free (i := 5) rfl kR kR kR kR (Yld.o rfl) (fun _ => (H.sub sU)) ?_; simp only [pS]
          refine rk_free (i := 6) rfl kR kR kR kR (Yld.o rfl) (fun _ => (H.sub sU)) ?_; simp only [pS]
          first | (refine rk_via (i := 7) [8, 17] rfl kR kR kR kR kR kR kR (Yld.ldr rfl rfl agg36 size36 rfl mR sZ) (H.sub sU) ?_; simp only [pS]) | (refine rk_via (i := 7) [8, 17] rfl kR kR kR kR kR kR kR (Yld.ldl rfl rfl agg36 size36 rfl mR (by simp)) (H.sub sU) ?_; simp only [pS]; simp only [List.drop_succ_cons, List.drop_zero, List.take_succ_cons, List.take_zero]) | (refine rk_via (i := 7) [8, 17] rfl kR kR kR kR kR kR kR (Yld.ldor rfl rfl agg36 size36 rfl (by assumption) sZ (by assumption)) (H.sub sU) ?_; simp only [pS])
          refine rk_free (i := 9) rfl kR kR kR kR (Yld.move rfl rfl) (fun _ => (H.sub sU)) ?_; simp only [pS, pE]
          refine rk_free (i := 10) rfl kR kR kR kR (Yld.move rfl rfl) (fun _ => (H.sub sU)) ?_; simp only [pS, pE]
          refine rk_free (i := 11) rfl kR kR kR kR (Yld.o rfl) (fun _ => (H.sub sU)) ?_; simp only [pS]
          refine rk_free (i := 12) rfl kR kR kR kR (Yld.o rfl) (fun _ => (H.sub sU)) ?_; simp only [pS]
          first | (refine rk_via (i := 13) [14, 17] rfl kR kR kR kR kR kR kR (Yld.ldc rfl rfl agg26 rfl mR cE) (H.sub sU) ?_; simp only [pS]) | (refine rk_via (i := 13) [14, 17] rfl kR kR kR kR kR kR kR (Yld.ldo rfl rfl agg26 rfl (by assumption) (by assumption)) (H.sub sU) ?_; simp only [pS])
          refine rk_free (i := 14) rfl kR kR kR kR (Yld.o rfl) (fun _ => (H.sub sU)) ?_; simp only [pS]
          refine rk_free (i := 15) rfl kR kR kR kR (Yld.o rfl) (fun _ => (H.sub sU)) ?_; simp only [pS]
          first | (refine rk_take (i := 16) rfl kR kR kR kR kR kR (Yld.ldr rfl rfl agg36 size36 rfl mR sZ) (H.sub sU) ?_; simp only [pS]) | (refine rk_take (i := 16) rfl kR kR kR kR kR kR (Yld.ldl rfl rfl agg36 size36 rfl mR (by simp)) (H.sub sU) ?_; simp only [pS]; simp only [List.drop_succ_cons, List.drop_zero, List.take_succ_cons, List.take_zero]) | (refine rk_take (i := 16) rfl kR kR kR kR kR kR (Yld.ldor rfl rfl agg36 size36 rfl (by assumption) sZ (by assumption)) (H.sub sU) ?_; simp only [pS])
          refine rk_one (i := 8) (by kernel_rfl) rfl rfl (fun K hK => ?_)
          refine wp_callf rfl ent15 (pAdd_yes g0 gx ap1 ap1 s a1 ks1 qs1 xa xc c h HMc.out HWc.out hrd (HRL1.out.len) (by omega) (by omega) HEY.out _ (LRSt.of (((((H.pull (r := slo 116 11 _ _ _) pU).pull (r := row 65 gx _) pU).pull (r := cmsr G _) pU).pull (r := slo 36 10 _ _ _) pU).pull (r := row 97 g0 _) pU))) rfl (fun v w1 hr => ?_)
          obtain ⟨rfl, h2, ka, kc, G, H2⟩ := hr
          clear H
          have H := H2
          clear H2
          clear HS
          have HS := H
          refine hK.out _ _ (fun _ => (H.sub sU)) ?_
          clear hK K
          simp only [pS]
          refine rk_one (i := 17) (by kernel_rfl) rfl rfl (fun K hK => ?_)
          refine wp_callf rfl ent59 (xAdd_yes g0 gx a1 ap1 s a1 (ks1 ++ [(c, h2)]) qs1 xa xc c h HMc.out HWc.out hrd HQL1.out HQS1.out (by omega) (by omega) HEQ.out _ (LRSt.of (((((H.pull (r := slo 116 11 _ _ _) pU).pull (r := row 65 gx _) pU).pull (r := cmsr G _) pU).pull (r := slo 36 10 _ _ _) pU).pull (r := row 97 g0 _) pU))) rfl (fun v w1 hr => ?_)
          obtain ⟨rfl, xa, xc, ka, kc, G, H2⟩ := hr
          clear H
          have H := H2
          clear H2
          clear HS
          have HS := H
          refine hK.out _ _ (fun h => by cases (show true = false from h)) ?_
          clear hK K
          simp only [pS]
          refine rk_free (i := 18) rfl kR kR kR kR (Yld.o rfl) (fun h => by cases (show true = false from h)) ?_; simp only [pS]
          refine rk_done (by kernel_rfl) ?_
          go_wp2_with fail
          go_roundw
          case rel =>
            obtain ⟨r1, r2, r3⟩ := HRL1.out.add (h2 := h2) HMc.out HWc.out HEY.out hrd
            exact ⟨m + 1, a1, ks1 ++ [(c, h2)], qs1 ++ [(c, h)], xa, xc, ka, kc, G, by omega, by go_num, Lib.hid r1, by omega, .inr r3, H⟩
          case measure => simp [intOf]; omega
        · have HEY := Lib.hid he
          have HEQ := HEQ0
          have HE0 := Lib.hid h0
          have hee : (e == e) = true := by simp
          clear he h0
          go_wp2_with fail
          refine rk_begin 17 19 (fun W => St B w0 W (row 65 gx #[.int .u64 (ap1 : Int), .slice xa qs1.length xc] :: row 68 g5 #[.int .i64 kind, .int .i64 n0, .int .u64 (sl : Int), .bool near, .int .i64 c.kind, .int .u16 (c.fr.1 : Int), .int .u32 (c.fr.2 : Int), .int .u64 (c.num : Int), .int .u64 (c.vw : Int), .slice h.ba c.data.length h.bc, .int .u64 (c.v.id : Int), .slice h.ma c.v.mem.length h.mc, .slice h.la c.v.lvs.length h.lc, .slice h.da c.v.ldr.length h.dc] :: [])) rfl (by kernel_rfl) ?_
          replace H := H.drew
          have HS := H
          refine rk_free (i := 0) rfl kR kR kR kR (Yld.move rfl rfl) (fun _ => (H.sub sU)) ?_; simp only [pS, pE]
          refine rk_free (i := 1) rfl kR kR kR kR (Yld.move rfl rfl) (fun _ => (H.sub sU)) ?_; simp only [pS, pE]
          refine rk_free (i := 2) rfl kR kR kR kR (Yld.o rfl) (fun _ => (H.sub sU)) ?_; simp only [pS]
          refine rk_free (i := 3) rfl kR kR kR kR (Yld.o rfl) (fun _ => (H.sub sU)) ?_; simp only [pS]
          first | (refine rk_via (i := 4) [5, 8, 17] rfl kR kR kR kR kR kR kR (Yld.ldc rfl rfl agg26 rfl mR cE) (H.sub sU) ?_; simp only [pS]) | (refine rk_via (i := 4) [5, 8, 17] rfl kR kR kR kR kR kR kR (Yld.ldo rfl rfl agg26 rfl (by assumption) (by assumption)) (H.sub sU) ?_; simp only [pS])
          refine rk_free (i := 5) rfl kR kR kR kR (Yld.o rfl) (fun _ => (H.sub sU)) ?_; simp only [pS]
          refine rk_free (i := 6) rfl kR kR kR kR (Yld.o rfl) (fun _ => (H.sub sU)) ?_; simp only [pS]
          first | (refine rk_via (i := 7) [8, 17] rfl kR kR kR kR kR kR kR (Yld.ldr rfl rfl agg36 size36 rfl mR sZ) (H.sub sU) ?_; simp only [pS]) | (refine rk_via (i := 7) [8, 17] rfl kR kR kR kR kR kR kR (Yld.ldl rfl rfl agg36 size36 rfl mR (by simp)) (H.sub sU) ?_; simp only [pS]; simp only [List.drop_succ_cons, List.drop_zero, List.take_succ_cons, List.take_zero]) | (refine rk_via (i := 7) [8, 17] rfl kR kR kR kR kR kR kR (Yld.ldor rfl rfl agg36 size36 rfl (by assumption) sZ (by assumption)) (H.sub sU) ?_; simp only [pS])
          refine rk_free (i := 9) rfl kR kR kR kR (Yld.move rfl rfl) (fun _ => (H.sub sU)) ?_; simp only [pS, pE]
          refine rk_free (i := 10) rfl kR kR kR kR (Yld.move rfl rfl) (fun _ => (H.sub sU)) ?_; simp only [pS, pE]
          refine rk_free (i := 11) rfl kR kR kR kR (Yld.o rfl) (fun _ => (H.sub sU)) ?_; simp only [pS]
          refine rk_free (i := 12) rfl kR kR kR kR (Yld.o rfl) (fun _ => (H.sub sU)) ?_; simp only [pS]
          first | (refine rk_via (i := 13) [14, 17] rfl kR kR kR kR kR kR kR (Yld.ldc rfl rfl agg26 rfl mR cE) (H.sub sU) ?_; simp only [pS]) | (refine rk_via (i := 13) [14, 17] rfl kR kR kR kR kR kR kR (Yld.ldo rfl rfl agg26 rfl (by assumption) (by assumption)) (H.sub sU) ?_; simp only [pS])
          refine rk_free (i := 14) rfl kR kR kR kR (Yld.o rfl) (fun _ => (H.sub sU)) ?_; simp only [pS]
          refine rk_free (i := 15) rfl kR kR kR kR (Yld.o rfl) (fun _ => (H.sub sU)) ?_; simp only [pS]
          first | (refine rk_take (i := 16) rfl kR kR kR kR kR kR (Yld.ldr rfl rfl agg36 size36 rfl mR sZ) (H.sub sU) ?_; simp only [pS]) | (refine rk_take (i := 16) rfl kR kR kR kR kR kR (Yld.ldl rfl rfl agg36 size36 rfl mR (by simp)) (H.sub sU) ?_; simp only [pS]; simp only [List.drop_succ_cons, List.drop_zero, List.take_succ_cons, List.take_zero]) | (refine rk_take (i := 16) rfl kR kR kR kR kR kR (Yld.ldor rfl rfl agg36 size36 rfl (by assumption) sZ (by assumption)) (H.sub sU) ?_; simp only [pS])
          refine rk_one (i := 8) (by kernel_rfl) rfl rfl (fun K hK => ?_)
          refine wp_callf rfl ent15 (pAdd_no g0 gx ap1 ap1 s a1 ks1 qs1 xa xc c h HMc.out HWc.out hrd (HRL1.out.len) (by omega) (by omega) e HEY.out HE0.out _ (LRSt.of (((((H.pull (r := slo 116 11 _ _ _) pU).pull (r := row 65 gx _) pU).pull (r := cmsr G _) pU).pull (r := slo 36 10 _ _ _) pU).pull (r := row 97 g0 _) pU))) rfl (fun v w1 hr => ?_)
          obtain ⟨rfl, ka, kc, G, H2⟩ := hr
          clear H
          have H := H2
          clear H2
          clear HS
          have HS := H
          refine hK.out _ _ (fun _ => (H.sub sU)) ?_
          clear hK K
          simp only [pS]
          refine rk_one (i := 17) (by kernel_rfl) rfl rfl (fun K hK => ?_)
          refine wp_callf rfl ent59 (xAdd_no g0 gx ap1 ap1 s a1 ks1 qs1 xa xc c h HMc.out HWc.out hrd HQL1.out HQS1.out (by omega) (by omega) e HEQ.out HE0.out _ (LRSt.of (((((H.pull (r := slo 116 11 _ _ _) pU).pull (r := row 65 gx _) pU).pull (r := cmsr G _) pU).pull (r := slo 36 10 _ _ _) pU).pull (r := row 97 g0 _) pU))) rfl (fun v w1 hr => ?_)
          obtain ⟨rfl, xa, xc, ka, kc, G, H2⟩ := hr
          clear H
          have H := H2
          clear H2
          clear HS
          have HS := H
          refine hK.out _ _ (fun h => by cases (show true = false from h)) ?_
          clear hK K
          simp only [pS]
          refine rk_free (i := 18) rfl kR kR kR kR (Yld.o rfl) (fun h => by cases (show true = false from h)) ?_; simp only [pS]
          refine rk_done (by kernel_rfl) ?_
          go_wp2_with fail
          go_roundw
          case rel => exact ⟨m + 1, ap1, ks1, qs1, xa, xc, ka, kc, G, by omega, by go_num, HRL1, hle, hmx, H⟩
          case measure => simp [intOf]; omega
      · have zi : ¬ (m : Int) < 1 := by omega
        by_cases hn : (m : Int) < n0
        · by_cases hm7 : m < 70
          · have z7 : (m : Int) < 70 := by omega
            by_cases h0 : e = 0
            · subst h0
              have HEY := Lib.hid he
              have HEQ := HEQ0
              clear he
              go_wp2_with (first | (with_reducible refine wpl rfl (ldQ (ty := 3) rfl ?_); first | (with_reducible refine (Stp.ldo rfl agg3 rfl H (by assumption) (by assumption) ?_); simp only [pS]) | (with_reducible refine (Stp.ldc rfl agg3 rfl H mR cE ?_); simp only [pS])))
              refine rk_begin 17 19 (fun W => St B w0 W (row 65 gx #[.int .u64 (ap1 : Int), .slice xa qs1.length xc] :: row 68 g5 #[.int .i64 kind, .int .i64 n0, .int .u64 (sl : Int), .bool near, .int .i64 c.kind, .int .u16 (c.fr.1 : Int), .int .u32 (c.fr.2 : Int), .int .u64 (c.num : Int), .int .u64 (c.vw : Int), .slice h.ba c.data.length h.bc, .int .u64 (c.v.id : Int), .slice h.ma c.v.mem.length h.mc, .slice h.la c.v.lvs.length h.lc, .slice h.da c.v.ldr.length h.dc] :: [])) rfl (by kernel_rfl) ?_
              replace H := H.drew
              have HS := H
              refine rk_free (i := 0) rfl kR kR kR kR (Yld.move rfl rfl) (fun _ => (H.sub sU)) ?_; simp only [pS, pE]
              refine rk_free (i := 1) rfl kR kR kR kR (Yld.move rfl rfl) (fun _ => (H.sub sU)) ?_; simp only [pS, pE]
              refine rk_free (i := 2) rfl kR kR kR kR (Yld.o rfl) (fun _ => (H.sub sU)) ?_; simp only [pS]
              refine rk_free (i := 3) rfl kR kR kR kR (Yld.o rfl) (fun _ => (H.sub sU)) ?_; simp only [pS]
              first | (refine rk_via (i := 4) [5, 8, 17] rfl kR kR kR kR kR kR kR (Yld.ldc rfl rfl agg26 rfl mR cE) (H.sub sU) ?_; simp only [pS]) | (refine rk_via (i := 4) [5, 8, 17] rfl kR kR kR kR kR kR kR (Yld.ldo rfl rfl agg26 rfl (by assumption) (by assumption)) (H.sub sU) ?_; simp only [pS])
              refine rk_free (i := 5) rfl kR kR kR kR (Yld.o rfl) (fun _ => (H.sub sU)) ?_; simp only [pS]
              refine rk_free (i := 6) rfl kR kR kR kR (Yld.o rfl) (fun _ => (H.sub sU)) ?_; simp only [pS]
              first | (refine rk_via (i := 7) [8, 17] rfl kR kR kR kR kR kR kR (Yld.ldr rfl rfl agg36 size36 rfl mR sZ) (H.sub sU) ?_; simp only [pS]) | (refine rk_via (i := 7) [8, 17] rfl kR kR kR kR kR kR kR (Yld.ldl rfl rfl agg36 size36 rfl mR (by simp)) (H.sub sU) ?_; simp only [pS]; simp only [List.drop_succ_cons, List.drop_zero, List.take_succ_cons, List.take_zero]) | (refine rk_via (i := 7) [8, 17] rfl kR kR kR kR kR kR kR (Yld.ldor rfl rfl agg36 size36 rfl (by assumption) sZ (by assumption)) (H.sub sU) ?_; simp only [pS])
              refine rk_free (i := 9) rfl kR kR kR kR (Yld.move rfl rfl) (fun _ => (H.sub sU)) ?_; simp only [pS, pE]
              refine rk_free (i := 10) rfl kR kR kR kR (Yld.move rfl rfl) (fun _ => (H.sub sU)) ?_; simp only [pS, pE]
              refine rk_free (i := 11) rfl kR kR kR kR (Yld.o rfl) (fun _ => (H.sub sU)) ?_; simp only [pS]
              refine rk_free (i := 12) rfl kR kR kR kR (Yld.o rfl) (fun _ => (H.sub sU)) ?_; simp only [pS]
              first | (refine rk_via (i := 13) [14, 17] rfl kR kR kR kR kR kR kR (Yld.ldc rfl rfl agg26 rfl mR cE) (H.sub sU) ?_; simp only [pS]) | (refine rk_via (i := 13) [14, 17] rfl kR kR kR kR kR kR kR (Yld.ldo rfl rfl agg26 rfl (by assumption) (by assumption)) (H.sub sU) ?_; simp only [pS])
              refine rk_free (i := 14) rfl kR kR kR kR (Yld.o rfl) (fun _ => (H.sub sU)) ?_; simp only [pS]
              refine rk_free (i := 15) rfl kR kR kR kR (Yld.o rfl) (fun _ => (H.sub sU)) ?_; simp only [pS]
              first | (refine rk_take (i := 16) rfl kR kR kR kR kR kR (Yld.ldr rfl rfl agg36 size36 rfl mR sZ) (H.sub sU) ?_; simp only [pS]) | (refine rk_take (i := 16) rfl kR kR kR kR kR kR (Yld.ldl rfl rfl agg36 size36 rfl mR (by simp)) (H.sub sU) ?_; simp only [pS]; simp only [List.drop_succ_cons, List.drop_zero, List.take_succ_cons, List.take_zero]) | (refine rk_take (i := 16) rfl kR kR kR kR kR kR (Yld.ldor rfl rfl agg36 size36 rfl (by assumption) sZ (by assumption)) (H.sub sU) ?_; simp only [pS])
              refine rk_one (i := 8) (by kernel_rfl) rfl rfl (fun K hK => ?_)
              refine wp_callf rfl ent15 (pAdd_yes g0 gx ap1 ap1 s a1 ks1 qs1 xa xc c h HMc.out HWc.out hrd (HRL1.out.len) (by omega) (by omega) HEY.out _ (LRSt.of (((((H.pull (r := slo 116 11 _ _ _) pU).pull (r := row 65 gx _) pU).pull (r := cmsr G _) pU).pull (r := slo 36 10 _ _ _) pU).pull (r := row 97 g0 _) pU))) rfl (fun v w1 hr => ?_)
              obtain ⟨rfl, h2, ka, kc, G, H2⟩ := hr
              clear H
              have H := H2
              clear H2
              clear HS
              have HS := H
              refine hK.out _ _ (fun _ => (H.sub sU)) ?_
              clear hK K
              simp only [pS]
              refine rk_one (i := 17) (by kernel_rfl) rfl rfl (fun K hK => ?_)
              refine wp_callf rfl ent59 (xAdd_yes g0 gx a1 ap1 s a1 (ks1 ++ [(c, h2)]) qs1 xa xc c h HMc.out HWc.out hrd HQL1.out HQS1.out (by omega) (by omega) HEQ.out _ (LRSt.of (((((H.pull (r := slo 116 11 _ _ _) pU).pull (r := row 65 gx _) pU).pull (r := cmsr G _) pU).pull (r := slo 36 10 _ _ _) pU).pull (r := row 97 g0 _) pU))) rfl (fun v w1 hr => ?_)
              obtain ⟨rfl, xa, xc, ka, kc, G, H2⟩ := hr
              clear H
              have H := H2
              clear H2
              clear HS
              have HS := H
              refine hK.out _ _ (fun h => by cases (show true = false from h)) ?_
              clear hK K
              simp only [pS]
              refine rk_free (i := 18) rfl kR kR kR kR (Yld.o rfl) (fun h => by cases (show true = false from h)) ?_; simp only [pS]
              refine rk_done (by kernel_rfl) ?_
              go_wp2_with fail
              go_roundw
              case rel =>
                obtain ⟨r1, r2, r3⟩ := HRL1.out.add (h2 := h2) HMc.out HWc.out HEY.out hrd
                exact ⟨m + 1, a1, ks1 ++ [(c, h2)], qs1 ++ [(c, h)], xa, xc, ka, kc, G, by omega, by go_num, Lib.hid r1, by omega, .inr r3, H⟩
              case measure => simp [intOf]; omega
            · have HEY := Lib.hid he
              have HEQ := HEQ0
              have HE0 := Lib.hid h0
              have hee : (e == e) = true := by simp
              clear he h0
              go_wp2_with (first | (with_reducible refine wpl rfl (ldQ (ty := 3) rfl ?_); first | (with_reducible refine (Stp.ldo rfl agg3 rfl H (by assumption) (by assumption) ?_); simp only [pS]) | (with_reducible refine (Stp.ldc rfl agg3 rfl H mR cE ?_); simp only [pS])))
              refine rk_begin 17 19 (fun W => St B w0 W (row 65 gx #[.int .u64 (ap1 : Int), .slice xa qs1.length xc] :: row 68 g5 #[.int .i64 kind, .int .i64 n0, .int .u64 (sl : Int), .bool near, .int .i64 c.kind, .int .u16 (c.fr.1 : Int), .int .u32 (c.fr.2 : Int), .int .u64 (c.num : Int), .int .u64 (c.vw : Int), .slice h.ba c.data.length h.bc, .int .u64 (c.v.id : Int), .slice h.ma c.v.mem.length h.mc, .slice h.la c.v.lvs.length h.lc, .slice h.da c.v.ldr.length h.dc] :: [])) rfl (by kernel_rfl) ?_
              replace H := H.drew
              have HS := H
              refine rk_free (i := 0) rfl kR kR kR kR (Yld.move rfl rfl) (fun _ => (H.sub sU)) ?_; simp only [pS, pE]
              refine rk_free (i := 1) rfl kR kR kR kR (Yld.move rfl rfl) (fun _ => (H.sub sU)) ?_; simp only [pS, pE]
              refine rk_free (i := 2) rfl kR kR kR kR (Yld.o rfl) (fun _ => (H.sub sU)) ?_; simp only [pS]
              refine rk_free (i := 3) rfl kR kR kR kR (Yld.o rfl) (fun _ => (H.sub sU)) ?_; simp only [pS]
              first | (refine rk_via (i := 4) [5, 8, 17] rfl kR kR kR kR kR kR kR (Yld.ldc rfl rfl agg26 rfl mR cE) (H.sub sU) ?_; simp only [pS]) | (refine rk_via (i := 4) [5, 8, 17] rfl kR kR kR kR kR kR kR (Yld.ldo rfl rfl agg26 rfl (by assumption) (by assumption)) (H.sub sU) ?_; simp only [pS])
              refine rk_free (i := 5) rfl kR kR kR kR (Yld.o rfl) (fun _ => (H.sub sU)) ?_; simp only [pS]
              refine rk_free (i := 6) rfl kR kR kR kR (Yld.o rfl) (fun _ => (H.sub sU)) ?_; simp only [pS]
              first | (refine rk_via (i := 7) [8, 17] rfl kR kR kR kR kR kR kR (Yld.ldr rfl rfl agg36 size36 rfl mR sZ) (H.sub sU) ?_; simp only [pS]) | (refine rk_via (i := 7) [8, 17] rfl kR kR kR kR kR kR kR (Yld.ldl rfl rfl agg36 size36 rfl mR (by simp)) (H.sub sU) ?_; simp only [pS]; simp only [List.drop_succ_cons, List.drop_zero, List.take_succ_cons, List.take_zero]) | (refine rk_via (i := 7) [8, 17] rfl kR kR kR kR kR kR kR (Yld.ldor rfl rfl agg36 size36 rfl (by assumption) sZ (by assumption)) (H.sub sU) ?_; simp only [pS])
              refine rk_free (i := 9) rfl kR kR kR kR (Yld.move rfl rfl) (fun _ => (H.sub sU)) ?_; simp only [pS, pE]
              refine rk_free (i := 10) rfl kR kR kR kR (Yld.move rfl rfl) (fun _ => (H.sub sU)) ?_; simp only [pS, pE]
              refine rk_free (i := 11) rfl kR kR kR kR (Yld.o rfl) (fun _ => (H.sub sU)) ?_; simp only [pS]
              refine rk_free (i := 12) rfl kR kR kR kR (Yld.o rfl) (fun _ => (H.sub sU)) ?_; simp only [pS]
              first | (refine rk_via (i := 13) [14, 17] rfl kR kR kR kR kR kR kR (Yld.ldc rfl rfl agg26 rfl mR cE) (H.sub sU) ?_; simp only [pS]) | (refine rk_via (i := 13) [14, 17] rfl kR kR kR kR kR kR kR (Yld.ldo rfl rfl agg26 rfl (by assumption) (by assumption)) (H.sub sU) ?_; simp only [pS])
              refine rk_free (i := 14) rfl kR kR kR kR (Yld.o rfl) (fun _ => (H.sub sU)) ?_; simp only [pS]
              refine rk_free (i := 15) rfl kR kR kR kR (Yld.o rfl) (fun _ => (H.sub sU)) ?_; simp only [pS]
              first | (refine rk_take (i := 16) rfl kR kR kR kR kR kR (Yld.ldr rfl rfl agg36 size36 rfl mR sZ) (H.sub sU) ?_; simp only [pS]) | (refine rk_take (i := 16) rfl kR kR kR kR kR kR (Yld.ldl rfl rfl agg36 size36 rfl mR (by simp)) (H.sub sU) ?_; simp only [pS]; simp only [List.drop_succ_cons, List.drop_zero, List.take_succ_cons, List.take_zero]) | (refine rk_take (i := 16) rfl kR kR kR kR kR kR (Yld.ldor rfl rfl agg36 size36 rfl (by assumption) sZ (by assumption)) (H.sub sU) ?_; simp only [pS])
              refine rk_one (i := 8) (by kernel_rfl) rfl rfl (fun K hK => ?_)
              refine wp_callf rfl ent15 (pAdd_no g0 gx ap1 ap1 s a1 ks1 qs1 xa xc c h HMc.out HWc.out hrd (HRL1.out.len) (by omega) (by omega) e HEY.out HE0.out _ (LRSt.of (((((H.pull (r := slo 116 11 _ _ _) pU).pull (r := row 65 gx _) pU).pull (r := cmsr G _) pU).pull (r := slo 36 10 _ _ _) pU).pull (r := row 97 g0 _) pU))) rfl (fun v w1 hr => ?_)
              obtain ⟨rfl, ka, kc, G, H2⟩ := hr
              clear H
              have H := H2
              clear H2
              clear HS
              have HS := H
              refine hK.out _ _ (fun _ => (H.sub sU)) ?_
              clear hK K
              simp only [pS]
              refine rk_one (i := 17) (by kernel_rfl) rfl rfl (fun K hK => ?_)
              refine wp_callf rfl ent59 (xAdd_no g0 gx ap1 ap1 s a1 ks1 qs1 xa xc c h HMc.out HWc.out hrd HQL1.out HQS1.out (by omega) (by omega) e HEQ.out HE0.out _ (LRSt.of (((((H.pull (r := slo 116 11 _ _ _) pU).pull (r := row 65 gx _) pU).pull (r := cmsr G _) pU).pull (r := slo 36 10 _ _ _) pU).pull (r := row 97 g0 _) pU))) rfl (fun v w1 hr => ?_)
              obtain ⟨rfl, xa, xc, ka, kc, G, H2⟩ := hr
              clear H
              have H := H2
              clear H2
              clear HS
              have HS := H
              refine hK.out _ _ (fun h => by cases (show true = false from h)) ?_
              clear hK K
              simp only [pS]
              refine rk_free (i := 18) rfl kR kR kR kR (Yld.o rfl) (fun h => by cases (show true = false from h)) ?_; simp only [pS]
              refine rk_done (by kernel_rfl) ?_
              go_wp2_with fail
              go_roundw
              case rel => exact ⟨m + 1, ap1, ks1, qs1, xa, xc, ka, kc, G, by omega, by go_num, HRL1, hle, hmx, H⟩
              case measure => simp [intOf]; omega
          · have z7 : ¬ (m : Int) < 70 := by omega
            clear he
            go_wp2_with (first | (with_reducible refine wpl rfl (ldQ (ty := 3) rfl ?_); first | (with_reducible refine (Stp.ldo rfl agg3 rfl H (by assumption) (by assumption) ?_); simp only [pS]) | (with_reducible refine (Stp.ldc rfl agg3 rfl H mR cE ?_); simp only [pS])))
            go_ret
            first | exact ⟨_, rfl, rfl, ap1, s, ks1, qs1, _, _, HRL1.out, hle, hmx, (Nat.le_refl _), ka, kc, G, (((((H.pull (r := slo 116 11 _ _ _) pU).pull (r := row 65 gx _) pU).pull (r := cmsr G _) pU).pull (r := slo 36 10 _ _ _) pU).pull (r := row 97 g0 _) pU).sub sU⟩ | exact ⟨_, rfl, rfl, ap1, s, ks1, qs1, HRL1.out, hle, hmx, (Nat.le_refl _), _, _, ka, kc, G, (((((H.pull (r := slo 116 11 _ _ _) pU).pull (r := row 65 gx _) pU).pull (r := cmsr G _) pU).pull (r := slo 36 10 _ _ _) pU).pull (r := row 97 g0 _) pU).sub sU⟩
        · clear he
          go_wp2_with (first | (with_reducible refine wpl rfl (ldQ (ty := 3) rfl ?_); first | (with_reducible refine (Stp.ldo rfl agg3 rfl H (by assumption) (by assumption) ?_); simp only [pS]) | (with_reducible refine (Stp.ldc rfl agg3 rfl H mR cE ?_); simp only [pS])))
          go_ret
          first | exact ⟨_, rfl, rfl, ap1, s, ks1, qs1, _, _, HRL1.out, hle, hmx, (Nat.le_refl _), ka, kc, G, (((((H.pull (r := slo 116 11 _ _ _) pU).pull (r := row 65 gx _) pU).pull (r := cmsr G _) pU).pull (r := slo 36 10 _ _ _) pU).pull (r := row 97 g0 _) pU).sub sU⟩ | exact ⟨_, rfl, rfl, ap1, s, ks1, qs1, HRL1.out, hle, hmx, (Nat.le_refl _), _, _, ka, kc, G, (((((H.pull (r := slo 116 11 _ _ _) pU).pull (r := row 65 gx _) pU).pull (r := cmsr G _) pU).pull (r := slo 36 10 _ _ _) pU).pull (r := row 97 g0 _) pU).sub sU⟩

end Go.Proofs.Ytmokecicjmjkbaa
