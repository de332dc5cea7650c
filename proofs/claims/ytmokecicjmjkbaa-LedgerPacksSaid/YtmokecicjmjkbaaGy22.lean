/- Contracts of the reference's Ledger (choragusref18): Add, Get, Cut, From; the bounds stand in each. Views, commands and ledgers that were laid are read as they were; the bounds stand in each. -/
import Derived.Test.YtmokecicjmjkbaaGy15
import Derived.Test.YtmokecicjmjkbaaGy19
import Derived.Test.YtmokecicjmjkbaaGy21
namespace Go.Proofs.Ytmokecicjmjkbaa
open Go.ChangeShapes Go.WideShapes Go.ChangeAt Go.RowKit Go.Maps
set_option linter.unusedVariables false
set_option linter.unusedSimpArgs false
section
variable {P : Program} {ops : Array Oper} {a : Act} {w : World} {o : Oper} {N : Act → World → Prop} {B : Nat} {w0 : World} {L : List Res} {ty e : TypeId} {x y : Operand} {g off d size n c k : Nat} {xs : List Value}
/-- A cell of a slice of the call's own that begins anywhere. -/
theorem Stp.loc {v : Value} (ho : o.op = .load ty x) (hagg : ∀ W : World, (isAgg ty).run P W = .ok false W) (hx : a.eval x = .pointer (some ⟨g, off + d, none⟩)) (H : St B w0 w L)
    (hm : slo e size (.slice (some ⟨g, off, none⟩) n c) n xs ∈ L) (hc : xs[d]? = some v) (h : N (a.put o.dst v) w) : Stp P o a w N := by
  refine ⟨w, .inl ⟨v, ?_, h⟩⟩
  unfold execOp; simp only [ho, hx, Instr.loadAt, Instr.sureAddr]
  simp [loadVar, hagg, H.slo_cell hm hc]
end
/-- Slots and commands, as values. -/
def ov (s : Nat) : List (Cm × Hd) → List Value
  | [] => []
  | p :: r => .int .u64 (s : Int) :: ((cmH p.1 p.2).toList ++ ov (s + 1) r)
theorem ov_app (ks ls : List (Cm × Hd)) : ∀ s, ov s (ks ++ ls) = ov s ks ++ ov (s + ks.length) ls := by
  induction ks with
  | nil => intro s; rfl
  | cons p r ih =>
    intro s
    have h1 : ov s (p :: r ++ ls) = .int .u64 (s : Int) :: ((cmH p.1 p.2).toList ++ ov (s + 1) (r ++ ls)) := rfl
    have h2 : ov s (p :: r) = .int .u64 (s : Int) :: ((cmH p.1 p.2).toList ++ ov (s + 1) r) := rfl
    have h3 : ∀ (x : Value) (C a b : List Value), x :: (C ++ (a ++ b)) = (x :: (C ++ a)) ++ b := fun x C a b => by simp
    rw [h1, h2, ih, List.length_cons, show s + 1 + r.length = s + (r.length + 1) by omega]
    exact h3 _ _ _ _
theorem ov_one1 (s : Nat) (c : Cm) (h : Hd) : ∀ u ∈ (#[.int .u64 (s : Int), .int .i64 c.kind, .int .u16 (c.fr.1 : Int), .int .u32 (c.fr.2 : Int), .int .u64 (c.num : Int), .int .u64 (c.vw : Int), .slice h.ba c.data.length h.bc, .int .u64 (c.v.id : Int), .slice h.ma c.v.mem.length h.mc, .slice h.la c.v.lvs.length h.lc, .slice h.da c.v.ldr.length h.dc] : Array Value).toList, u.oneCell' = true := by
  intro u hu
  simp only [List.mem_cons, List.not_mem_nil, or_false] at hu
  rcases hu with rfl | rfl | rfl | rfl | rfl | rfl | rfl | rfl | rfl | rfl | rfl <;> rfl
theorem ov_drop (ks : List (Cm × Hd)) : ∀ s k, (ov s ks).drop (k * 11) = ov (s + k) (ks.drop k) := by
  induction ks with
  | nil => intro s k; simp [ov]
  | cons p r ih =>
    intro s k
    cases k with
    | zero => simp
    | succ k =>
      have hc : ov s (p :: r) = (.int .u64 (s : Int) :: (cmH p.1 p.2).toList) ++ ov (s + 1) r := rfl
      rw [hc, List.drop_succ_cons, show s + (k + 1) = s + 1 + k by omega, ← ih (s + 1) k, List.drop_append, List.drop_of_length_le (by simp; omega)]
      simp only [List.nil_append]
      congr 1
      simp
      omega
theorem ov_get (ks : List (Cm × Hd)) : ∀ s k p, ks[k]? = some p → (ov s ks)[k * 11]? = some (.int .u64 ((s + k : Nat) : Int)) ∧ ∀ j, j < 10 → (ov s ks)[k * 11 + 1 + j]? = (cmH p.1 p.2)[j]? := by
  induction ks with
  | nil => intro s k p h; cases h
  | cons q r ih =>
    intro s k p h
    have hc : ov s (q :: r) = (.int .u64 (s : Int) :: (cmH q.1 q.2).toList) ++ ov (s + 1) r := rfl
    rw [hc]
    cases k with
    | zero =>
      simp only [List.getElem?_cons_zero, Option.some.injEq] at h
      subst h
      refine ⟨by simp, fun j hj => ?_⟩
      rw [List.getElem?_append_left (by simp; omega), show 0 * 11 + 1 + j = j + 1 by omega, List.getElem?_cons_succ, Array.getElem?_toList]
    | succ k =>
      rw [List.getElem?_cons_succ] at h
      obtain ⟨h1, h2⟩ := ih (s + 1) k p h
      refine ⟨?_, fun j hj => ?_⟩
      · rw [List.getElem?_append_right (by simp; omega), ← show s + 1 + k = s + (k + 1) by omega, ← h1]
        congr 1
        simp
        omega
      · rw [List.getElem?_append_right (by simp; omega), ← h2 j hj]
        congr 1
        simp
        omega
/-- The reference's ledger: how far all was applied, the first slot that is kept, what is kept. -/
def XlSt (B : Nat) (w0 w : World) (gx ap s : Nat) (ks : List (Cm × Hd)) (L : List Res) : Prop :=
  ∃ (xa : Option Addr) (xc : Nat), St B w0 w (row 65 gx #[.int .u64 (ap : Int), .slice xa ks.length xc] :: slo 116 11 (.slice xa ks.length xc) ks.length (ov s ks) :: L)
attribute [local irreducible] cErr
set_option maxRecDepth 100000 in
set_option maxHeartbeats 4000000 in
theorem rladd_ok {B : Nat} {w0 : World} {L : List Res} {G1 : Nat → Prop} (gx ap slot s : Nat) (ks : List (Cm × Hd)) (c : Cm) (h : Hd) (hn : ks.length ≤ 64) (hsl : s + ks.length = ap + 1) (ha : ap < 18446744073709551616) (hs : slot < 18446744073709551616) (hm : smC c)
    (hx : Rd B w0 L fun W => CmG G1 W (.slice h.ba c.data.length h.bc) (.slice h.ma c.v.mem.length h.mc) (.slice h.la c.v.lvs.length h.lc) (.slice h.da c.v.ldr.length h.dc) c) (w : World) (H0 : XlSt B w0 w gx ap s ks L) :
    Calls Try.prog 59 #[.pointer (some ⟨gx, 0, none⟩), .int .u64 (slot : Int), .agg (cmH c h)] w (Ret fun v w' => v = .int .i64 (addE ap ks.length slot c) ∧ ((addE ap ks.length slot c = 0 ∧ XlSt B w0 w' gx slot s (ks ++ [(c, h)]) L) ∨ (addE ap ks.length slot c ≠ 0 ∧ XlSt B w0 w' gx ap s ks L))) := by
  obtain ⟨xa, xc, H⟩ := H0
  obtain ⟨e, he⟩ : ∃ e, cErr c = e := ⟨_, rfl⟩
  obtain ⟨n, hkn⟩ : ∃ n, ks.length = n := ⟨_, rfl⟩
  have HKN := Lib.hid hkn
  have HE := Lib.hid he
  rw [hkn] at H hn hsl ⊢
  clear hkn
  simp only [cmH, cmC]
  by_cases he0 : e = 0
  · subst he0
    by_cases h1 : slot ≤ ap
    · have HV : Hid (addE ap n slot c = 10) := Lib.hid (by unfold addE; simp [HE.out, h1])
      have hi : (slot : Int) ≤ (ap : Int) := by omega
      clear he
      go_enter Try.func59, Try.ntmps59
      go_wp2_with (first | (go_at_call 23; (with_reducible refine (rccheck_is c _ _ _ _ _ _ _ _ hm.v _ _ HE.out (hx.at H (by repeat (first | exact List.Sublist.refl _ | apply List.Sublist.cons)))).mono ?_); rintro e w1 ⟨v, rfl, hr⟩; obtain ⟨rfl, hb1⟩ := hr; replace H := H.grow hb1; clear hb1) | (with_reducible refine wpl rfl (dQ 5 rfl ?_); with_reducible refine (Stp.box 5 rfl rfl rfl H ?_); clear H; intro g5 w1 H; simp only [pS]; simp only [pE, nC, pS] at H) | (with_reducible refine wpl rfl (ldQ (ty := 36) rfl ?_); first | (with_reducible refine (Stp.ldor rfl agg36 size36 rfl H (by assumption) sZ (by assumption) ?_); simp only [pS]) | (with_reducible refine (Stp.ldr rfl agg36 size36 rfl H mR sZ ?_); simp only [pS]) | (with_reducible refine (Stp.ldl rfl agg36 size36 rfl H mR (by simp) ?_); simp only [pS]; simp only [List.drop_succ_cons, List.drop_zero, List.take_succ_cons, List.take_zero])) | (with_reducible refine wpl rfl (ldQ (ty := 26) rfl ?_); first | (with_reducible refine (Stp.ldo rfl agg26 rfl H (by assumption) (by assumption) ?_); simp only [pS]) | (with_reducible refine (Stp.ldc rfl agg26 rfl H mR cE ?_); simp only [pS])) | (with_reducible refine wpl rfl (ldQ (ty := 63) rfl ?_); first | (with_reducible refine (Stp.ldo rfl agg63 rfl H (by assumption) (by assumption) ?_); simp only [pS]) | (with_reducible refine (Stp.ldc rfl agg63 rfl H mR cE ?_); simp only [pS])) | (with_reducible refine wpl rfl (stQ (ty := 26) rfl ?_); first | (with_reducible refine (Stp.stc rfl size26 rfl rfl rfl rfl H uP (by first | omega | (simp; done) | (simp; omega)) ?_); clear H; intro w1 H; simp only [pS]; simp only [pE, nC, pS] at H)))
      go_ret
      exact ⟨_, rfl, by rw [HV.out]; rfl, .inr ⟨by rw [HV.out]; omega, xa, xc, by rw [HKN.out]; exact H.sub sU⟩⟩
    · have hi : ¬ (slot : Int) ≤ (ap : Int) := by omega
      have W1 : IntKind.u64.wrap ((slot : Int) - 1) = (slot : Int) - 1 := wrap_u64_in _ (by omega) (by omega)
      by_cases h2 : 1 < slot - ap
      · have HV : Hid (addE ap n slot c = 11) := Lib.hid (by unfold addE; simp [HE.out, h1, h2])
        have hj : (ap : Int) < (slot : Int) - 1 := by omega
        clear he
        go_enter Try.func59, Try.ntmps59
        go_wp2_with (first | (go_at_call 23; (with_reducible refine (rccheck_is c _ _ _ _ _ _ _ _ hm.v _ _ HE.out (hx.at H (by repeat (first | exact List.Sublist.refl _ | apply List.Sublist.cons)))).mono ?_); rintro e w1 ⟨v, rfl, hr⟩; obtain ⟨rfl, hb1⟩ := hr; replace H := H.grow hb1; clear hb1) | (with_reducible refine wpl rfl (dQ 5 rfl ?_); with_reducible refine (Stp.box 5 rfl rfl rfl H ?_); clear H; intro g5 w1 H; simp only [pS]; simp only [pE, nC, pS] at H) | (with_reducible refine wpl rfl (ldQ (ty := 36) rfl ?_); first | (with_reducible refine (Stp.ldor rfl agg36 size36 rfl H (by assumption) sZ (by assumption) ?_); simp only [pS]) | (with_reducible refine (Stp.ldr rfl agg36 size36 rfl H mR sZ ?_); simp only [pS]) | (with_reducible refine (Stp.ldl rfl agg36 size36 rfl H mR (by simp) ?_); simp only [pS]; simp only [List.drop_succ_cons, List.drop_zero, List.take_succ_cons, List.take_zero])) | (with_reducible refine wpl rfl (ldQ (ty := 26) rfl ?_); first | (with_reducible refine (Stp.ldo rfl agg26 rfl H (by assumption) (by assumption) ?_); simp only [pS]) | (with_reducible refine (Stp.ldc rfl agg26 rfl H mR cE ?_); simp only [pS])) | (with_reducible refine wpl rfl (ldQ (ty := 63) rfl ?_); first | (with_reducible refine (Stp.ldo rfl agg63 rfl H (by assumption) (by assumption) ?_); simp only [pS]) | (with_reducible refine (Stp.ldc rfl agg63 rfl H mR cE ?_); simp only [pS])) | (with_reducible refine wpl rfl (stQ (ty := 26) rfl ?_); first | (with_reducible refine (Stp.stc rfl size26 rfl rfl rfl rfl H uP (by first | omega | (simp; done) | (simp; omega)) ?_); clear H; intro w1 H; simp only [pS]; simp only [pE, nC, pS] at H)))
        go_ret
        exact ⟨_, rfl, by rw [HV.out]; rfl, .inr ⟨by rw [HV.out]; omega, xa, xc, by rw [HKN.out]; exact H.sub sU⟩⟩
      · have hj : ¬ (ap : Int) < (slot : Int) - 1 := by omega
        by_cases h3 : 4611686018427387904 < slot
        · have HV : Hid (addE ap n slot c = 16) := Lib.hid (by unfold addE; simp [HE.out, h1, h2, h3])
          have hk : (4611686018427387904 : Int) < (slot : Int) := by omega
          clear he
          go_enter Try.func59, Try.ntmps59
          go_wp2_with (first | (go_at_call 23; (with_reducible refine (rccheck_is c _ _ _ _ _ _ _ _ hm.v _ _ HE.out (hx.at H (by repeat (first | exact List.Sublist.refl _ | apply List.Sublist.cons)))).mono ?_); rintro e w1 ⟨v, rfl, hr⟩; obtain ⟨rfl, hb1⟩ := hr; replace H := H.grow hb1; clear hb1) | (with_reducible refine wpl rfl (dQ 5 rfl ?_); with_reducible refine (Stp.box 5 rfl rfl rfl H ?_); clear H; intro g5 w1 H; simp only [pS]; simp only [pE, nC, pS] at H) | (with_reducible refine wpl rfl (ldQ (ty := 36) rfl ?_); first | (with_reducible refine (Stp.ldor rfl agg36 size36 rfl H (by assumption) sZ (by assumption) ?_); simp only [pS]) | (with_reducible refine (Stp.ldr rfl agg36 size36 rfl H mR sZ ?_); simp only [pS]) | (with_reducible refine (Stp.ldl rfl agg36 size36 rfl H mR (by simp) ?_); simp only [pS]; simp only [List.drop_succ_cons, List.drop_zero, List.take_succ_cons, List.take_zero])) | (with_reducible refine wpl rfl (ldQ (ty := 26) rfl ?_); first | (with_reducible refine (Stp.ldo rfl agg26 rfl H (by assumption) (by assumption) ?_); simp only [pS]) | (with_reducible refine (Stp.ldc rfl agg26 rfl H mR cE ?_); simp only [pS])) | (with_reducible refine wpl rfl (ldQ (ty := 63) rfl ?_); first | (with_reducible refine (Stp.ldo rfl agg63 rfl H (by assumption) (by assumption) ?_); simp only [pS]) | (with_reducible refine (Stp.ldc rfl agg63 rfl H mR cE ?_); simp only [pS])) | (with_reducible refine wpl rfl (stQ (ty := 26) rfl ?_); first | (with_reducible refine (Stp.stc rfl size26 rfl rfl rfl rfl H uP (by first | omega | (simp; done) | (simp; omega)) ?_); clear H; intro w1 H; simp only [pS]; simp only [pE, nC, pS] at H)))
          go_ret
          exact ⟨_, rfl, by rw [HV.out]; rfl, .inr ⟨by rw [HV.out]; omega, xa, xc, by rw [HKN.out]; exact H.sub sU⟩⟩
        · have hk : ¬ (4611686018427387904 : Int) < (slot : Int) := by omega
          by_cases h4 : 64 ≤ n
          · have HV : Hid (addE ap n slot c = 7) := Lib.hid (by unfold addE; simp [HE.out, h1, h2, h3, h4])
            have hl : (64 : Int) ≤ (n : Int) := by omega
            clear he
            go_enter Try.func59, Try.ntmps59
            go_wp2_with (first | (go_at_call 23; (with_reducible refine (rccheck_is c _ _ _ _ _ _ _ _ hm.v _ _ HE.out (hx.at H (by repeat (first | exact List.Sublist.refl _ | apply List.Sublist.cons)))).mono ?_); rintro e w1 ⟨v, rfl, hr⟩; obtain ⟨rfl, hb1⟩ := hr; replace H := H.grow hb1; clear hb1) | (with_reducible refine wpl rfl (dQ 5 rfl ?_); with_reducible refine (Stp.box 5 rfl rfl rfl H ?_); clear H; intro g5 w1 H; simp only [pS]; simp only [pE, nC, pS] at H) | (with_reducible refine wpl rfl (ldQ (ty := 36) rfl ?_); first | (with_reducible refine (Stp.ldor rfl agg36 size36 rfl H (by assumption) sZ (by assumption) ?_); simp only [pS]) | (with_reducible refine (Stp.ldr rfl agg36 size36 rfl H mR sZ ?_); simp only [pS]) | (with_reducible refine (Stp.ldl rfl agg36 size36 rfl H mR (by simp) ?_); simp only [pS]; simp only [List.drop_succ_cons, List.drop_zero, List.take_succ_cons, List.take_zero])) | (with_reducible refine wpl rfl (ldQ (ty := 26) rfl ?_); first | (with_reducible refine (Stp.ldo rfl agg26 rfl H (by assumption) (by assumption) ?_); simp only [pS]) | (with_reducible refine (Stp.ldc rfl agg26 rfl H mR cE ?_); simp only [pS])) | (with_reducible refine wpl rfl (ldQ (ty := 63) rfl ?_); first | (with_reducible refine (Stp.ldo rfl agg63 rfl H (by assumption) (by assumption) ?_); simp only [pS]) | (with_reducible refine (Stp.ldc rfl agg63 rfl H mR cE ?_); simp only [pS])) | (with_reducible refine wpl rfl (stQ (ty := 26) rfl ?_); first | (with_reducible refine (Stp.stc rfl size26 rfl rfl rfl rfl H uP (by first | omega | (simp; done) | (simp; omega)) ?_); clear H; intro w1 H; simp only [pS]; simp only [pE, nC, pS] at H)))
            go_ret
            exact ⟨_, rfl, by rw [HV.out]; rfl, .inr ⟨by rw [HV.out]; omega, xa, xc, by rw [HKN.out]; exact H.sub sU⟩⟩
          · have HV : Hid (addE ap n slot c = 0) := Lib.hid (by unfold addE; simp [HE.out, h1, h2, h3, h4])
            have hl : ¬ (64 : Int) ≤ (n : Int) := by omega
            have hsn : s + n = slot := by omega
            clear he h1 h2 h3 h4
            go_enter Try.func59, Try.ntmps59
            go_wp2_with (first | (go_at_call 23; (with_reducible refine (rccheck_is c _ _ _ _ _ _ _ _ hm.v _ _ HE.out (hx.at H (by repeat (first | exact List.Sublist.refl _ | apply List.Sublist.cons)))).mono ?_); rintro e w1 ⟨v, rfl, hr⟩; obtain ⟨rfl, hb1⟩ := hr; replace H := H.grow hb1; clear hb1) | (with_reducible refine wpl rfl (dQ 5 rfl ?_); with_reducible refine (Stp.box 5 rfl rfl rfl H ?_); clear H; intro g5 w1 H; simp only [pS]; simp only [pE, nC, pS] at H) | (with_reducible refine wpl rfl (ldQ (ty := 36) rfl ?_); first | (with_reducible refine (Stp.ldor rfl agg36 size36 rfl H (by assumption) sZ (by assumption) ?_); simp only [pS]) | (with_reducible refine (Stp.ldr rfl agg36 size36 rfl H mR sZ ?_); simp only [pS]) | (with_reducible refine (Stp.ldl rfl agg36 size36 rfl H mR (by simp) ?_); simp only [pS]; simp only [List.drop_succ_cons, List.drop_zero, List.take_succ_cons, List.take_zero])) | (with_reducible refine wpl rfl (ldQ (ty := 26) rfl ?_); first | (with_reducible refine (Stp.ldo rfl agg26 rfl H (by assumption) (by assumption) ?_); simp only [pS]) | (with_reducible refine (Stp.ldc rfl agg26 rfl H mR cE ?_); simp only [pS])) | (with_reducible refine wpl rfl (ldQ (ty := 63) rfl ?_); first | (with_reducible refine (Stp.ldo rfl agg63 rfl H (by assumption) (by assumption) ?_); simp only [pS]) | (with_reducible refine (Stp.ldc rfl agg63 rfl H mR cE ?_); simp only [pS])) | (with_reducible refine wpl rfl (stQ (ty := 26) rfl ?_); first | (with_reducible refine (Stp.stc rfl size26 rfl rfl rfl rfl H uP (by first | omega | (simp; done) | (simp; omega)) ?_); clear H; intro w1 H; simp only [pS]; simp only [pE, nC, pS] at H)))
            refine rk_begin 12 13 (fun W => St B w0 W (row 36 g5 #[.int .i64 c.kind, .int .u16 (c.fr.1 : Int), .int .u32 (c.fr.2 : Int), .int .u64 (c.num : Int), .int .u64 (c.vw : Int), .slice h.ba c.data.length h.bc, .int .u64 (c.v.id : Int), .slice h.ma c.v.mem.length h.mc, .slice h.la c.v.lvs.length h.lc, .slice h.da c.v.ldr.length h.dc] :: row 65 gx #[.int .u64 (slot : Int), .slice xa n xc] :: L)) rfl (by kernel_rfl) ?_
            replace H := H.drew
            have HS := H
            refine rk_free (i := 0) rfl kR kR kR kR (Yld.move rfl rfl) (fun _ => (H.sub sU)) ?_; simp only [pS, pE]
            refine rk_free (i := 1) rfl kR kR kR kR (Yld.move rfl rfl) (fun _ => (H.sub sU)) ?_; simp only [pS, pE]
            refine rk_free (i := 2) rfl kR kR kR kR (Yld.o rfl) (fun _ => (H.sub sU)) ?_; simp only [pS]
            refine rk_free (i := 3) rfl kR kR kR kR (Yld.o rfl) (fun _ => (H.sub sU)) ?_; simp only [pS]
            first | (refine rk_take (i := 4) rfl kR kR kR kR kR kR (Yld.ldc rfl rfl agg63 rfl mR cE) (H.sub sU) ?_; simp only [pS]) | (refine rk_take (i := 4) rfl kR kR kR kR kR kR (Yld.ldo rfl rfl agg63 rfl (by assumption) (by assumption)) (H.sub sU) ?_; simp only [pS])
            refine rk_free (i := 5) rfl kR kR kR kR (Yld.move rfl rfl) (fun _ => (H.sub sU)) ?_; simp only [pS, pE]
            first | (refine rk_take (i := 6) rfl kR kR kR kR kR kR (Yld.ldr rfl rfl agg36 size36 rfl mR sZ) (H.sub sU) ?_; simp only [pS]) | (refine rk_take (i := 6) rfl kR kR kR kR kR kR (Yld.ldl rfl rfl agg36 size36 rfl mR (by simp)) (H.sub sU) ?_; simp only [pS]; simp only [List.drop_succ_cons, List.drop_zero, List.take_succ_cons, List.take_zero]) | (refine rk_take (i := 6) rfl kR kR kR kR kR kR (Yld.ldor rfl rfl agg36 size36 rfl (by assumption) sZ (by assumption)) (H.sub sU) ?_; simp only [pS])
            refine rk_free (i := 7) rfl kR kR kR kR (Yld.of (v := .agg #[.int .u64 (slot : Int), .int .i64 c.kind, .int .u16 (c.fr.1 : Int), .int .u32 (c.fr.2 : Int), .int .u64 (c.num : Int), .int .u64 (c.vw : Int), .slice h.ba c.data.length h.bc, .int .u64 (c.v.id : Int), .slice h.ma c.v.mem.length h.mc, .slice h.la c.v.lvs.length h.lc, .slice h.da c.v.ldr.length h.dc]) rfl (fun W _ => by kernel_rfl)) (fun _ => (H.sub sU)) ?_; simp only [pS, pE]
            refine rk_one (i := 8) (by kernel_rfl) rfl rfl (fun K hK => ?_)
            refine Stp.wp (Stp.bsl (e := 116) (cs := #[.int .u64 (slot : Int), .int .i64 c.kind, .int .u16 (c.fr.1 : Int), .int .u32 (c.fr.2 : Int), .int .u64 (c.num : Int), .int .u64 (c.vw : Int), .slice h.ba c.data.length h.bc, .int .u64 (c.v.id : Int), .slice h.ma c.v.mem.length h.mc, .slice h.la c.v.lvs.length h.lc, .slice h.da c.v.ldr.length h.dc]) 48 rfl rfl (fun W => by kernel_rfl) H ?_)
            clear H
            intro g48 w1 H
            clear HS
            have HS := H
            refine hK.out _ _ (fun _ => (H.sub sU)) ?_
            clear hK K
            simp only [pS]
            refine rk_one (i := 9) (by kernel_rfl) rfl rfl (fun K hK => ?_)
            refine Stp.wp (Stp.appo 49 rfl rfl Try.underlying63 info116 rfl (by decide) rfl rfl H (fun _ => uP) (show ((#[.int .u64 (slot : Int), .int .i64 c.kind, .int .u16 (c.fr.1 : Int), .int .u32 (c.fr.2 : Int), .int .u64 (c.num : Int), .int .u64 (c.vw : Int), .slice h.ba c.data.length h.bc, .int .u64 (c.v.id : Int), .slice h.ma c.v.mem.length h.mc, .slice h.la c.v.lvs.length h.lc, .slice h.da c.v.ldr.length h.dc] : Array Value).toList).length = 1 * 11 from rfl) (by omega) (newN (H.gr 116)) (ov_one1 _ _ _) (by unfold maxLen; omega) (by omega) ?_)
            clear H
            intro a49 c49 w1 H
            clear HS
            have HS := H
            refine hK.out _ _ (fun _ => (H.sub sU)) ?_
            clear hK K
            simp only [pS]
            refine rk_free (i := 10) rfl kR kR kR kR (Yld.o rfl) (fun _ => (H.sub sU)) ?_; simp only [pS]
            refine rk_free (i := 11) rfl kR kR kR kR (Yld.o rfl) (fun _ => (H.sub sU)) ?_; simp only [pS]
            refine rk_one (i := 12) (by kernel_rfl) rfl rfl (fun K hK => ?_)
            refine Stp.wp (Stp.stc rfl size63 rfl rfl rfl rfl H uP (by simp) ?_)
            clear H
            intro w1 H
            simp only [pE, nC, pS] at H
            clear HS
            have HS := H
            refine hK.out _ _ (fun h => by cases (show true = false from h)) ?_
            clear hK K
            simp only [pS]
            refine rk_done (by kernel_rfl) ?_
            go_wp2_with (first | (with_reducible refine wpl rfl (dQ 5 rfl ?_); with_reducible refine (Stp.box 5 rfl rfl rfl H ?_); clear H; intro g5 w1 H; simp only [pS]; simp only [pE, nC, pS] at H) | (with_reducible refine wpl rfl (ldQ (ty := 36) rfl ?_); first | (with_reducible refine (Stp.ldor rfl agg36 size36 rfl H (by assumption) sZ (by assumption) ?_); simp only [pS]) | (with_reducible refine (Stp.ldr rfl agg36 size36 rfl H mR sZ ?_); simp only [pS]) | (with_reducible refine (Stp.ldl rfl agg36 size36 rfl H mR (by simp) ?_); simp only [pS]; simp only [List.drop_succ_cons, List.drop_zero, List.take_succ_cons, List.take_zero])) | (with_reducible refine wpl rfl (ldQ (ty := 26) rfl ?_); first | (with_reducible refine (Stp.ldo rfl agg26 rfl H (by assumption) (by assumption) ?_); simp only [pS]) | (with_reducible refine (Stp.ldc rfl agg26 rfl H mR cE ?_); simp only [pS])) | (with_reducible refine wpl rfl (ldQ (ty := 63) rfl ?_); first | (with_reducible refine (Stp.ldo rfl agg63 rfl H (by assumption) (by assumption) ?_); simp only [pS]) | (with_reducible refine (Stp.ldc rfl agg63 rfl H mR cE ?_); simp only [pS])) | (with_reducible refine wpl rfl (stQ (ty := 26) rfl ?_); first | (with_reducible refine (Stp.stc rfl size26 rfl rfl rfl rfl H uP (by first | omega | (simp; done) | (simp; omega)) ?_); clear H; intro w1 H; simp only [pS]; simp only [pE, nC, pS] at H)))
            go_ret
            have hl : (ks ++ [(c, h)]).length = n + 1 := by rw [List.length_append, HKN.out]; rfl
            have hv : ov s (ks ++ [(c, h)]) = ov s ks ++ (#[.int .u64 (slot : Int), .int .i64 c.kind, .int .u16 (c.fr.1 : Int), .int .u32 (c.fr.2 : Int), .int .u64 (c.num : Int), .int .u64 (c.vw : Int), .slice h.ba c.data.length h.bc, .int .u64 (c.v.id : Int), .slice h.ma c.v.mem.length h.mc, .slice h.la c.v.lvs.length h.lc, .slice h.da c.v.ldr.length h.dc] : Array Value).toList := by rw [ov_app, HKN.out, hsn]; rfl
            refine ⟨_, rfl, by rw [HV.out]; rfl, .inl ⟨HV.out, a49, c49, ?_⟩⟩
            rw [hl, hv]
            exact ((H.pull (r := slo 116 11 _ _ _) pU).pull (r := row 65 gx _) pU).sub sU
  · have HV : Hid (addE ap n slot c = 1) := Lib.hid (by unfold addE; simp [HE.out, he0])
    have hi : (e == 0) = false := by simp [he0]
    have hj : (e != 0) = true := by simp [he0]
    clear he he0
    go_enter Try.func59, Try.ntmps59
    go_wp2_with (first | (go_at_call 23; (with_reducible refine (rccheck_is c _ _ _ _ _ _ _ _ hm.v _ _ HE.out (hx.at H (by repeat (first | exact List.Sublist.refl _ | apply List.Sublist.cons)))).mono ?_); rintro e w1 ⟨v, rfl, hr⟩; obtain ⟨rfl, hb1⟩ := hr; replace H := H.grow hb1; clear hb1) | (with_reducible refine wpl rfl (dQ 5 rfl ?_); with_reducible refine (Stp.box 5 rfl rfl rfl H ?_); clear H; intro g5 w1 H; simp only [pS]; simp only [pE, nC, pS] at H) | (with_reducible refine wpl rfl (ldQ (ty := 36) rfl ?_); first | (with_reducible refine (Stp.ldor rfl agg36 size36 rfl H (by assumption) sZ (by assumption) ?_); simp only [pS]) | (with_reducible refine (Stp.ldr rfl agg36 size36 rfl H mR sZ ?_); simp only [pS]) | (with_reducible refine (Stp.ldl rfl agg36 size36 rfl H mR (by simp) ?_); simp only [pS]; simp only [List.drop_succ_cons, List.drop_zero, List.take_succ_cons, List.take_zero])) | (with_reducible refine wpl rfl (ldQ (ty := 26) rfl ?_); first | (with_reducible refine (Stp.ldo rfl agg26 rfl H (by assumption) (by assumption) ?_); simp only [pS]) | (with_reducible refine (Stp.ldc rfl agg26 rfl H mR cE ?_); simp only [pS])) | (with_reducible refine wpl rfl (ldQ (ty := 63) rfl ?_); first | (with_reducible refine (Stp.ldo rfl agg63 rfl H (by assumption) (by assumption) ?_); simp only [pS]) | (with_reducible refine (Stp.ldc rfl agg63 rfl H mR cE ?_); simp only [pS])) | (with_reducible refine wpl rfl (stQ (ty := 26) rfl ?_); first | (with_reducible refine (Stp.stc rfl size26 rfl rfl rfl rfl H uP (by first | omega | (simp; done) | (simp; omega)) ?_); clear H; intro w1 H; simp only [pS]; simp only [pE, nC, pS] at H)))
    go_ret
    exact ⟨_, rfl, by rw [HV.out]; rfl, .inr ⟨by rw [HV.out]; omega, xa, xc, by rw [HKN.out]; exact H.sub sU⟩⟩
theorem plc_hit {ap n s slot k : Nat} (h : s + n = ap + 1) (hk : k < n) (he : s + k = slot) : plc ap n slot = some k := by
  unfold plc; rw [if_pos (by omega)]; congr 1; omega
theorem plc_miss {ap n s slot : Nat} (h : s + n = ap + 1) (hk : ∀ k, k < n → s + k ≠ slot) : plc ap n slot = none := by
  unfold plc
  by_cases h0 : slot ≤ ap ∧ ap - slot < n
  · exact absurd (show s + (n - 1 - (ap - slot)) = slot by omega) (hk _ (by omega))
  · rw [if_neg h0]
set_option maxRecDepth 100000 in
set_option maxHeartbeats 4000000 in
theorem rlget_ok {B : Nat} {w0 : World} {L : List Res} (gx ap slot s : Nat) (ks : List (Cm × Hd)) (hn : ks.length ≤ 64) (hsl : s + ks.length = ap + 1) (w : World) (H0 : XlSt B w0 w gx ap s ks L) :
    Calls Try.prog 61 #[.pointer (some ⟨gx, 0, none⟩), .int .u64 (slot : Int)] w (Ret fun v w' => ((plc ap ks.length slot = none ∧ v = .tuple #[.agg #[.int .i64 0, .int .u16 0, .int .u32 0, .int .u64 0, .int .u64 0, .slice none 0 0, .int .u64 0, .slice none 0 0, .slice none 0 0, .slice none 0 0], .int .i64 8]) ∨ (∃ k p, plc ap ks.length slot = some k ∧ ks[k]? = some p ∧ v = .tuple #[.agg (cmH p.1 p.2), .int .i64 0])) ∧ XlSt B w0 w' gx ap s ks L) := by
  obtain ⟨xa, xc, H⟩ := H0
  obtain ⟨n, hkn⟩ : ∃ n, ks.length = n := ⟨_, rfl⟩
  have HKN := Lib.hid hkn
  rw [hkn] at H hn hsl ⊢
  clear hkn
  go_enter Try.func61, Try.ntmps61
  go_wp2_with (first | (with_reducible refine wpl rfl (dQ 4 rfl ?_); with_reducible refine (Stp.alloc 4 rfl rfl zero36 H ?_); clear H; intro g4 w1 H; simp only [pS]; simp only [nC] at H) | (with_reducible refine wpl rfl (ldQ (ty := 63) rfl ?_); first | (with_reducible refine (Stp.ldo rfl agg63 rfl H (by assumption) (by assumption) ?_); simp only [pS]) | (with_reducible refine (Stp.ldc rfl agg63 rfl H mR cE ?_); simp only [pS])) | (with_reducible refine wpl rfl (ldQ (ty := 26) rfl ?_); first | (with_reducible refine (Stp.ldo rfl agg26 rfl H (by assumption) (by assumption) ?_); simp only [pS]) | (with_reducible refine (Stp.ldc rfl agg26 rfl H mR cE ?_); simp only [pS])) | (with_reducible refine wpl rfl (ldQ (ty := 36) rfl ?_); first | (with_reducible refine (Stp.ldor rfl agg36 size36 rfl H (by assumption) sZ (by assumption) ?_); simp only [pS]) | (with_reducible refine (Stp.ldr rfl agg36 size36 rfl H mR sZ ?_); simp only [pS]) | (with_reducible refine (Stp.ldl rfl agg36 size36 rfl H mR (by simp) ?_); simp only [pS]; simp only [List.drop_succ_cons, List.drop_zero, List.take_succ_cons, List.take_zero])) | (with_reducible refine wpl rfl (stQ (ty := 36) rfl ?_); first | (with_reducible refine (Stp.str rfl size36 rfl rfl (by first | rfl | (simp [Value.oneCell']; done) | assumption) H uP sZ sZ ?_); clear H; intro w1 H; simp only [pS]) | (with_reducible refine (Stp.stl rfl size36 rfl rfl rfl rfl H uP (by simp) ?_); clear H; intro w1 H; simp only [pS]; simp only [List.drop_succ_cons, List.drop_zero, List.take_succ_cons, List.take_zero, List.nil_append, List.cons_append, Nat.reduceAdd] at H)))
  go_loopw [6] (fun i wr => ∃ k : Nat, k ≤ n ∧ i = .int .i64 (k : Int) ∧ Hid (∀ j, j < k → s + j ≠ slot) ∧ St B w0 wr (row 36 g4 #[.int .i64 0, .int .u16 0, .int .u32 0, .int .u64 0, .int .u64 0, .slice none 0 0, .int .u64 0, .slice none 0 0, .slice none 0 0, .slice none 0 0] :: row 65 gx #[.int .u64 (ap : Int), .slice xa n xc] :: slo 116 11 (.slice xa n xc) n (ov s ks) :: L)) (fun i _ => n - (intOf i).toNat)
  case atStart => exact ⟨0, Nat.zero_le _, rfl, Lib.hid (by intro j hj; omega), H⟩
  case round =>
    clear H
    obtain ⟨k, hk, rfl, HM, H⟩ := hrel
    by_cases hlt : k < n
    · obtain ⟨gk, ok, rfl⟩ := H.slo_addr (e := 116) (size := 11) (xs := ov s ks) mE (by omega)
      have hkl : k < ks.length := by rw [HKN.out]; exact hlt
      have hgk : ks[k]? = some ks[k] := List.getElem?_eq_getElem hkl
      obtain ⟨p, hpk⟩ : ∃ p, ks[k] = p := ⟨_, rfl⟩
      rw [hpk] at hgk
      obtain ⟨c, h⟩ := p
      obtain ⟨h0, h1⟩ := ov_get ks s k _ hgk
      obtain ⟨sk, hsk⟩ : ∃ sk, s + k = sk := ⟨_, rfl⟩
      rw [hsk] at h0
      have HC0 := Lib.hid h0
      have HC1 := Lib.hid h1
      have HGK := Lib.hid hgk
      have HSK := Lib.hid hsk
      have kni : (k : Int) < (n : Int) := by omega
      clear h0 h1 hgk hpk hsk
      by_cases hq : sk = slot
      · have hqi : ((sk : Int) == (slot : Int)) = true := by simp [hq]
        have HP := Lib.hid (plc_hit hsl hlt (HSK.out.trans hq))
        clear hq
        go_wp2_with (first | (with_reducible refine wpl rfl (Stp.loc (d := k * 11) rfl agg26 rfl H mE HC0.out ?_); simp only [pS]) | (with_reducible refine wpl rfl (Stp.loa (cs := #[.int .i64 c.kind, .int .u16 (c.fr.1 : Int), .int .u32 (c.fr.2 : Int), .int .u64 (c.num : Int), .int .u64 (c.vw : Int), .slice h.ba c.data.length h.bc, .int .u64 (c.v.id : Int), .slice h.ma c.v.mem.length h.mc, .slice h.la c.v.lvs.length h.lc, .slice h.da c.v.ldr.length h.dc]) (d := k * 11 + 1) rfl agg36 size36 rfl H mE HC1.out rfl ?_); simp only [pS]) | (with_reducible refine wpl rfl (dQ 4 rfl ?_); with_reducible refine (Stp.alloc 4 rfl rfl zero36 H ?_); clear H; intro g4 w1 H; simp only [pS]; simp only [nC] at H) | (with_reducible refine wpl rfl (ldQ (ty := 63) rfl ?_); first | (with_reducible refine (Stp.ldo rfl agg63 rfl H (by assumption) (by assumption) ?_); simp only [pS]) | (with_reducible refine (Stp.ldc rfl agg63 rfl H mR cE ?_); simp only [pS])) | (with_reducible refine wpl rfl (ldQ (ty := 26) rfl ?_); first | (with_reducible refine (Stp.ldo rfl agg26 rfl H (by assumption) (by assumption) ?_); simp only [pS]) | (with_reducible refine (Stp.ldc rfl agg26 rfl H mR cE ?_); simp only [pS])) | (with_reducible refine wpl rfl (ldQ (ty := 36) rfl ?_); first | (with_reducible refine (Stp.ldor rfl agg36 size36 rfl H (by assumption) sZ (by assumption) ?_); simp only [pS]) | (with_reducible refine (Stp.ldr rfl agg36 size36 rfl H mR sZ ?_); simp only [pS]) | (with_reducible refine (Stp.ldl rfl agg36 size36 rfl H mR (by simp) ?_); simp only [pS]; simp only [List.drop_succ_cons, List.drop_zero, List.take_succ_cons, List.take_zero])) | (with_reducible refine wpl rfl (stQ (ty := 36) rfl ?_); first | (with_reducible refine (Stp.str rfl size36 rfl rfl (by first | rfl | (simp [Value.oneCell']; done) | assumption) H uP sZ sZ ?_); clear H; intro w1 H; simp only [pS]) | (with_reducible refine (Stp.stl rfl size36 rfl rfl rfl rfl H uP (by simp) ?_); clear H; intro w1 H; simp only [pS]; simp only [List.drop_succ_cons, List.drop_zero, List.take_succ_cons, List.take_zero, List.nil_append, List.cons_append, Nat.reduceAdd] at H)))
        exact post_row2 rfl agg36 size36 rfl H mE rfl rfl ⟨_, rfl, .inr ⟨k, HP.out, c, h, HGK.out, rfl⟩, some ⟨gk, ok, none⟩, xc, by rw [HKN.out]; exact H.sub sU⟩
      · have hqi : ((sk : Int) == (slot : Int)) = false := by simp; omega
        have HQ := Lib.hid hq
        clear hq
        go_wp2_with (first | (with_reducible refine wpl rfl (Stp.loc (d := k * 11) rfl agg26 rfl H mE HC0.out ?_); simp only [pS]) | (with_reducible refine wpl rfl (Stp.loa (cs := #[.int .i64 c.kind, .int .u16 (c.fr.1 : Int), .int .u32 (c.fr.2 : Int), .int .u64 (c.num : Int), .int .u64 (c.vw : Int), .slice h.ba c.data.length h.bc, .int .u64 (c.v.id : Int), .slice h.ma c.v.mem.length h.mc, .slice h.la c.v.lvs.length h.lc, .slice h.da c.v.ldr.length h.dc]) (d := k * 11 + 1) rfl agg36 size36 rfl H mE HC1.out rfl ?_); simp only [pS]) | (with_reducible refine wpl rfl (dQ 4 rfl ?_); with_reducible refine (Stp.alloc 4 rfl rfl zero36 H ?_); clear H; intro g4 w1 H; simp only [pS]; simp only [nC] at H) | (with_reducible refine wpl rfl (ldQ (ty := 63) rfl ?_); first | (with_reducible refine (Stp.ldo rfl agg63 rfl H (by assumption) (by assumption) ?_); simp only [pS]) | (with_reducible refine (Stp.ldc rfl agg63 rfl H mR cE ?_); simp only [pS])) | (with_reducible refine wpl rfl (ldQ (ty := 26) rfl ?_); first | (with_reducible refine (Stp.ldo rfl agg26 rfl H (by assumption) (by assumption) ?_); simp only [pS]) | (with_reducible refine (Stp.ldc rfl agg26 rfl H mR cE ?_); simp only [pS])) | (with_reducible refine wpl rfl (ldQ (ty := 36) rfl ?_); first | (with_reducible refine (Stp.ldor rfl agg36 size36 rfl H (by assumption) sZ (by assumption) ?_); simp only [pS]) | (with_reducible refine (Stp.ldr rfl agg36 size36 rfl H mR sZ ?_); simp only [pS]) | (with_reducible refine (Stp.ldl rfl agg36 size36 rfl H mR (by simp) ?_); simp only [pS]; simp only [List.drop_succ_cons, List.drop_zero, List.take_succ_cons, List.take_zero])) | (with_reducible refine wpl rfl (stQ (ty := 36) rfl ?_); first | (with_reducible refine (Stp.str rfl size36 rfl rfl (by first | rfl | (simp [Value.oneCell']; done) | assumption) H uP sZ sZ ?_); clear H; intro w1 H; simp only [pS]) | (with_reducible refine (Stp.stl rfl size36 rfl rfl rfl rfl H uP (by simp) ?_); clear H; intro w1 H; simp only [pS]; simp only [List.drop_succ_cons, List.drop_zero, List.take_succ_cons, List.take_zero, List.nil_append, List.cons_append, Nat.reduceAdd] at H)))
        go_roundw
        case rel => exact ⟨k + 1, by omega, by go_num, Lib.hid (fun j hj => by
          by_cases hjk : j = k
          · rw [hjk, HSK.out]; exact HQ.out
          · exact HM.out j (by omega)), H⟩
        case measure => simp [intOf]; omega
    · obtain rfl : k = n := by omega
      have HP := Lib.hid (plc_miss hsl HM.out)
      go_wp2_with (first | (with_reducible refine wpl rfl (dQ 34 rfl ?_); with_reducible refine (Stp.build (v := (.agg #[.int .i64 0, .int .u16 0, .int .u32 0, .int .u64 0, .int .u64 0, .slice none 0 0, .int .u64 0, .slice none 0 0, .slice none 0 0, .slice none 0 0])) 34 rfl rfl (fun W => by kernel_rfl) ?_); simp only [pS]) | (with_reducible refine wpl rfl (dQ 4 rfl ?_); with_reducible refine (Stp.alloc 4 rfl rfl zero36 H ?_); clear H; intro g4 w1 H; simp only [pS]; simp only [nC] at H) | (with_reducible refine wpl rfl (ldQ (ty := 63) rfl ?_); first | (with_reducible refine (Stp.ldo rfl agg63 rfl H (by assumption) (by assumption) ?_); simp only [pS]) | (with_reducible refine (Stp.ldc rfl agg63 rfl H mR cE ?_); simp only [pS])) | (with_reducible refine wpl rfl (ldQ (ty := 26) rfl ?_); first | (with_reducible refine (Stp.ldo rfl agg26 rfl H (by assumption) (by assumption) ?_); simp only [pS]) | (with_reducible refine (Stp.ldc rfl agg26 rfl H mR cE ?_); simp only [pS])) | (with_reducible refine wpl rfl (ldQ (ty := 36) rfl ?_); first | (with_reducible refine (Stp.ldor rfl agg36 size36 rfl H (by assumption) sZ (by assumption) ?_); simp only [pS]) | (with_reducible refine (Stp.ldr rfl agg36 size36 rfl H mR sZ ?_); simp only [pS]) | (with_reducible refine (Stp.ldl rfl agg36 size36 rfl H mR (by simp) ?_); simp only [pS]; simp only [List.drop_succ_cons, List.drop_zero, List.take_succ_cons, List.take_zero])) | (with_reducible refine wpl rfl (stQ (ty := 36) rfl ?_); first | (with_reducible refine (Stp.str rfl size36 rfl rfl (by first | rfl | (simp [Value.oneCell']; done) | assumption) H uP sZ sZ ?_); clear H; intro w1 H; simp only [pS]) | (with_reducible refine (Stp.stl rfl size36 rfl rfl rfl rfl H uP (by simp) ?_); clear H; intro w1 H; simp only [pS]; simp only [List.drop_succ_cons, List.drop_zero, List.take_succ_cons, List.take_zero, List.nil_append, List.cons_append, Nat.reduceAdd] at H)))
      exact post_row2 rfl agg36 size36 rfl H mE rfl rfl ⟨_, rfl, .inl ⟨HP.out, rfl⟩, xa, xc, by rw [HKN.out]; exact H.sub sU⟩
theorem cut_is {ap n s st : Nat} (h : s + n = ap + 1) : cutN ap n st = min n (st + 1 - s) := by
  unfold cutN plc
  have : ap + 1 - n = s := by omega
  rw [this]
  by_cases h1 : st < s
  · rw [if_pos h1]; omega
  · rw [if_neg h1]
    by_cases h2 : st ≤ ap ∧ ap - st < n
    · rw [if_pos h2]; show n - 1 - (ap - st) + 1 = _; omega
    · rw [if_neg h2]; show n = _; omega
set_option maxRecDepth 100000 in
set_option maxHeartbeats 4000000 in
theorem rlcut_ok {B : Nat} {w0 : World} {L : List Res} (gx ap st s : Nat) (ks : List (Cm × Hd)) (hn : ks.length ≤ 64) (hsl : s + ks.length = ap + 1) (w : World) (H0 : XlSt B w0 w gx ap s ks L) :
    Calls Try.prog 60 #[.pointer (some ⟨gx, 0, none⟩), .int .u64 (st : Int)] w (Ret fun v w' => v = .int .i64 ((cutN ap ks.length st : Nat) : Int) ∧ XlSt B w0 w' gx ap (s + cutN ap ks.length st) (ks.drop (cutN ap ks.length st)) L) := by
  obtain ⟨xa, xc, H⟩ := H0
  obtain ⟨n, hkn⟩ : ∃ n, ks.length = n := ⟨_, rfl⟩
  have HKN := Lib.hid hkn
  rw [hkn] at H hn hsl ⊢
  have HCT := Lib.hid (cut_is (st := st) hsl)
  clear hkn
  go_enter Try.func60, Try.ntmps60
  go_wp2_with (first | (with_reducible refine wpl rfl (ldQ (ty := 63) rfl ?_); first | (with_reducible refine (Stp.ldo rfl agg63 rfl H (by assumption) (by assumption) ?_); simp only [pS]) | (with_reducible refine (Stp.ldc rfl agg63 rfl H mR cE ?_); simp only [pS])) | (with_reducible refine wpl rfl (ldQ (ty := 26) rfl ?_); first | (with_reducible refine (Stp.ldo rfl agg26 rfl H (by assumption) (by assumption) ?_); simp only [pS]) | (with_reducible refine (Stp.ldc rfl agg26 rfl H mR cE ?_); simp only [pS])) | (with_reducible refine wpl rfl (stQ (ty := 63) rfl ?_); first | (with_reducible refine (Stp.stc rfl size63 rfl rfl rfl rfl H uP (by first | omega | (simp; done) | (simp; omega)) ?_); clear H; intro w1 H; simp only [pS]; simp only [pE, nC, pS] at H)))
  go_loopw [5] (fun i wr => ∃ (k : Nat) (xa : Option Addr) (xc : Nat), k ≤ n ∧ k ≤ st + 1 - s ∧ i = .int .i64 (k : Int) ∧ St B w0 wr (row 65 gx #[.int .u64 (ap : Int), .slice xa (n - k) xc] :: slo 116 11 (.slice xa (n - k) xc) (n - k) (ov (s + k) (ks.drop k)) :: L)) (fun i _ => n - (intOf i).toNat)
  case atStart => exact ⟨0, xa, xc, Nat.zero_le _, Nat.zero_le _, rfl, H⟩
  case round =>
    clear H
    obtain ⟨k, xa, xc, hk, hks, rfl, H⟩ := hrel
    obtain ⟨m, hm⟩ : ∃ m, n - k = m := ⟨_, rfl⟩
    rw [hm] at H
    have HM := Lib.hid hm
    by_cases hlt : k < n
    · have hm0 : 0 < m := by omega
      have hcap := H.slo_cap (e := 116) (size := 11) (xs := ov (s + k) (ks.drop k)) mE
      obtain ⟨gk, ok, rfl⟩ := H.slo_addr (e := 116) (size := 11) (xs := ov (s + k) (ks.drop k)) mE (by omega)
      have hkl : k < ks.length := by rw [HKN.out]; exact hlt
      have hgk : (ks.drop k)[0]? = some ks[k] := by rw [List.getElem?_drop]; exact List.getElem?_eq_getElem hkl
      obtain ⟨h0, h1⟩ := ov_get (ks.drop k) (s + k) 0 _ hgk
      obtain ⟨sk, hsk⟩ : ∃ sk, s + k = sk := ⟨_, rfl⟩
      obtain ⟨V, hV⟩ : ∃ V, ov (s + k) (ks.drop k) = V := ⟨_, rfl⟩
      rw [hV] at h0 H
      rw [Nat.zero_mul, Nat.add_zero, hsk] at h0
      have HC0 := Lib.hid h0
      have HVV := Lib.hid hV
      have HSK := Lib.hid hsk
      have mi : (0 : Int) < (m : Int) := by omega
      clear h0 h1 hgk hV hm
      by_cases hq : sk ≤ st
      · have hqi : (sk : Int) ≤ (st : Int) := by omega
        clear hsk
        go_wp2_with (first | (with_reducible refine wpl rfl (Stp.loc (d := 0) rfl agg26 rfl H mE HC0.out ?_); simp only [pS]) | (with_reducible refine wpl rfl (dQ 28 rfl ?_); with_reducible refine (Stp.slfromN (k := 1) (size := 11) 28 rfl rfl Try.underlying63 size116 rfl rfl rfl (by omega) ?_); intro A28 hA28; have H28 := Lib.hid hA28; clear hA28; simp only [pS]) | (with_reducible refine wpl rfl (ldQ (ty := 63) rfl ?_); first | (with_reducible refine (Stp.ldo rfl agg63 rfl H (by assumption) (by assumption) ?_); simp only [pS]) | (with_reducible refine (Stp.ldc rfl agg63 rfl H mR cE ?_); simp only [pS])) | (with_reducible refine wpl rfl (ldQ (ty := 26) rfl ?_); first | (with_reducible refine (Stp.ldo rfl agg26 rfl H (by assumption) (by assumption) ?_); simp only [pS]) | (with_reducible refine (Stp.ldc rfl agg26 rfl H mR cE ?_); simp only [pS])) | (with_reducible refine wpl rfl (stQ (ty := 63) rfl ?_); first | (with_reducible refine (Stp.stc rfl size63 rfl rfl rfl rfl H uP (by first | omega | (simp; done) | (simp; omega)) ?_); clear H; intro w1 H; simp only [pS]; simp only [pE, nC, pS] at H)))
        have H2 := St.slo_drop (k := 1) (a' := A28) (H.pull (r := slo 116 11 (.slice (some ⟨gk, ok, none⟩) m xc) m V) pU) Upd.head (by omega) H28.out
        go_roundw
        case rel =>
          have hs1 := HSK.out
          have hm1 := HM.out
          refine ⟨k + 1, A28, xc - 1, by omega, by omega, by go_num, ?_⟩
          have hd : ov (s + (k + 1)) (ks.drop (k + 1)) = V.drop (1 * 11) := by rw [← HVV.out, ov_drop, List.drop_drop]; rfl
          rw [hd, show n - (k + 1) = m - 1 by omega]
          exact ((H2.pull (r := slo 116 11 _ _ _) pU).pull (r := row 65 gx _) pU).sub sU
        case measure => simp [intOf]; omega
      · have hqi : ¬ (sk : Int) ≤ (st : Int) := by omega
        have HC : Hid (cutN ap n st = k) := Lib.hid (by rw [HCT.out]; omega)
        clear hsk
        go_wp2_with (first | (with_reducible refine wpl rfl (Stp.loc (d := 0) rfl agg26 rfl H mE HC0.out ?_); simp only [pS]) | (with_reducible refine wpl rfl (ldQ (ty := 63) rfl ?_); first | (with_reducible refine (Stp.ldo rfl agg63 rfl H (by assumption) (by assumption) ?_); simp only [pS]) | (with_reducible refine (Stp.ldc rfl agg63 rfl H mR cE ?_); simp only [pS])) | (with_reducible refine wpl rfl (ldQ (ty := 26) rfl ?_); first | (with_reducible refine (Stp.ldo rfl agg26 rfl H (by assumption) (by assumption) ?_); simp only [pS]) | (with_reducible refine (Stp.ldc rfl agg26 rfl H mR cE ?_); simp only [pS])) | (with_reducible refine wpl rfl (stQ (ty := 63) rfl ?_); first | (with_reducible refine (Stp.stc rfl size63 rfl rfl rfl rfl H uP (by first | omega | (simp; done) | (simp; omega)) ?_); clear H; intro w1 H; simp only [pS]; simp only [pE, nC, pS] at H)))
        go_ret
        refine ⟨_, rfl, by rw [HC.out]; rfl, some ⟨gk, ok, none⟩, xc, ?_⟩
        rw [HC.out, List.length_drop, HKN.out, HM.out, HVV.out]
        exact H.sub sU
    · obtain rfl : k = n := by omega
      have hm0 : m = 0 := by omega
      subst hm0
      have HC : Hid (cutN ap k st = k) := Lib.hid (by rw [HCT.out]; omega)
      clear hm
      go_wp2_with (first | (with_reducible refine wpl rfl (ldQ (ty := 63) rfl ?_); first | (with_reducible refine (Stp.ldo rfl agg63 rfl H (by assumption) (by assumption) ?_); simp only [pS]) | (with_reducible refine (Stp.ldc rfl agg63 rfl H mR cE ?_); simp only [pS])) | (with_reducible refine wpl rfl (ldQ (ty := 26) rfl ?_); first | (with_reducible refine (Stp.ldo rfl agg26 rfl H (by assumption) (by assumption) ?_); simp only [pS]) | (with_reducible refine (Stp.ldc rfl agg26 rfl H mR cE ?_); simp only [pS])) | (with_reducible refine wpl rfl (stQ (ty := 63) rfl ?_); first | (with_reducible refine (Stp.stc rfl size63 rfl rfl rfl rfl H uP (by first | omega | (simp; done) | (simp; omega)) ?_); clear H; intro w1 H; simp only [pS]; simp only [pE, nC, pS] at H)))
      go_ret
      refine ⟨_, rfl, by rw [HC.out]; rfl, xa, xc, ?_⟩
      rw [HC.out, List.length_drop, HKN.out, HM.out]
      exact H.sub sU
end Go.Proofs.Ytmokecicjmjkbaa
namespace Go.Proofs.Ytmokecicjmjkbaa
set_option linter.unusedVariables false
set_option linter.unusedSimpArgs false
theorem getD_rk {m : List Pr} {p : Pr} (h : p ∈ m) : rkN m p < m.length ∧ m.getD (rkN m p) (0, 0) = p := by
  unfold rkN
  cases hr : rank m p with
  | none => exact absurd h (rank_none.1 hr)
  | some k =>
    obtain ⟨hk, e⟩ := rank_lt hr
    refine ⟨hk, ?_⟩
    show m.getD k (0, 0) = p
    rw [← e]
    simp [List.getD, hk]
theorem plcL_back {m : List Pr} (hm : m ≠ []) (hm24 : m.length ≤ 1000) : ∀ (l acc : List Pr) (r : List Nat), (∀ p ∈ l, p ∈ m) → plcL m l.length (acc, ((l.flatMap fun p => shortB (rkN m p)) ++ r, 0)) = (acc ++ l, (r, 0))
  | [], acc, r, h => by simp [plcL]
  | p :: l, acc, r, h => by
    obtain ⟨h1, h2⟩ := getD_rk (h p List.mem_cons_self)
    rw [List.length_cons]
    unfold plcL
    rw [if_neg (by simp), if_neg hm]
    simp only [List.flatMap_cons, List.append_assoc]
    rw [numF_back (most := m.length - 1) (n := rkN m p) (by omega) (by omega)]
    simp only
    rw [h2, plcL_back hm hm24 l _ r (fun q hq => h q (List.mem_cons_of_mem _ hq))]
    simp
theorem plcF_back {m l : List Pr} (hm : m ≠ []) (hm24 : m.length ≤ 1000) (hl : l.length ≤ 24) (h : ∀ p ∈ l, p ∈ m) (r : List Nat) : plcF m (rkB m l ++ r, 0) = (l, (r, 0)) := by
  unfold plcF rkB
  rw [List.append_assoc, numF_back (by omega) hl]
  simp only
  rw [plcL_back hm hm24 l [] r h, List.nil_append]
theorem lvsL_back {m : List Pr} (hm : m ≠ []) (hm24 : m.length ≤ 1000) : ∀ (ls acc : List (List Pr)) (r : List Nat), (∀ l ∈ ls, l.length ≤ 24 ∧ ∀ p ∈ l, p ∈ m) → lvsL m ls.length (acc, ((ls.flatMap fun l => rkB m l) ++ r, 0)) = (acc ++ ls, (r, 0))
  | [], acc, r, h => by simp [lvsL]
  | l :: ls, acc, r, h => by
    obtain ⟨h1, h2⟩ := h l List.mem_cons_self
    rw [List.length_cons]
    unfold lvsL
    rw [if_neg (by simp)]
    simp only [List.flatMap_cons, List.append_assoc]
    rw [plcF_back hm hm24 h1 h2]
    simp only
    rw [lvsL_back hm hm24 ls _ r (fun q hq => h q (List.mem_cons_of_mem _ hq))]
    simp
theorem vOk_each {x : Vw} (h : vOk x = true) : x.mem ≠ [] ∧ x.mem.length ≤ 24 ∧ x.lvs.length ≤ 24 ∧ x.ldr.length ≤ 24 ∧ (∀ l ∈ x.lvs, l.length ≤ 24 ∧ ∀ p ∈ l, p ∈ x.mem) ∧ ∀ p ∈ x.ldr, p ∈ x.mem := by
  obtain ⟨h1, h2, h3, h4, h5, h6, h7, h8, h9⟩ := vOk_parts h
  have hm : 0 < x.mem.length ∧ x.mem.length ≤ 24 := by
    simp only [memOk, Bool.and_eq_true, decide_eq_true_eq] at h3
    exact ⟨h3.1.2, h3.2⟩
  have hl := lvOk_len h4
  have hd := risB_len h9
  refine ⟨List.length_pos_iff.1 hm.1, hm.2, by omega, by omega, fun l hl => ?_, risB_mem h9⟩
  have := List.all_eq_true.1 h4 l hl
  simp only [Bool.and_eq_true] at this
  have h10 := risB_len this.2
  exact ⟨by omega, risB_mem this.2⟩
theorem vwF_back {x : Vw} (h : vOk x = true) (hw : wfV x) (r : List Nat) : vwF (vwB x ++ r, 0) = (x, (r, 0)) := by
  obtain ⟨hm, h24, hl, hd, he, hr⟩ := vOk_each h
  obtain ⟨h1, h2, _⟩ := vOk_parts h
  have hR : vwR (vwB x ++ r, 0) = (x, (r, 0)) := by
    unfold vwR vwB
    simp only [List.append_assoc]
    rw [numF_back (n := x.id) (by omega) h2]
    simp only
    rw [pidsF_back x.mem _ hw.mem h24 (by omega)]
    simp only
    rw [numF_back (n := x.lvs.length) (by omega) hl]
    simp only
    rw [lvsL_back hm (by omega) x.lvs [] _ he]
    simp only
    rw [plcF_back hm (by omega) hd hr]
    simp
  unfold vwF
  simp only [hR, h]
  unfold mayE
  simp
theorem cmF_back {c : Cm} (h : cErr c = 0) (hw : wfC c) (r : List Nat) : cmF (cmB c ++ r, 0) = (c, (r, 0)) := by
  have ho := cErr_only h
  have hR : cmR (cmB c ++ r, 0) = (c, (r, 0)) := by
    rcases cErr_kind h with hk | ⟨hk, h1, h2, h3⟩ | ⟨hk, hv⟩
    · have e : only c = ⟨c.kind, (0, 0), 0, 0, [], vw0⟩ := by unfold only; rw [if_neg (by rw [hk]; decide), if_neg (by rw [hk]; decide)]
      have hB : cmB c = shortB 1 := by unfold cmB; rw [hk, if_neg (by decide), if_neg (by decide), List.append_nil]; rfl
      rw [hB]
      unfold cmR
      rw [numF_back (n := 1) (by decide) (by decide)]
      simp only
      rw [if_neg (by decide), if_neg (by decide), ho, e, hk]
      rfl
    · have e : only c = ⟨c.kind, c.fr, c.num, c.vw, c.data, vw0⟩ := by unfold only; rw [if_pos hk]
      have hd := cErr_data h
      unfold cnt at h2 h3
      simp only [Bool.and_eq_true, decide_eq_true_eq] at h2 h3
      have hB : cmB c = shortB 2 ++ (pidB c.fr.1 c.fr.2 ++ shortB c.num ++ shortB c.vw ++ (shortB c.data.length ++ c.data)) := by unfold cmB; rw [hk, if_pos rfl]; rfl
      rw [hB]
      unfold cmR
      simp only [List.append_assoc]
      rw [numF_back (n := 2) (by decide) (by decide)]
      simp only
      rw [if_pos (by simp), pidF_back hw.fr1 hw.fr2]
      simp only
      rw [numF_back (n := c.num) (by omega) h2.2]
      simp only
      rw [numF_back (n := c.vw) (by omega) h3.2]
      simp only
      rw [bytesF_back c.data r hd (by omega)]
      simp only
      have e2 : c = ⟨2, c.fr, c.num, c.vw, c.data, vw0⟩ := by rw [← hk, ← e]; exact ho
      rw [← e2]
    · have e : only c = ⟨c.kind, (0, 0), 0, 0, [], c.v⟩ := by unfold only; rw [if_neg (by rw [hk]; decide), if_pos hk]
      have hB : cmB c = shortB 3 ++ vwB c.v := by unfold cmB; rw [hk, if_neg (by decide), if_pos rfl]; rfl
      rw [hB]
      unfold cmR
      simp only [List.append_assoc]
      rw [numF_back (n := 3) (by decide) (by decide)]
      simp only
      rw [if_neg (by simp), if_pos (by simp), vwF_back hv hw.v]
      simp only
      have e2 : c = ⟨3, (0, 0), 0, 0, [], c.v⟩ := by rw [← hk, ← e]; exact ho
      rw [← e2]
  unfold cmF
  simp only [hR, h]
  unfold mayE
  simp
theorem cmsL_back : ∀ (cs acc : List Cm) (r : List Nat), (∀ c ∈ cs, cErr c = 0 ∧ wfC c) → cmsL cs.length (acc, (cs.flatMap cmB ++ r, 0)) = (acc ++ cs, (r, 0))
  | [], acc, r, h => by simp [cmsL]
  | c :: cs, acc, r, h => by
    obtain ⟨h1, h2⟩ := h c List.mem_cons_self
    rw [List.length_cons]
    unfold cmsL
    rw [if_neg (by simp)]
    simp only [List.flatMap_cons, List.append_assoc]
    rw [cmF_back h1 h2]
    simp only
    rw [cmsL_back cs _ r (fun q hq => h q (List.mem_cons_of_mem _ hq))]
    simp
/-- A ledger that was laid is read as it was. -/
theorem lgF_back {a : Nat} {cs : List Cm} (ha : a ≤ 4611686018427387904) (h64 : cs.length ≤ 64) (hca : cs.length ≤ a) (h : ∀ c ∈ cs, cErr c = 0 ∧ wfC c) : lgF (lgB a cs) = ((a, cs), 0) := by
  have hR : lgR (lgB a cs) = ((a, cs), ([], 0)) := by
    unfold lgR lgB
    simp only [List.append_assoc]
    rw [numF_back (n := a) (by omega) ha]
    simp only
    rw [numF_back (n := cs.length) (by omega) h64]
    simp only
    rw [if_neg (by omega)]
    have := cmsL_back cs [] [] h
    rw [List.append_nil, List.nil_append] at this
    rw [this]
  unfold lgF
  simp only [hR]
  unfold endF
  simp
end Go.Proofs.Ytmokecicjmjkbaa
