/- Layer 29 (flat): the rule of counts (counted); no condition. -/
import Derived.Test.YtbepaafgcbgmfaaFz15
import Derived.Test.YtbepaafgcbgmfaaFz16
namespace Go.Proofs.Ytbepaafgcbgmfaa
open Go.ChangeShapes Go.WideShapes Go.ChangeAt Go.RowKit Go.Maps Go.Deep
set_option linter.unusedVariables false
set_option linter.unusedSimpArgs false
set_option linter.unusedSectionVars false
set_option maxRecDepth 100000
set_option maxHeartbeats 4000000
abbrev evC (n : Nat) : Value := .int .u64 (n : Int)
theorem mzU : ∀ W : World, (zeroValue 37).run Try.prog W = .ok (.int .u64 0) W := fun _ => by kernel_rfl
section
variable {α β : Type} [DecidableEq α] {P : Program} {ops : Array Oper} {k e t : TypeId} {ek : α → Value} {ev : β → Value} {a : Act} {w : World} {o : Oper} {N : Act → World → Prop} {B : Nat} {w0 : World} {L : List Res} {M : List (α × β)} {b st : Nat} {x y : Operand} {q : α} {l : Lit}
/-- A look-up between an entry that is taken and its store. -/
theorem Stp.lookE (ho : o.op = .lookup t x y false) (K : Keyed P k) (hi : ∀ x y, ek x = ek y → x = y) (ht : P.underlying t = some (.map k e)) {z : Value} (hz : ∀ W : World, (zeroValue e).run P W = .ok z W) (hx : a.eval x = .map (some b)) (hy : a.eval y = ek q) (ha : keyOf P k (ek q) = some l) (H : St B w0 w L)
    (hm : mape P k ek ev b M q st ∈ L) (h : N (a.put o.dst (((mget M q).map ev).getD z)) w) : Stp P o a w N := by
  have hM : MapAt P k ek ev b M w := by
    obtain ⟨es, clock, h1, h2, h3, h4, _⟩ := H.get hm
    exact ⟨es, clock, h1, h2, h3, h4⟩
  refine ⟨w, .inl ⟨_, ?_, h⟩⟩
  unfold execOp; simp only [ho, hx, hy]
  simp [run_look false K hi ht (hz w) hM ha]
theorem Yld.lookM (hw : Region.wanted o (yielded ops a.tmps) = true) (ho : o.op = .lookup t x y false) (K : Keyed P k) (hi : ∀ x y, ek x = ek y → x = y) (ht : P.underlying t = some (.map k e)) {z : Value} (hz : ∀ W : World, (zeroValue e).run P W = .ok z W) (hx : a.eval x = .map (some b)) (hy : a.eval y = ek q) (ha : keyOf P k (ek q) = some l)
    (hm : mapr P k ek ev b M ∈ L) {v : Value} (hv : ((mget M q).map ev).getD z = v) : YieldsIf P ops (fun W => St B w0 W L) o v a :=
  .inl ⟨hw, fun W H => by
    subst hv
    unfold execOp; simp only [ho, hx, hy]
    simp [run_look false K hi ht (hz W) (H.get hm) ha]⟩
end
/-- How many came from somebody. -/
def cntP (l : List Eh) (p : Pr) : Nat := (l.filter fun e => decide (e.1.p = p)).length
theorem cntP_snoc (l : List Eh) (e : Eh) (p : Pr) : cntP (l ++ [e]) p = cntP l p + (if e.1.p = p then 1 else 0) := by
  unfold cntP; rw [List.filter_append, List.length_append]; by_cases h : e.1.p = p <;> simp [h]
theorem cntP_le (l : List Eh) (p : Pr) : cntP l p ≤ l.length := List.length_filter_le _ _
/-- Does each bear its number? -/
def cntD (l : List Eh) : Bool := allN (fun i (e : Eh) => decide (e.1.n = cntP (l.take i) e.1.p + 1)) 0 l
theorem allN_iff {α : Type} (p : Nat → α → Bool) : ∀ (l : List α) (k : Nat), allN p k l = true ↔ ∀ i (h : i < l.length), p (k + i) l[i] = true
  | [], k => by simp [allN]
  | a :: l, k => by
    show (p k a && allN p (k + 1) l) = true ↔ _
    rw [Bool.and_eq_true, allN_iff p l (k + 1)]
    constructor
    · rintro ⟨h1, h2⟩ i hi
      cases i with
      | zero => exact h1
      | succ i => have := h2 i (by simpa using hi); rw [Nat.add_assoc, Nat.add_comm 1 i] at this; simpa using this
    · intro h
      refine ⟨by have := h 0 (by simp); simp only [Nat.add_zero, List.getElem_cons_zero] at this; exact this, fun i hi => ?_⟩
      have := h (i + 1) (by simpa using hi)
      rw [Nat.add_assoc, Nat.add_comm 1 i]
      simpa using this
theorem mget_ment {α β : Type} [DecidableEq α] (M : List (α × β)) (q : α) (z : β) : mget (ment M q z) q = some ((mget M q).getD z) := by
  unfold ment
  cases h : mget M q with
  | some u => simpa using h
  | none => rw [if_neg (by simp), ← mput_new h, mget_put_same]; rfl
theorem counted_ok (y : Sy) (r : Bool) (hr : cntD y.told = r) (w : World) (hy : SyW w y) :
    Calls Try.prog 43 #[.agg #[.int .u16 (y.p.1 : Int), .int .u32 (y.p.2 : Int), .int .u64 (y.e.1.x.id : Int), .slice y.e.2.ma y.e.1.x.mem.length y.e.2.mc, .slice y.e.2.la y.e.1.x.lvs.length y.e.2.lc, .slice y.e.2.da y.e.1.x.ldr.length y.e.2.dc, .slice y.aa y.all.length y.ac, .slice y.ta y.told.length y.tc, .bool y.fol]] w (Ret fun v w' => v = .bool r ∧ Below w.heap.size w w') := by
  have H := St.init w
  have hs := hy.told
  have hlt := hy.lt
  have HYW := Lib.hid hy
  obtain ⟨n, hn⟩ : ∃ n, y.told.length = n := ⟨_, rfl⟩
  have HN := Lib.hid hn
  have HR := Lib.hid hr
  rw [hn] at hs hlt ⊢
  obtain ⟨ta, hta⟩ : ∃ a, y.ta = a := ⟨_, rfl⟩
  rw [hta] at hs ⊢
  clear hn hr hy hta
  go_enter Try.func43, Try.ntmps43
  go_wp2_with (first | (with_reducible refine wpl rfl (Stp.mkmap 27 ekP evC 6 rfl rfl H ?_); clear H; intro g6 w1 H; simp only [pS]) | (with_reducible refine wpl rfl (dQ 1 rfl ?_); with_reducible refine (Stp.box 1 rfl rfl rfl H ?_); clear H; intro g1 w1 H; simp only [pS]; simp only [pE, nC, pS] at H) | (with_reducible refine wpl rfl (ldQ (ty := 22) rfl ?_); first | (with_reducible refine (Stp.ldo rfl agg22 rfl H (by assumption) (by assumption) ?_); simp only [pS]) | (with_reducible refine (Stp.ldc rfl agg22 rfl H mR cE ?_); simp only [pS])) | (with_reducible refine wpl rfl (ldQ (ty := 62) rfl ?_); first | (with_reducible refine (Stp.ldor rfl agg62 size62 rfl H (by assumption) sZ (by assumption) ?_); simp only [pS]) | (with_reducible refine (Stp.ldr rfl agg62 size62 rfl H mR sZ ?_); simp only [pS]) | (with_reducible refine (Stp.ldl rfl agg62 size62 rfl H mR (by simp) ?_); simp only [pS]; simp only [List.drop_succ_cons, List.drop_zero, List.take_succ_cons, List.take_zero])) | (with_reducible refine wpl rfl (dQ 5 rfl ?_); with_reducible refine (Stp.alloc 5 rfl rfl zero62 H ?_); clear H; intro g5 w1 H; simp only [pS]; simp only [nC] at H) | (with_reducible refine wpl rfl (stQ (ty := 62) rfl ?_); first | (with_reducible refine (Stp.str rfl size62 rfl rfl (by first | rfl | (simp [Value.oneCell']; done) | assumption) H uP sZ sZ ?_); clear H; intro w1 H; simp only [pS]) | (with_reducible refine (Stp.stl rfl size62 rfl rfl rfl rfl H uP (by simp) ?_); clear H; intro w1 H; simp only [pS]; simp only [List.drop_succ_cons, List.drop_zero, List.take_succ_cons, List.take_zero, List.nil_append, List.cons_append, Nat.reduceAdd] at H)))
  have H3 : ∃ L3, St w.heap.size w _ (mapr Try.prog 27 ekP evC g6 [] :: L3) := ⟨_, H⟩
  clear H
  obtain ⟨L3, H⟩ := H3
  go_loopw [10] (fun i wr => ∃ (q : Nat) (M : List (Pr × Nat)), q ≤ n ∧ i = .int .i64 q ∧ Hid (∀ p, (mget M p).getD 0 = cntP (y.told.take q) p) ∧ Hid (∀ i (h : i < y.told.length), i < q → y.told[i].1.n = cntP (y.told.take i) y.told[i].1.p + 1) ∧ St w.heap.size w wr (mapr Try.prog 27 ekP evC g6 M :: L3)) (fun i _ => n - (intOf i).toNat)
  case atStart => exact ⟨0, [], Nat.zero_le _, rfl, Lib.hid (fun p => by rw [List.take_zero]; rfl), Lib.hid (fun i h h0 => absurd h0 (Nat.not_lt_zero _)), H⟩
  case round =>
    clear H
    obtain ⟨q, M, hq, rfl, HM, HT, H⟩ := hrel
    by_cases hlt2 : q < n
    · have hl1 : q < y.told.length := by rw [HN.out]; exact hlt2
      obtain ⟨b1, o1, rfl, hb1⟩ := hs.addr (by omega)
      have hc1 := hs.cell hlt2
      rw [elE_at hl1] at hc1
      have hme := List.getElem_mem hl1
      have HTk := Lib.hid (List.take_succ_eq_append_getElem hl1)
      obtain ⟨⟨V, h⟩, hx⟩ : ∃ x, y.told[q] = x := ⟨_, rfl⟩
      have HX := Lib.hid hx
      rw [hx] at hc1 hme HTk
      simp only at hc1
      have qli : (q : Int) < (n : Int) := by omega
      have hwf := HYW.out.wf _ hme
      obtain ⟨kl, hkl⟩ := keyP V.p hwf.p1 hwf.p2
      have HKY := Lib.hid hkl
      obtain ⟨c0, hc0⟩ : ∃ c, cntP (y.told.take q) V.p = c := ⟨_, rfl⟩
      have hc0b : c0 ≤ 1000 := by have := cntP_le (y.told.take q) V.p; rw [hc0, List.length_take] at this; omega
      have HZ : Hid (((mget M V.p).map evC).getD (.int .u64 0) = .int .u64 (c0 : Int)) := Lib.hid (by
        have := HM.out V.p
        rw [hc0] at this
        cases hm : mget M V.p with
        | none => rw [hm] at this; subst this; rfl
        | some u => rw [hm] at this; subst this; rfl)
      have HZ2 : Hid (((mget (ment M V.p 0) V.p).map evC).getD (.int .u64 0) = .int .u64 (c0 : Int)) := Lib.hid (by
        rw [mget_ment, HM.out V.p, hc0]; rfl)
      obtain ⟨c1, hc1e⟩ : ∃ c, c0 + 1 = c := ⟨_, rfl⟩
      have HW : Hid (IntKind.u64.wrap ((c0 : Int) + 1) = (c1 : Int)) := Lib.hid (by rw [IntKind.wrap_u64]; omega)
      have HZ3 : Hid (((mget (mput M V.p c1) V.p).map evC).getD (.int .u64 0) = .int .u64 (c1 : Int)) := Lib.hid (by rw [mget_put_same]; rfl)
      have HM2 : Hid (∀ p, (mget (mput M V.p c1) p).getD 0 = cntP (y.told.take (q + 1)) p) := Lib.hid (fun p => by
        rw [HTk.out, cntP_snoc, mget_put]
        by_cases hp : p = V.p
        · subst hp; rw [if_pos rfl, if_pos rfl, hc0, hc1e]; rfl
        · rw [if_neg hp, if_neg (fun e => hp e.symm)]; exact HM.out p)
      have HQ : Hid (cntP (y.told.take q) V.p + 1 = c1) := Lib.hid (by rw [hc0]; exact hc1e)
      clear hkl hme hx hwf hc0 hc1e
      by_cases hne : V.n = c1
      · have hni : ((V.n : Int) != (c1 : Int)) = false := by simp [hne]
        have HT2 : Hid (∀ i (h : i < y.told.length), i < q + 1 → y.told[i].1.n = cntP (y.told.take i) y.told[i].1.p + 1) := Lib.hid (fun i h hi => by
          by_cases hiq : i = q
          · subst hiq; rw [HX.out]; simp only; rw [HQ.out]; exact hne
          · exact HT.out i h (by omega))
        clear hne
        go_wp2_with (first | (with_reducible refine wpl rfl (dQ 1 rfl ?_); with_reducible refine (Stp.box 1 rfl rfl rfl H ?_); clear H; intro g1 w1 H; simp only [pS]; simp only [pE, nC, pS] at H) | (with_reducible refine wpl rfl (ldQ (ty := 22) rfl ?_); first | (with_reducible refine (Stp.ldo rfl agg22 rfl H (by assumption) (by assumption) ?_); simp only [pS]) | (with_reducible refine (Stp.ldc rfl agg22 rfl H mR cE ?_); simp only [pS])) | (with_reducible refine wpl rfl (ldQ (ty := 62) rfl ?_); first | (with_reducible refine (Stp.ldor rfl agg62 size62 rfl H (by assumption) sZ (by assumption) ?_); simp only [pS]) | (with_reducible refine (Stp.ldr rfl agg62 size62 rfl H mR sZ ?_); simp only [pS]) | (with_reducible refine (Stp.ldl rfl agg62 size62 rfl H mR (by simp) ?_); simp only [pS]; simp only [List.drop_succ_cons, List.drop_zero, List.take_succ_cons, List.take_zero])) | (with_reducible refine wpl rfl (dQ 5 rfl ?_); with_reducible refine (Stp.alloc 5 rfl rfl zero62 H ?_); clear H; intro g5 w1 H; simp only [pS]; simp only [nC] at H) | (with_reducible refine wpl rfl (stQ (ty := 62) rfl ?_); first | (with_reducible refine (Stp.str rfl size62 rfl rfl (by first | rfl | (simp [Value.oneCell']; done) | assumption) H uP sZ sZ ?_); clear H; intro w1 H; simp only [pS]) | (with_reducible refine (Stp.stl rfl size62 rfl rfl rfl rfl H uP (by simp) ?_); clear H; intro w1 H; simp only [pS]; simp only [List.drop_succ_cons, List.drop_zero, List.take_succ_cons, List.take_zero, List.nil_append, List.cons_append, Nat.reduceAdd] at H)))
        refine rg_begin 8 rfl (S := fun W => St _ _ W (row 62 g5 #[.int .i64 V.kd, .int .u64 (V.x.id : Int), .slice h.ma V.x.mem.length h.mc, .slice h.la V.x.lvs.length h.lc, .slice h.da V.x.ldr.length h.dc, .int .u16 (V.p.1 : Int), .int .u32 (V.p.2 : Int), .int .u64 (V.n : Int), .slice h.ba V.data.length h.bc] :: [])) (by kernel_rfl) (H.drew.sub sU) ?_
        replace H := H.drew
        have HS := H
        refine rg_take (i := 0) rfl kR kR kR (Yld.move rfl rfl) (H.sub sU) ?_; simp only [pS, pE]
        refine rg_take (i := 1) rfl kR kR kR (Yld.o rfl) (H.sub sU) ?_; simp only [pS]
        first | (refine rg_take (i := 2) rfl kR kR kR (Yld.ldor rfl rfl agg27 size27 rfl (by assumption) sZ (by assumption)) (H.sub sU) ?_; simp only [pS]) | (refine rg_take (i := 2) rfl kR kR kR (Yld.ldr rfl rfl agg27 size27 rfl mR sZ) (H.sub sU) ?_; simp only [pS]) | (refine rg_take (i := 2) rfl kR kR kR (Yld.ldl rfl rfl agg27 size27 rfl mR (by simp)) (H.sub sU) ?_; simp only [pS]; simp only [List.drop_succ_cons, List.drop_zero, List.take_succ_cons, List.take_zero])
        refine rg_all (rs := [3, 5]) (by kernel_rfl) (by simp) ?_
        refine rg_cons (i := 3) rfl rfl (fun K hK => ?_) ?_
        · -- 3
          refine Stp.wp (Stp.look (k := 27) (e := 37) (ek := ekP) (ev := evC) (M := M) (q := V.p) rfl keyedP ekP_inj Try.underlying98 mzU rfl rfl HKY.out H mE ?_)
          rw [HZ.out]
          clear HS
          have HS := H
          refine hK.out _ _ (H.sub sU) ?_
          clear hK K
          simp only [pS]
          refine rg_take (i := 4) rfl kR kR kR (Yld.of (v := .int .u64 (c1 : Int)) rfl (fun W _ => by go_simp; first | done | exact HW.out | (rw [HW.out]))) (H.sub sU) ?_; simp only [pS, pE]
          refine rg_one (i := 5) (by kernel_rfl) rfl rfl (fun K hK => ?_)
          refine Stp.wp (Stp.ent (k := 27) (e := 37) (ek := ekP) (ev := evC) (M := M) (q := V.p) (z := 0) 19 rfl rfl keyedP ekP_inj Try.underlying98 mzU rfl rfl HKY.out H (fun _ => uP) ?_)
          clear H
          intro st w1 H
          clear HS
          have HS := H
          refine hK.out _ _ (H.sub sU) ?_
          clear hK K
          simp only [pS]
          refine rg_take (i := 6) rfl kR kR kR (Yld.o rfl) (H.sub sU) ?_; simp only [pS]
          refine rg_one (i := 7) (by kernel_rfl) rfl rfl (fun K hK => ?_)
          refine Stp.wp (Stp.est (k := 27) (ek := ekP) (ev := evC) (q := V.p) (v := c1) rfl rfl rfl rfl H uP ?_)
          clear H
          intro w1 H
          rw [mput_ment] at H
          clear HS
          have HS := H
          refine hK.out _ _ (H.sub sU) ?_
          clear hK K
          simp only [pS]
          refine rg_done (by kernel_rfl) ?_
          go_wp2_with (first | (with_reducible refine wpl rfl (dQ 1 rfl ?_); with_reducible refine (Stp.box 1 rfl rfl rfl H ?_); clear H; intro g1 w1 H; simp only [pS]; simp only [pE, nC, pS] at H) | (with_reducible refine wpl rfl (ldQ (ty := 22) rfl ?_); first | (with_reducible refine (Stp.ldo rfl agg22 rfl H (by assumption) (by assumption) ?_); simp only [pS]) | (with_reducible refine (Stp.ldc rfl agg22 rfl H mR cE ?_); simp only [pS])) | (with_reducible refine wpl rfl (ldQ (ty := 62) rfl ?_); first | (with_reducible refine (Stp.ldor rfl agg62 size62 rfl H (by assumption) sZ (by assumption) ?_); simp only [pS]) | (with_reducible refine (Stp.ldr rfl agg62 size62 rfl H mR sZ ?_); simp only [pS]) | (with_reducible refine (Stp.ldl rfl agg62 size62 rfl H mR (by simp) ?_); simp only [pS]; simp only [List.drop_succ_cons, List.drop_zero, List.take_succ_cons, List.take_zero])) | (with_reducible refine wpl rfl (dQ 5 rfl ?_); with_reducible refine (Stp.alloc 5 rfl rfl zero62 H ?_); clear H; intro g5 w1 H; simp only [pS]; simp only [nC] at H) | (with_reducible refine wpl rfl (stQ (ty := 62) rfl ?_); first | (with_reducible refine (Stp.str rfl size62 rfl rfl (by first | rfl | (simp [Value.oneCell']; done) | assumption) H uP sZ sZ ?_); clear H; intro w1 H; simp only [pS]) | (with_reducible refine (Stp.stl rfl size62 rfl rfl rfl rfl H uP (by simp) ?_); clear H; intro w1 H; simp only [pS]; simp only [List.drop_succ_cons, List.drop_zero, List.take_succ_cons, List.take_zero, List.nil_append, List.cons_append, Nat.reduceAdd] at H)))
          refine rg_begin 7 rfl (S := fun W => St _ _ W (row 62 g5 #[.int .i64 V.kd, .int .u64 (V.x.id : Int), .slice h.ma V.x.mem.length h.mc, .slice h.la V.x.lvs.length h.lc, .slice h.da V.x.ldr.length h.dc, .int .u16 (V.p.1 : Int), .int .u32 (V.p.2 : Int), .int .u64 (V.n : Int), .slice h.ba V.data.length h.bc] :: mapr Try.prog 27 ekP evC g6 (mput M V.p c1) :: [])) (by kernel_rfl) (H.drew.sub sU) ?_
          replace H := H.drew
          have HS := H
          refine rg_take (i := 0) rfl kR kR kR (Yld.o rfl) (H.sub sU) ?_; simp only [pS]
          first | (refine rg_take (i := 1) rfl kR kR kR (Yld.ldo rfl rfl agg37 rfl (by assumption) (by assumption)) (H.sub sU) ?_; simp only [pS]) | (refine rg_take (i := 1) rfl kR kR kR (Yld.ldc rfl rfl agg37 rfl mR cE) (H.sub sU) ?_; simp only [pS])
          refine rg_take (i := 2) rfl kR kR kR (Yld.move rfl rfl) (H.sub sU) ?_; simp only [pS, pE]
          refine rg_take (i := 3) rfl kR kR kR (Yld.o rfl) (H.sub sU) ?_; simp only [pS]
          first | (refine rg_take (i := 4) rfl kR kR kR (Yld.ldor rfl rfl agg27 size27 rfl (by assumption) sZ (by assumption)) (H.sub sU) ?_; simp only [pS]) | (refine rg_take (i := 4) rfl kR kR kR (Yld.ldr rfl rfl agg27 size27 rfl mR sZ) (H.sub sU) ?_; simp only [pS]) | (refine rg_take (i := 4) rfl kR kR kR (Yld.ldl rfl rfl agg27 size27 rfl mR (by simp)) (H.sub sU) ?_; simp only [pS]; simp only [List.drop_succ_cons, List.drop_zero, List.take_succ_cons, List.take_zero])
          refine rg_take (i := 5) rfl kR kR kR (Yld.lookM (k := 27) (e := 37) (ek := ekP) (ev := evC) (M := mput M V.p c1) (q := V.p) rfl rfl keyedP ekP_inj Try.underlying98 mzU rfl rfl HKY.out mE HZ3.out) (H.sub sU) ?_; simp only [pS, pE]
          refine rg_take (i := 6) rfl kR kR kR (Yld.o rfl) (H.sub sU) ?_; simp only [pS]
          refine rg_done (by kernel_rfl) ?_
          go_wp2_with (first | (with_reducible refine wpl rfl (dQ 1 rfl ?_); with_reducible refine (Stp.box 1 rfl rfl rfl H ?_); clear H; intro g1 w1 H; simp only [pS]; simp only [pE, nC, pS] at H) | (with_reducible refine wpl rfl (ldQ (ty := 22) rfl ?_); first | (with_reducible refine (Stp.ldo rfl agg22 rfl H (by assumption) (by assumption) ?_); simp only [pS]) | (with_reducible refine (Stp.ldc rfl agg22 rfl H mR cE ?_); simp only [pS])) | (with_reducible refine wpl rfl (ldQ (ty := 62) rfl ?_); first | (with_reducible refine (Stp.ldor rfl agg62 size62 rfl H (by assumption) sZ (by assumption) ?_); simp only [pS]) | (with_reducible refine (Stp.ldr rfl agg62 size62 rfl H mR sZ ?_); simp only [pS]) | (with_reducible refine (Stp.ldl rfl agg62 size62 rfl H mR (by simp) ?_); simp only [pS]; simp only [List.drop_succ_cons, List.drop_zero, List.take_succ_cons, List.take_zero])) | (with_reducible refine wpl rfl (dQ 5 rfl ?_); with_reducible refine (Stp.alloc 5 rfl rfl zero62 H ?_); clear H; intro g5 w1 H; simp only [pS]; simp only [nC] at H) | (with_reducible refine wpl rfl (stQ (ty := 62) rfl ?_); first | (with_reducible refine (Stp.str rfl size62 rfl rfl (by first | rfl | (simp [Value.oneCell']; done) | assumption) H uP sZ sZ ?_); clear H; intro w1 H; simp only [pS]) | (with_reducible refine (Stp.stl rfl size62 rfl rfl rfl rfl H uP (by simp) ?_); clear H; intro w1 H; simp only [pS]; simp only [List.drop_succ_cons, List.drop_zero, List.take_succ_cons, List.take_zero, List.nil_append, List.cons_append, Nat.reduceAdd] at H)))
          go_roundw
          case rel => exact ⟨q + 1, _, by omega, by go_num, HM2, HT2, H.sub sU⟩
          case measure => simp [intOf]; omega
        refine rg_cons (i := 5) rfl rfl (fun K hK => ?_) ?_
        · -- 5
          refine Stp.wp (Stp.ent (k := 27) (e := 37) (ek := ekP) (ev := evC) (M := M) (q := V.p) (z := 0) 19 rfl rfl keyedP ekP_inj Try.underlying98 mzU rfl rfl HKY.out H (fun _ => uP) ?_)
          clear H
          intro st w1 H
          clear HS
          have HS := H
          refine hK.out _ _ (H.sub sU) ?_
          clear hK K
          simp only [pS]
          refine rg_take (i := 6) rfl kR kR kR (Yld.o rfl) (H.sub sU) ?_; simp only [pS]
          refine rg_one (i := 3) (by kernel_rfl) rfl rfl (fun K hK => ?_)
          refine Stp.wp (Stp.lookE (M := ment M V.p 0) (q := V.p) rfl keyedP ekP_inj Try.underlying98 mzU rfl rfl HKY.out H mE ?_)
          rw [HZ2.out]
          clear HS
          have HS := H
          refine hK.out _ _ (H.sub sU) ?_
          clear hK K
          simp only [pS]
          refine rg_take (i := 4) rfl kR kR kR (Yld.of (v := .int .u64 (c1 : Int)) rfl (fun W _ => by go_simp; first | done | exact HW.out | (rw [HW.out]))) (H.sub sU) ?_; simp only [pS, pE]
          refine rg_one (i := 7) (by kernel_rfl) rfl rfl (fun K hK => ?_)
          refine Stp.wp (Stp.est (k := 27) (ek := ekP) (ev := evC) (q := V.p) (v := c1) rfl rfl rfl rfl H uP ?_)
          clear H
          intro w1 H
          rw [mput_ment] at H
          clear HS
          have HS := H
          refine hK.out _ _ (H.sub sU) ?_
          clear hK K
          simp only [pS]
          refine rg_done (by kernel_rfl) ?_
          go_wp2_with (first | (with_reducible refine wpl rfl (dQ 1 rfl ?_); with_reducible refine (Stp.box 1 rfl rfl rfl H ?_); clear H; intro g1 w1 H; simp only [pS]; simp only [pE, nC, pS] at H) | (with_reducible refine wpl rfl (ldQ (ty := 22) rfl ?_); first | (with_reducible refine (Stp.ldo rfl agg22 rfl H (by assumption) (by assumption) ?_); simp only [pS]) | (with_reducible refine (Stp.ldc rfl agg22 rfl H mR cE ?_); simp only [pS])) | (with_reducible refine wpl rfl (ldQ (ty := 62) rfl ?_); first | (with_reducible refine (Stp.ldor rfl agg62 size62 rfl H (by assumption) sZ (by assumption) ?_); simp only [pS]) | (with_reducible refine (Stp.ldr rfl agg62 size62 rfl H mR sZ ?_); simp only [pS]) | (with_reducible refine (Stp.ldl rfl agg62 size62 rfl H mR (by simp) ?_); simp only [pS]; simp only [List.drop_succ_cons, List.drop_zero, List.take_succ_cons, List.take_zero])) | (with_reducible refine wpl rfl (dQ 5 rfl ?_); with_reducible refine (Stp.alloc 5 rfl rfl zero62 H ?_); clear H; intro g5 w1 H; simp only [pS]; simp only [nC] at H) | (with_reducible refine wpl rfl (stQ (ty := 62) rfl ?_); first | (with_reducible refine (Stp.str rfl size62 rfl rfl (by first | rfl | (simp [Value.oneCell']; done) | assumption) H uP sZ sZ ?_); clear H; intro w1 H; simp only [pS]) | (with_reducible refine (Stp.stl rfl size62 rfl rfl rfl rfl H uP (by simp) ?_); clear H; intro w1 H; simp only [pS]; simp only [List.drop_succ_cons, List.drop_zero, List.take_succ_cons, List.take_zero, List.nil_append, List.cons_append, Nat.reduceAdd] at H)))
          refine rg_begin 7 rfl (S := fun W => St _ _ W (row 62 g5 #[.int .i64 V.kd, .int .u64 (V.x.id : Int), .slice h.ma V.x.mem.length h.mc, .slice h.la V.x.lvs.length h.lc, .slice h.da V.x.ldr.length h.dc, .int .u16 (V.p.1 : Int), .int .u32 (V.p.2 : Int), .int .u64 (V.n : Int), .slice h.ba V.data.length h.bc] :: mapr Try.prog 27 ekP evC g6 (mput M V.p c1) :: [])) (by kernel_rfl) (H.drew.sub sU) ?_
          replace H := H.drew
          have HS := H
          refine rg_take (i := 0) rfl kR kR kR (Yld.o rfl) (H.sub sU) ?_; simp only [pS]
          first | (refine rg_take (i := 1) rfl kR kR kR (Yld.ldo rfl rfl agg37 rfl (by assumption) (by assumption)) (H.sub sU) ?_; simp only [pS]) | (refine rg_take (i := 1) rfl kR kR kR (Yld.ldc rfl rfl agg37 rfl mR cE) (H.sub sU) ?_; simp only [pS])
          refine rg_take (i := 2) rfl kR kR kR (Yld.move rfl rfl) (H.sub sU) ?_; simp only [pS, pE]
          refine rg_take (i := 3) rfl kR kR kR (Yld.o rfl) (H.sub sU) ?_; simp only [pS]
          first | (refine rg_take (i := 4) rfl kR kR kR (Yld.ldor rfl rfl agg27 size27 rfl (by assumption) sZ (by assumption)) (H.sub sU) ?_; simp only [pS]) | (refine rg_take (i := 4) rfl kR kR kR (Yld.ldr rfl rfl agg27 size27 rfl mR sZ) (H.sub sU) ?_; simp only [pS]) | (refine rg_take (i := 4) rfl kR kR kR (Yld.ldl rfl rfl agg27 size27 rfl mR (by simp)) (H.sub sU) ?_; simp only [pS]; simp only [List.drop_succ_cons, List.drop_zero, List.take_succ_cons, List.take_zero])
          refine rg_take (i := 5) rfl kR kR kR (Yld.lookM (k := 27) (e := 37) (ek := ekP) (ev := evC) (M := mput M V.p c1) (q := V.p) rfl rfl keyedP ekP_inj Try.underlying98 mzU rfl rfl HKY.out mE HZ3.out) (H.sub sU) ?_; simp only [pS, pE]
          refine rg_take (i := 6) rfl kR kR kR (Yld.o rfl) (H.sub sU) ?_; simp only [pS]
          refine rg_done (by kernel_rfl) ?_
          go_wp2_with (first | (with_reducible refine wpl rfl (dQ 1 rfl ?_); with_reducible refine (Stp.box 1 rfl rfl rfl H ?_); clear H; intro g1 w1 H; simp only [pS]; simp only [pE, nC, pS] at H) | (with_reducible refine wpl rfl (ldQ (ty := 22) rfl ?_); first | (with_reducible refine (Stp.ldo rfl agg22 rfl H (by assumption) (by assumption) ?_); simp only [pS]) | (with_reducible refine (Stp.ldc rfl agg22 rfl H mR cE ?_); simp only [pS])) | (with_reducible refine wpl rfl (ldQ (ty := 62) rfl ?_); first | (with_reducible refine (Stp.ldor rfl agg62 size62 rfl H (by assumption) sZ (by assumption) ?_); simp only [pS]) | (with_reducible refine (Stp.ldr rfl agg62 size62 rfl H mR sZ ?_); simp only [pS]) | (with_reducible refine (Stp.ldl rfl agg62 size62 rfl H mR (by simp) ?_); simp only [pS]; simp only [List.drop_succ_cons, List.drop_zero, List.take_succ_cons, List.take_zero])) | (with_reducible refine wpl rfl (dQ 5 rfl ?_); with_reducible refine (Stp.alloc 5 rfl rfl zero62 H ?_); clear H; intro g5 w1 H; simp only [pS]; simp only [nC] at H) | (with_reducible refine wpl rfl (stQ (ty := 62) rfl ?_); first | (with_reducible refine (Stp.str rfl size62 rfl rfl (by first | rfl | (simp [Value.oneCell']; done) | assumption) H uP sZ sZ ?_); clear H; intro w1 H; simp only [pS]) | (with_reducible refine (Stp.stl rfl size62 rfl rfl rfl rfl H uP (by simp) ?_); clear H; intro w1 H; simp only [pS]; simp only [List.drop_succ_cons, List.drop_zero, List.take_succ_cons, List.take_zero, List.nil_append, List.cons_append, Nat.reduceAdd] at H)))
          go_roundw
          case rel => exact ⟨q + 1, _, by omega, by go_num, HM2, HT2, H.sub sU⟩
          case measure => simp [intOf]; omega
        exact AllReadyH.nil
      · have hni : ((V.n : Int) != (c1 : Int)) = true := by simp; omega
        have HV : Hid (r = false) := Lib.hid (by
          rw [← HR.out]
          cases hcd : cntD y.told with
          | false => rfl
          | true =>
            exfalso
            unfold cntD at hcd
            rw [allN_iff] at hcd
            have := hcd q hl1
            rw [Nat.zero_add, HX.out] at this
            have := of_decide_eq_true this
            rw [HQ.out] at this
            exact hne this)
        clear hne
        go_wp2_with (first | (with_reducible refine wpl rfl (dQ 1 rfl ?_); with_reducible refine (Stp.box 1 rfl rfl rfl H ?_); clear H; intro g1 w1 H; simp only [pS]; simp only [pE, nC, pS] at H) | (with_reducible refine wpl rfl (ldQ (ty := 22) rfl ?_); first | (with_reducible refine (Stp.ldo rfl agg22 rfl H (by assumption) (by assumption) ?_); simp only [pS]) | (with_reducible refine (Stp.ldc rfl agg22 rfl H mR cE ?_); simp only [pS])) | (with_reducible refine wpl rfl (ldQ (ty := 62) rfl ?_); first | (with_reducible refine (Stp.ldor rfl agg62 size62 rfl H (by assumption) sZ (by assumption) ?_); simp only [pS]) | (with_reducible refine (Stp.ldr rfl agg62 size62 rfl H mR sZ ?_); simp only [pS]) | (with_reducible refine (Stp.ldl rfl agg62 size62 rfl H mR (by simp) ?_); simp only [pS]; simp only [List.drop_succ_cons, List.drop_zero, List.take_succ_cons, List.take_zero])) | (with_reducible refine wpl rfl (dQ 5 rfl ?_); with_reducible refine (Stp.alloc 5 rfl rfl zero62 H ?_); clear H; intro g5 w1 H; simp only [pS]; simp only [nC] at H) | (with_reducible refine wpl rfl (stQ (ty := 62) rfl ?_); first | (with_reducible refine (Stp.str rfl size62 rfl rfl (by first | rfl | (simp [Value.oneCell']; done) | assumption) H uP sZ sZ ?_); clear H; intro w1 H; simp only [pS]) | (with_reducible refine (Stp.stl rfl size62 rfl rfl rfl rfl H uP (by simp) ?_); clear H; intro w1 H; simp only [pS]; simp only [List.drop_succ_cons, List.drop_zero, List.take_succ_cons, List.take_zero, List.nil_append, List.cons_append, Nat.reduceAdd] at H)))
        refine rg_begin 8 rfl (S := fun W => St _ _ W (row 62 g5 #[.int .i64 V.kd, .int .u64 (V.x.id : Int), .slice h.ma V.x.mem.length h.mc, .slice h.la V.x.lvs.length h.lc, .slice h.da V.x.ldr.length h.dc, .int .u16 (V.p.1 : Int), .int .u32 (V.p.2 : Int), .int .u64 (V.n : Int), .slice h.ba V.data.length h.bc] :: [])) (by kernel_rfl) (H.drew.sub sU) ?_
        replace H := H.drew
        have HS := H
        refine rg_take (i := 0) rfl kR kR kR (Yld.move rfl rfl) (H.sub sU) ?_; simp only [pS, pE]
        refine rg_take (i := 1) rfl kR kR kR (Yld.o rfl) (H.sub sU) ?_; simp only [pS]
        first | (refine rg_take (i := 2) rfl kR kR kR (Yld.ldor rfl rfl agg27 size27 rfl (by assumption) sZ (by assumption)) (H.sub sU) ?_; simp only [pS]) | (refine rg_take (i := 2) rfl kR kR kR (Yld.ldr rfl rfl agg27 size27 rfl mR sZ) (H.sub sU) ?_; simp only [pS]) | (refine rg_take (i := 2) rfl kR kR kR (Yld.ldl rfl rfl agg27 size27 rfl mR (by simp)) (H.sub sU) ?_; simp only [pS]; simp only [List.drop_succ_cons, List.drop_zero, List.take_succ_cons, List.take_zero])
        refine rg_all (rs := [3, 5]) (by kernel_rfl) (by simp) ?_
        refine rg_cons (i := 3) rfl rfl (fun K hK => ?_) ?_
        · -- 3
          refine Stp.wp (Stp.look (k := 27) (e := 37) (ek := ekP) (ev := evC) (M := M) (q := V.p) rfl keyedP ekP_inj Try.underlying98 mzU rfl rfl HKY.out H mE ?_)
          rw [HZ.out]
          clear HS
          have HS := H
          refine hK.out _ _ (H.sub sU) ?_
          clear hK K
          simp only [pS]
          refine rg_take (i := 4) rfl kR kR kR (Yld.of (v := .int .u64 (c1 : Int)) rfl (fun W _ => by go_simp; first | done | exact HW.out | (rw [HW.out]))) (H.sub sU) ?_; simp only [pS, pE]
          refine rg_one (i := 5) (by kernel_rfl) rfl rfl (fun K hK => ?_)
          refine Stp.wp (Stp.ent (k := 27) (e := 37) (ek := ekP) (ev := evC) (M := M) (q := V.p) (z := 0) 19 rfl rfl keyedP ekP_inj Try.underlying98 mzU rfl rfl HKY.out H (fun _ => uP) ?_)
          clear H
          intro st w1 H
          clear HS
          have HS := H
          refine hK.out _ _ (H.sub sU) ?_
          clear hK K
          simp only [pS]
          refine rg_take (i := 6) rfl kR kR kR (Yld.o rfl) (H.sub sU) ?_; simp only [pS]
          refine rg_one (i := 7) (by kernel_rfl) rfl rfl (fun K hK => ?_)
          refine Stp.wp (Stp.est (k := 27) (ek := ekP) (ev := evC) (q := V.p) (v := c1) rfl rfl rfl rfl H uP ?_)
          clear H
          intro w1 H
          rw [mput_ment] at H
          clear HS
          have HS := H
          refine hK.out _ _ (H.sub sU) ?_
          clear hK K
          simp only [pS]
          refine rg_done (by kernel_rfl) ?_
          go_wp2_with (first | (with_reducible refine wpl rfl (dQ 1 rfl ?_); with_reducible refine (Stp.box 1 rfl rfl rfl H ?_); clear H; intro g1 w1 H; simp only [pS]; simp only [pE, nC, pS] at H) | (with_reducible refine wpl rfl (ldQ (ty := 22) rfl ?_); first | (with_reducible refine (Stp.ldo rfl agg22 rfl H (by assumption) (by assumption) ?_); simp only [pS]) | (with_reducible refine (Stp.ldc rfl agg22 rfl H mR cE ?_); simp only [pS])) | (with_reducible refine wpl rfl (ldQ (ty := 62) rfl ?_); first | (with_reducible refine (Stp.ldor rfl agg62 size62 rfl H (by assumption) sZ (by assumption) ?_); simp only [pS]) | (with_reducible refine (Stp.ldr rfl agg62 size62 rfl H mR sZ ?_); simp only [pS]) | (with_reducible refine (Stp.ldl rfl agg62 size62 rfl H mR (by simp) ?_); simp only [pS]; simp only [List.drop_succ_cons, List.drop_zero, List.take_succ_cons, List.take_zero])) | (with_reducible refine wpl rfl (dQ 5 rfl ?_); with_reducible refine (Stp.alloc 5 rfl rfl zero62 H ?_); clear H; intro g5 w1 H; simp only [pS]; simp only [nC] at H) | (with_reducible refine wpl rfl (stQ (ty := 62) rfl ?_); first | (with_reducible refine (Stp.str rfl size62 rfl rfl (by first | rfl | (simp [Value.oneCell']; done) | assumption) H uP sZ sZ ?_); clear H; intro w1 H; simp only [pS]) | (with_reducible refine (Stp.stl rfl size62 rfl rfl rfl rfl H uP (by simp) ?_); clear H; intro w1 H; simp only [pS]; simp only [List.drop_succ_cons, List.drop_zero, List.take_succ_cons, List.take_zero, List.nil_append, List.cons_append, Nat.reduceAdd] at H)))
          refine rg_begin 7 rfl (S := fun W => St _ _ W (row 62 g5 #[.int .i64 V.kd, .int .u64 (V.x.id : Int), .slice h.ma V.x.mem.length h.mc, .slice h.la V.x.lvs.length h.lc, .slice h.da V.x.ldr.length h.dc, .int .u16 (V.p.1 : Int), .int .u32 (V.p.2 : Int), .int .u64 (V.n : Int), .slice h.ba V.data.length h.bc] :: mapr Try.prog 27 ekP evC g6 (mput M V.p c1) :: [])) (by kernel_rfl) (H.drew.sub sU) ?_
          replace H := H.drew
          have HS := H
          refine rg_take (i := 0) rfl kR kR kR (Yld.o rfl) (H.sub sU) ?_; simp only [pS]
          first | (refine rg_take (i := 1) rfl kR kR kR (Yld.ldo rfl rfl agg37 rfl (by assumption) (by assumption)) (H.sub sU) ?_; simp only [pS]) | (refine rg_take (i := 1) rfl kR kR kR (Yld.ldc rfl rfl agg37 rfl mR cE) (H.sub sU) ?_; simp only [pS])
          refine rg_take (i := 2) rfl kR kR kR (Yld.move rfl rfl) (H.sub sU) ?_; simp only [pS, pE]
          refine rg_take (i := 3) rfl kR kR kR (Yld.o rfl) (H.sub sU) ?_; simp only [pS]
          first | (refine rg_take (i := 4) rfl kR kR kR (Yld.ldor rfl rfl agg27 size27 rfl (by assumption) sZ (by assumption)) (H.sub sU) ?_; simp only [pS]) | (refine rg_take (i := 4) rfl kR kR kR (Yld.ldr rfl rfl agg27 size27 rfl mR sZ) (H.sub sU) ?_; simp only [pS]) | (refine rg_take (i := 4) rfl kR kR kR (Yld.ldl rfl rfl agg27 size27 rfl mR (by simp)) (H.sub sU) ?_; simp only [pS]; simp only [List.drop_succ_cons, List.drop_zero, List.take_succ_cons, List.take_zero])
          refine rg_take (i := 5) rfl kR kR kR (Yld.lookM (k := 27) (e := 37) (ek := ekP) (ev := evC) (M := mput M V.p c1) (q := V.p) rfl rfl keyedP ekP_inj Try.underlying98 mzU rfl rfl HKY.out mE HZ3.out) (H.sub sU) ?_; simp only [pS, pE]
          refine rg_take (i := 6) rfl kR kR kR (Yld.o rfl) (H.sub sU) ?_; simp only [pS]
          refine rg_done (by kernel_rfl) ?_
          go_wp2_with (first | (with_reducible refine wpl rfl (dQ 1 rfl ?_); with_reducible refine (Stp.box 1 rfl rfl rfl H ?_); clear H; intro g1 w1 H; simp only [pS]; simp only [pE, nC, pS] at H) | (with_reducible refine wpl rfl (ldQ (ty := 22) rfl ?_); first | (with_reducible refine (Stp.ldo rfl agg22 rfl H (by assumption) (by assumption) ?_); simp only [pS]) | (with_reducible refine (Stp.ldc rfl agg22 rfl H mR cE ?_); simp only [pS])) | (with_reducible refine wpl rfl (ldQ (ty := 62) rfl ?_); first | (with_reducible refine (Stp.ldor rfl agg62 size62 rfl H (by assumption) sZ (by assumption) ?_); simp only [pS]) | (with_reducible refine (Stp.ldr rfl agg62 size62 rfl H mR sZ ?_); simp only [pS]) | (with_reducible refine (Stp.ldl rfl agg62 size62 rfl H mR (by simp) ?_); simp only [pS]; simp only [List.drop_succ_cons, List.drop_zero, List.take_succ_cons, List.take_zero])) | (with_reducible refine wpl rfl (dQ 5 rfl ?_); with_reducible refine (Stp.alloc 5 rfl rfl zero62 H ?_); clear H; intro g5 w1 H; simp only [pS]; simp only [nC] at H) | (with_reducible refine wpl rfl (stQ (ty := 62) rfl ?_); first | (with_reducible refine (Stp.str rfl size62 rfl rfl (by first | rfl | (simp [Value.oneCell']; done) | assumption) H uP sZ sZ ?_); clear H; intro w1 H; simp only [pS]) | (with_reducible refine (Stp.stl rfl size62 rfl rfl rfl rfl H uP (by simp) ?_); clear H; intro w1 H; simp only [pS]; simp only [List.drop_succ_cons, List.drop_zero, List.take_succ_cons, List.take_zero, List.nil_append, List.cons_append, Nat.reduceAdd] at H)))
          go_ret
          exact ⟨_, rfl, by rw [HV.out]; rfl, H.below⟩
        refine rg_cons (i := 5) rfl rfl (fun K hK => ?_) ?_
        · -- 5
          refine Stp.wp (Stp.ent (k := 27) (e := 37) (ek := ekP) (ev := evC) (M := M) (q := V.p) (z := 0) 19 rfl rfl keyedP ekP_inj Try.underlying98 mzU rfl rfl HKY.out H (fun _ => uP) ?_)
          clear H
          intro st w1 H
          clear HS
          have HS := H
          refine hK.out _ _ (H.sub sU) ?_
          clear hK K
          simp only [pS]
          refine rg_take (i := 6) rfl kR kR kR (Yld.o rfl) (H.sub sU) ?_; simp only [pS]
          refine rg_one (i := 3) (by kernel_rfl) rfl rfl (fun K hK => ?_)
          refine Stp.wp (Stp.lookE (M := ment M V.p 0) (q := V.p) rfl keyedP ekP_inj Try.underlying98 mzU rfl rfl HKY.out H mE ?_)
          rw [HZ2.out]
          clear HS
          have HS := H
          refine hK.out _ _ (H.sub sU) ?_
          clear hK K
          simp only [pS]
          refine rg_take (i := 4) rfl kR kR kR (Yld.of (v := .int .u64 (c1 : Int)) rfl (fun W _ => by go_simp; first | done | exact HW.out | (rw [HW.out]))) (H.sub sU) ?_; simp only [pS, pE]
          refine rg_one (i := 7) (by kernel_rfl) rfl rfl (fun K hK => ?_)
          refine Stp.wp (Stp.est (k := 27) (ek := ekP) (ev := evC) (q := V.p) (v := c1) rfl rfl rfl rfl H uP ?_)
          clear H
          intro w1 H
          rw [mput_ment] at H
          clear HS
          have HS := H
          refine hK.out _ _ (H.sub sU) ?_
          clear hK K
          simp only [pS]
          refine rg_done (by kernel_rfl) ?_
          go_wp2_with (first | (with_reducible refine wpl rfl (dQ 1 rfl ?_); with_reducible refine (Stp.box 1 rfl rfl rfl H ?_); clear H; intro g1 w1 H; simp only [pS]; simp only [pE, nC, pS] at H) | (with_reducible refine wpl rfl (ldQ (ty := 22) rfl ?_); first | (with_reducible refine (Stp.ldo rfl agg22 rfl H (by assumption) (by assumption) ?_); simp only [pS]) | (with_reducible refine (Stp.ldc rfl agg22 rfl H mR cE ?_); simp only [pS])) | (with_reducible refine wpl rfl (ldQ (ty := 62) rfl ?_); first | (with_reducible refine (Stp.ldor rfl agg62 size62 rfl H (by assumption) sZ (by assumption) ?_); simp only [pS]) | (with_reducible refine (Stp.ldr rfl agg62 size62 rfl H mR sZ ?_); simp only [pS]) | (with_reducible refine (Stp.ldl rfl agg62 size62 rfl H mR (by simp) ?_); simp only [pS]; simp only [List.drop_succ_cons, List.drop_zero, List.take_succ_cons, List.take_zero])) | (with_reducible refine wpl rfl (dQ 5 rfl ?_); with_reducible refine (Stp.alloc 5 rfl rfl zero62 H ?_); clear H; intro g5 w1 H; simp only [pS]; simp only [nC] at H) | (with_reducible refine wpl rfl (stQ (ty := 62) rfl ?_); first | (with_reducible refine (Stp.str rfl size62 rfl rfl (by first | rfl | (simp [Value.oneCell']; done) | assumption) H uP sZ sZ ?_); clear H; intro w1 H; simp only [pS]) | (with_reducible refine (Stp.stl rfl size62 rfl rfl rfl rfl H uP (by simp) ?_); clear H; intro w1 H; simp only [pS]; simp only [List.drop_succ_cons, List.drop_zero, List.take_succ_cons, List.take_zero, List.nil_append, List.cons_append, Nat.reduceAdd] at H)))
          refine rg_begin 7 rfl (S := fun W => St _ _ W (row 62 g5 #[.int .i64 V.kd, .int .u64 (V.x.id : Int), .slice h.ma V.x.mem.length h.mc, .slice h.la V.x.lvs.length h.lc, .slice h.da V.x.ldr.length h.dc, .int .u16 (V.p.1 : Int), .int .u32 (V.p.2 : Int), .int .u64 (V.n : Int), .slice h.ba V.data.length h.bc] :: mapr Try.prog 27 ekP evC g6 (mput M V.p c1) :: [])) (by kernel_rfl) (H.drew.sub sU) ?_
          replace H := H.drew
          have HS := H
          refine rg_take (i := 0) rfl kR kR kR (Yld.o rfl) (H.sub sU) ?_; simp only [pS]
          first | (refine rg_take (i := 1) rfl kR kR kR (Yld.ldo rfl rfl agg37 rfl (by assumption) (by assumption)) (H.sub sU) ?_; simp only [pS]) | (refine rg_take (i := 1) rfl kR kR kR (Yld.ldc rfl rfl agg37 rfl mR cE) (H.sub sU) ?_; simp only [pS])
          refine rg_take (i := 2) rfl kR kR kR (Yld.move rfl rfl) (H.sub sU) ?_; simp only [pS, pE]
          refine rg_take (i := 3) rfl kR kR kR (Yld.o rfl) (H.sub sU) ?_; simp only [pS]
          first | (refine rg_take (i := 4) rfl kR kR kR (Yld.ldor rfl rfl agg27 size27 rfl (by assumption) sZ (by assumption)) (H.sub sU) ?_; simp only [pS]) | (refine rg_take (i := 4) rfl kR kR kR (Yld.ldr rfl rfl agg27 size27 rfl mR sZ) (H.sub sU) ?_; simp only [pS]) | (refine rg_take (i := 4) rfl kR kR kR (Yld.ldl rfl rfl agg27 size27 rfl mR (by simp)) (H.sub sU) ?_; simp only [pS]; simp only [List.drop_succ_cons, List.drop_zero, List.take_succ_cons, List.take_zero])
          refine rg_take (i := 5) rfl kR kR kR (Yld.lookM (k := 27) (e := 37) (ek := ekP) (ev := evC) (M := mput M V.p c1) (q := V.p) rfl rfl keyedP ekP_inj Try.underlying98 mzU rfl rfl HKY.out mE HZ3.out) (H.sub sU) ?_; simp only [pS, pE]
          refine rg_take (i := 6) rfl kR kR kR (Yld.o rfl) (H.sub sU) ?_; simp only [pS]
          refine rg_done (by kernel_rfl) ?_
          go_wp2_with (first | (with_reducible refine wpl rfl (dQ 1 rfl ?_); with_reducible refine (Stp.box 1 rfl rfl rfl H ?_); clear H; intro g1 w1 H; simp only [pS]; simp only [pE, nC, pS] at H) | (with_reducible refine wpl rfl (ldQ (ty := 22) rfl ?_); first | (with_reducible refine (Stp.ldo rfl agg22 rfl H (by assumption) (by assumption) ?_); simp only [pS]) | (with_reducible refine (Stp.ldc rfl agg22 rfl H mR cE ?_); simp only [pS])) | (with_reducible refine wpl rfl (ldQ (ty := 62) rfl ?_); first | (with_reducible refine (Stp.ldor rfl agg62 size62 rfl H (by assumption) sZ (by assumption) ?_); simp only [pS]) | (with_reducible refine (Stp.ldr rfl agg62 size62 rfl H mR sZ ?_); simp only [pS]) | (with_reducible refine (Stp.ldl rfl agg62 size62 rfl H mR (by simp) ?_); simp only [pS]; simp only [List.drop_succ_cons, List.drop_zero, List.take_succ_cons, List.take_zero])) | (with_reducible refine wpl rfl (dQ 5 rfl ?_); with_reducible refine (Stp.alloc 5 rfl rfl zero62 H ?_); clear H; intro g5 w1 H; simp only [pS]; simp only [nC] at H) | (with_reducible refine wpl rfl (stQ (ty := 62) rfl ?_); first | (with_reducible refine (Stp.str rfl size62 rfl rfl (by first | rfl | (simp [Value.oneCell']; done) | assumption) H uP sZ sZ ?_); clear H; intro w1 H; simp only [pS]) | (with_reducible refine (Stp.stl rfl size62 rfl rfl rfl rfl H uP (by simp) ?_); clear H; intro w1 H; simp only [pS]; simp only [List.drop_succ_cons, List.drop_zero, List.take_succ_cons, List.take_zero, List.nil_append, List.cons_append, Nat.reduceAdd] at H)))
          go_ret
          exact ⟨_, rfl, by rw [HV.out]; rfl, H.below⟩
        exact AllReadyH.nil
    · obtain rfl : q = n := by omega
      have HV : Hid (r = true) := Lib.hid (by
        rw [← HR.out]; unfold cntD
        rw [allN_iff]
        intro i hi
        rw [Nat.zero_add]
        exact decide_eq_true (HT.out i hi (by rw [HN.out] at hi; exact hi)))
      go_wp2_with (first | (with_reducible refine wpl rfl (dQ 1 rfl ?_); with_reducible refine (Stp.box 1 rfl rfl rfl H ?_); clear H; intro g1 w1 H; simp only [pS]; simp only [pE, nC, pS] at H) | (with_reducible refine wpl rfl (ldQ (ty := 22) rfl ?_); first | (with_reducible refine (Stp.ldo rfl agg22 rfl H (by assumption) (by assumption) ?_); simp only [pS]) | (with_reducible refine (Stp.ldc rfl agg22 rfl H mR cE ?_); simp only [pS])) | (with_reducible refine wpl rfl (ldQ (ty := 62) rfl ?_); first | (with_reducible refine (Stp.ldor rfl agg62 size62 rfl H (by assumption) sZ (by assumption) ?_); simp only [pS]) | (with_reducible refine (Stp.ldr rfl agg62 size62 rfl H mR sZ ?_); simp only [pS]) | (with_reducible refine (Stp.ldl rfl agg62 size62 rfl H mR (by simp) ?_); simp only [pS]; simp only [List.drop_succ_cons, List.drop_zero, List.take_succ_cons, List.take_zero])) | (with_reducible refine wpl rfl (dQ 5 rfl ?_); with_reducible refine (Stp.alloc 5 rfl rfl zero62 H ?_); clear H; intro g5 w1 H; simp only [pS]; simp only [nC] at H) | (with_reducible refine wpl rfl (stQ (ty := 62) rfl ?_); first | (with_reducible refine (Stp.str rfl size62 rfl rfl (by first | rfl | (simp [Value.oneCell']; done) | assumption) H uP sZ sZ ?_); clear H; intro w1 H; simp only [pS]) | (with_reducible refine (Stp.stl rfl size62 rfl rfl rfl rfl H uP (by simp) ?_); clear H; intro w1 H; simp only [pS]; simp only [List.drop_succ_cons, List.drop_zero, List.take_succ_cons, List.take_zero, List.nil_append, List.cons_append, Nat.reduceAdd] at H)))
      go_ret
      exact ⟨_, rfl, by rw [HV.out]; rfl, H.below⟩
end Go.Proofs.Ytbepaafgcbgmfaa
