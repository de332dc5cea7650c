/- The statement MaskShares of layer 5 (mask), proved; no condition: the law's walk, and the row round it. -/
import Derived.Test.YtcgogcolfbpcfaaMaskS2
namespace Go.Proofs.Ytcgogcolfbpcfaa
open Go.ChangeShapes Go.WideShapes Go.ChangeAt Go.RowKit Go.Deep Go.Maps
set_option linter.unusedVariables false
set_option linter.unusedSimpArgs false
theorem open_ms {H : Type} {enc : TypeId × Value → H} {W : World} {base : Nat} {v : Value} {d : DataW H} {p : List MemPlace} (hv : Value.okWide Try.prog W .any base 42 v) (h : DataW.Trod enc Try.prog W 0 (fun _ => true) true 42 v d p) :
    ∃ l : List (Nat × Nat), okM l ∧ Sl W 2 l.length v (elM l) := by
  obtain ⟨n, E, hS, hE⟩ := open_sl (size := 2) Try.underlying42 (by kernel_rfl) (by omega) hv h
  have hc1 : Try.prog.cellsOf 22 = 1 := by kernel_rfl
  have hc : Try.prog.cellsOf 24 = 2 := by kernel_rfl
  have hex : ∀ i, ∃ q : Nat × Nat, i < n → E i = #[.int .u64 (q.1 : Int), .int .u64 (q.2 : Int)] ∧ q.1 < 18446744073709551616 ∧ q.2 < 18446744073709551616 := fun i => by
    by_cases hi : i < n
    · obtain ⟨hs, fuel, y, ht⟩ := hE i hi
      obtain ⟨xs, m, _, _, hln, hl, hel⟩ := DataW.trod_array Try.underlying24 ht
      match hcs : (E i).toList, (show (E i).toList.length = 2 by simpa using hs) with
      | [x, y], _ =>
        rw [hcs] at hel
        match xs, hl with
        | [u0, u1], _ =>
          have h0 := hel 0 (by decide)
          have h1 := hel 1 (by decide)
          rw [hc1] at h0 h1
          simp only [Nat.zero_mul, Nat.one_mul, List.drop_zero, List.drop_succ_cons, List.take_succ_cons, List.take_zero] at h0 h1
          obtain ⟨k0, e0, _, w0⟩ := DataW.trod_int Try.underlying22 h0
          obtain ⟨k1, e1, _, w1⟩ := DataW.trod_int Try.underlying22 h1
          have b0 := bounds_u64 w0
          have b1 := bounds_u64 w1
          simp only [List.cons.injEq, and_true] at e0 e1
          subst e0 e1
          refine ⟨(k0.toNat, k1.toNat), fun _ => ⟨?_, by simp only; omega, by simp only; omega⟩⟩
          rw [show (((k0.toNat, k1.toNat).1 : Nat) : Int) = k0 by simp only; omega, show (((k0.toNat, k1.toNat).2 : Nat) : Int) = k1 by simp only; omega]
          exact Array.toList_inj.1 hcs
    · exact ⟨(0, 0), fun hn => absurd hn hi⟩
  have hlen : ((List.range n).map fun i => Classical.choose (hex i)).length = n := by simp
  refine ⟨(List.range n).map fun i => Classical.choose (hex i), ?_, ?_⟩
  · intro q hq
    obtain ⟨i, hi, rfl⟩ := List.mem_map.1 hq
    exact ((Classical.choose_spec (hex i)) (by simpa using hi)).2
  · rw [hlen]
    obtain ⟨a, c, rfl, hm, hc'⟩ := hS
    refine ⟨a, c, rfl, hm, fun h0 => ?_⟩
    obtain ⟨b, off, rfl, hb, hcell⟩ := hc' h0
    refine ⟨b, off, rfl, hb, fun i hi j hj => ?_⟩
    rw [hcell i hi j hj, (Classical.choose_spec (hex i) hi).1]
    simp [elM, List.getD, hi]
theorem eqSH_self (a b n : Int) (w : World) : (Op.equalIn 10000 46 (.agg #[.int .u64 a, .int .u64 b, .int .i64 n]) (.agg #[.int .u64 a, .int .u64 b, .int .i64 n])).run Try.prog w = .ok true w := by
  have u2 := Try.underlying3
  have hS : Try.prog.underlying 46 = some (.struct (Try.prog.fieldsOf 46)) := by kernel_rfl
  rw [show (10000 : Nat) = 9997 + 1 + 1 + 1 from rfl, run_equalIn_struct w (9997 + 1 + 1) 46 _ _ hS (by kernel_rfl)]
  simp only [Program.fieldsOf, Try.underlying46]
  have hp : (Op.equalIn (9997 + 1 + 1) 24 (.agg #[.int .u64 a, .int .u64 b]) (.agg #[.int .u64 a, .int .u64 b])).run Try.prog w = .ok true w := by
    have := run_equalIn_ints (P := Try.prog) w 24 22 .u64 2 9997 Try.underlying24 Try.underlying22 (fun W => by kernel_rfl) (fun W => by kernel_rfl) #[.int .u64 a, .int .u64 b] #[.int .u64 a, .int .u64 b] (fun i => if i = 0 then a else b) (fun i => if i = 0 then a else b) (fun i hi => by
      have : i = 0 ∨ i = 1 := by omega
      rcases this with rfl | rfl <;> simp)
    rw [this]
    simp
  have hq : ((part 24 #[.int .u64 a, .int .u64 b, .int .i64 n] 0).run Try.prog w) = .ok (.agg #[.int .u64 a, .int .u64 b]) w := by kernel_rfl
  have hr : ((part 3 #[.int .u64 a, .int .u64 b, .int .i64 n] 2).run Try.prog w) = .ok (.int .i64 n) w := by kernel_rfl
  have hi : (Op.equalIn (9997 + 1 + 1) 3 (.int .i64 n) (.int .i64 n)).run Try.prog w = .ok true w := by go_simp
  simp only [Op.eqFields, Sem.run_bind, hp, hq, hr, hi, Result.andThen_ok, List.toList_toArray, Sem.run_ite]
  go_simp
theorem eqg_SH : Try.prog.eqGuardType Try.prog.depth 46 = false := by kernel_rfl
theorem dd_at (l : List (Nat × Nat)) (k : Nat) (h : k < l.length) (hn : l[k] ∉ l.take k) : (dd l)[(dd (l.take k)).length]? = some l[k] := by
  have h1 : l = l.take (k + 1) ++ l.drop (k + 1) := (List.take_append_drop _ _).symm
  have h2 := dd_pre (l.take (k + 1)) (l.drop (k + 1))
  rw [← h1, List.take_succ_eq_append_getElem h, dd_snoc, if_neg (fun hc => hn ((mem_dd _ _).1 hc))] at h2
  obtain ⟨t, ht⟩ := h2
  rw [← ht]
  simp
theorem equalIn_M' (a b c d : Nat) (e : Bool) (he : e = decide ((a, b) = (c, d))) (w : World) : (Op.equalIn 10000 24 (.agg #[.int .u64 (a : Int), .int .u64 (b : Int)]) (.agg #[.int .u64 (c : Int), .int .u64 (d : Int)])).run Try.prog w = .ok e w := by
  rw [equalIn_M]
  congr 1
  subst he
  rw [Bool.eq_iff_iff]
  simp
  omega
theorem first_step (l : List (Nat × Nat)) (q k : Nat) (x y : Nat × Nat) (h : l.take (q + 1) = l.take q ++ [y]) : decide (x ∉ l.take (min (q + 1) k)) = (decide (x ∉ l.take (min q k)) && (decide (y ≠ x) || decide (k ≤ q))) := by
  by_cases hq : q < k
  · rw [Nat.min_eq_left (by omega), Nat.min_eq_left (by omega), h, decide_eq_false (p := k ≤ q) (by omega), Bool.or_false, Bool.eq_iff_iff]
    simp only [decide_eq_true_eq, Bool.and_eq_true, List.mem_append, List.mem_singleton, not_or, ne_eq]
    constructor
    · rintro ⟨h1, h2⟩; exact ⟨h1, fun e => h2 e.symm⟩
    · rintro ⟨h1, h2⟩; exact ⟨h1, fun e => h2 e.symm⟩
  · rw [Nat.min_eq_right (by omega), Nat.min_eq_right (by omega), decide_eq_true (p := k ≤ q) (by omega), Bool.or_true, Bool.and_true]
attribute [local irreducible] dd
set_option maxRecDepth 100000 in
set_option maxHeartbeats 2000000 in
theorem law_shares (v : Value) (l : List (Nat × Nat)) (ho : okM l) (w : World) (hs : Sl w 2 l.length v (elM l)) :
    Calls Try.prog 7 #[v] w (Ret fun v' w' => v' = .bool true ∧ Below w.heap.size w w') := by
  have H := St.init w
  have hs' := hs
  obtain ⟨ad, c0, rfl, hm, _⟩ := hs'
  unfold maxLen at hm
  have HO := Lib.hid ho
  clear ho
  have hg1 := eqg_M
  have hg2 := eqg_SH
  by_cases hl : l.length ≤ 100
  · obtain ⟨N, hN⟩ : ∃ N, (dd l).length = N := ⟨_, rfl⟩
    have hN100 : N ≤ 100 := by
      have := dd_len l []
      rw [← hN]
      unfold dd
      simp at this
      omega
    have HN := Lib.hid hN
    clear hN
    go_enter Try.func7, Try.ntmps7
    go_wp2_with (first | (go_at_call 25; (with_reducible refine (shares_ok _ l hl HO.out _ (hs.grow H.below)).mono ?_); rintro e w1 ⟨v, rfl, hr⟩; obtain ⟨⟨ap, cp, rfl⟩, ho, hb1⟩ := hr; replace H := H.new hb1 (slc_sound ho) (fun g hg => (ho.lt g hg).1); clear hb1 ho; rw [HN.out] at H ⊢))
    go_loopw [4, 5] (fun at_ i wr => ∃ k n : Nat, k ≤ l.length ∧ i = .int .i64 (k : Int) ∧ at_ = .int .i64 (n : Int) ∧ Hid ((dd (l.take k)).length = n) ∧ St w.heap.size w wr [slc 46 3 (.slice ap N cp) N (shV l (dd l))]) (fun _ i _ => l.length - (intOf i).toNat)
    case atStart => exact ⟨0, 0, Nat.zero_le _, rfl, rfl, Lib.hid (by rw [List.take_zero]; unfold dd; rfl), H⟩
    case round =>
      clear H
      obtain ⟨k, n, hk, rfl, rfl, HD, H⟩ := hrel
      by_cases hlt : k < l.length
      · obtain ⟨b1, o1, rfl, hb1⟩ := hs.addr (by omega)
        have hc1 := hs.cell hlt
        unfold elM at hc1
        have hsn : l.take (k + 1) = l.take k ++ [l[k]] := List.take_succ_eq_append_getElem hlt
        have hgd : l.getD k (0, 0) = l[k] := by simp [List.getD, hlt]
        rw [hgd] at hc1
        have hat := dd_at l k hlt
        obtain ⟨⟨a, b⟩, hx⟩ : ∃ x, l[k] = x := ⟨_, rfl⟩
        rw [hx] at hc1 hsn hat
        have HSN := Lib.hid hsn
        have HAT := Lib.hid hat
        have kli : (k : Int) < (l.length : Int) := by omega
        clear hsn hat hgd hx
        go_wp2_with fail
        go_loopw [6, 7, 8] (fun n' f j wr => ∃ (q : Nat) (m : Nat) (fb : Bool), q ≤ l.length ∧ j = .int .i64 (q : Int) ∧ n' = .int .i64 (m : Int) ∧ m ≤ q ∧ f = .bool fb ∧ Hid ((l.take q).count (a, b) = m) ∧ Hid (fb = decide ((a, b) ∉ l.take (min q k))) ∧ St w.heap.size w wr [slc 46 3 (.slice ap N cp) N (shV l (dd l))]) (fun _ _ j _ => l.length - (intOf j).toNat)
        case atStart => exact ⟨0, 0, true, Nat.zero_le _, rfl, rfl, Nat.le_refl _, rfl, Lib.hid rfl, Lib.hid (by simp), H⟩
        case round =>
          clear H
          obtain ⟨q, m, fb, hq, rfl, rfl, hmq, rfl, HM, HF, H⟩ := hrel
          by_cases hqt : q < l.length
          · have hc2 := hs.cell hqt
            unfold elM at hc2
            have hsn : l.take (q + 1) = l.take q ++ [l[q]] := List.take_succ_eq_append_getElem hqt
            have hgd : l.getD q (0, 0) = l[q] := by simp [List.getD, hqt]
            rw [hgd] at hc2
            obtain ⟨⟨c, d⟩, hx⟩ : ∃ x, l[q] = x := ⟨_, rfl⟩
            rw [hx] at hc2 hsn
            have HQ := Lib.hid hsn
            have qli : (q : Int) < (l.length : Int) := by omega
            have m100 : m ≤ 100 := by omega
            clear hsn hgd hx
            cases hcd : decide ((c, d) = (a, b))
            · have he := equalIn_M' c d a b false hcd.symm
              have HCD := Lib.hid hcd
              clear hcd
              go_wp2_with fail
              refine rg_begin 9 rfl (S := fun W => St _ _ W _) (by kernel_rfl) H.drew ?_
              replace H := H.drew
              have HS := H
              refine rg_take (i := 0) rfl (by kernel_rfl) (by kernel_rfl) (by kernel_rfl) (Yld.move rfl rfl) HS ?_; simp only [Act.put, eval_tmp, eval_const, getD_lit0, getD_lits, if_true, if_false, List.setIfInBounds_toArray, List.set_cons_zero, List.set_cons_succ]
              refine rg_take (i := 1) rfl (by kernel_rfl) (by kernel_rfl) (by kernel_rfl) (Yld.move rfl rfl) HS ?_; simp only [Act.put, eval_tmp, eval_const, getD_lit0, getD_lits, if_true, if_false, List.setIfInBounds_toArray, List.set_cons_zero, List.set_cons_succ]
              refine rg_take (i := 2) rfl (by kernel_rfl) (by kernel_rfl) (by kernel_rfl) (Yld.of rfl (fun W _ => by go_simp; first | done | with_reducible rfl)) HS ?_; simp only [Act.put, List.setIfInBounds_toArray, List.set_cons_zero, List.set_cons_succ]
              first | (refine rg_take (i := 3) rfl (by kernel_rfl) (by kernel_rfl) (by kernel_rfl) (Yld.ldr rfl rfl agg24 size24 rfl (by repeat (first | exact List.mem_cons_self | apply List.mem_cons_of_mem)) (by first | rfl | (simp; done) | assumption)) HS ?_; simp only [Act.put, List.setIfInBounds_toArray, List.set_cons_zero, List.set_cons_succ]) | (refine rg_take (i := 3) rfl (by kernel_rfl) (by kernel_rfl) (by kernel_rfl) (Yld.ldor rfl rfl agg24 size24 rfl (by assumption) (by first | rfl | (simp; done) | assumption) (by assumption)) HS ?_; simp only [Act.put, List.setIfInBounds_toArray, List.set_cons_zero, List.set_cons_succ])
              refine rg_take (i := 4) rfl (by kernel_rfl) (by kernel_rfl) (by kernel_rfl) (Yld.move rfl rfl) HS ?_; simp only [Act.put, eval_tmp, eval_const, getD_lit0, getD_lits, if_true, if_false, List.setIfInBounds_toArray, List.set_cons_zero, List.set_cons_succ]
              refine rg_take (i := 5) rfl (by kernel_rfl) (by kernel_rfl) (by kernel_rfl) (Yld.move rfl rfl) HS ?_; simp only [Act.put, eval_tmp, eval_const, getD_lit0, getD_lits, if_true, if_false, List.setIfInBounds_toArray, List.set_cons_zero, List.set_cons_succ]
              refine rg_take (i := 6) rfl (by kernel_rfl) (by kernel_rfl) (by kernel_rfl) (Yld.of rfl (fun W _ => by go_simp; first | done | with_reducible rfl)) HS ?_; simp only [Act.put, List.setIfInBounds_toArray, List.set_cons_zero, List.set_cons_succ]
              first | (refine rg_take (i := 7) rfl (by kernel_rfl) (by kernel_rfl) (by kernel_rfl) (Yld.ldr rfl rfl agg24 size24 rfl (by repeat (first | exact List.mem_cons_self | apply List.mem_cons_of_mem)) (by first | rfl | (simp; done) | assumption)) HS ?_; simp only [Act.put, List.setIfInBounds_toArray, List.set_cons_zero, List.set_cons_succ]) | (refine rg_take (i := 7) rfl (by kernel_rfl) (by kernel_rfl) (by kernel_rfl) (Yld.ldor rfl rfl agg24 size24 rfl (by assumption) (by first | rfl | (simp; done) | assumption) (by assumption)) HS ?_; simp only [Act.put, List.setIfInBounds_toArray, List.set_cons_zero, List.set_cons_succ])
              refine rg_take (i := 8) rfl (by kernel_rfl) (by kernel_rfl) (by kernel_rfl) (Yld.of rfl (fun W _ => by go_simp; first | done | with_reducible rfl)) HS ?_; simp only [Act.put, List.setIfInBounds_toArray, List.set_cons_zero, List.set_cons_succ]
              refine rg_done (by kernel_rfl) ?_
              go_wp2_with fail
              go_roundw
              case rel =>
                have hne : (c, d) ≠ (a, b) := of_decide_eq_false HCD.out
                exact ⟨q + 1, m, fb, by omega, by go_num, rfl, by omega, rfl, Lib.hid (by rw [HQ.out, List.count_append, HM.out, List.count_singleton]; simp [hne]), Lib.hid (by rw [first_step l q k _ _ HQ.out, ← HF.out]; simp [hne]), H.sub (by repeat (first | exact List.Sublist.refl _ | exact List.nil_sublist _ | (with_reducible apply List.Sublist.cons_cons) | apply List.Sublist.cons))⟩
              case measure => simp [intOf]; omega
            · have he := equalIn_M' c d a b true hcd.symm
              have e0 := of_decide_eq_true hcd
              injection e0 with e1 e2
              subst e1 e2
              clear hcd
              by_cases hqk : q < k
              · have hqi : ¬ (k : Int) ≤ (q : Int) := by omega
                cases fb
                · go_wp2_with fail
                  refine rg_begin 9 rfl (S := fun W => St _ _ W _) (by kernel_rfl) H.drew ?_
                  replace H := H.drew
                  have HS := H
                  refine rg_take (i := 0) rfl (by kernel_rfl) (by kernel_rfl) (by kernel_rfl) (Yld.move rfl rfl) HS ?_; simp only [Act.put, eval_tmp, eval_const, getD_lit0, getD_lits, if_true, if_false, List.setIfInBounds_toArray, List.set_cons_zero, List.set_cons_succ]
                  refine rg_take (i := 1) rfl (by kernel_rfl) (by kernel_rfl) (by kernel_rfl) (Yld.move rfl rfl) HS ?_; simp only [Act.put, eval_tmp, eval_const, getD_lit0, getD_lits, if_true, if_false, List.setIfInBounds_toArray, List.set_cons_zero, List.set_cons_succ]
                  refine rg_take (i := 2) rfl (by kernel_rfl) (by kernel_rfl) (by kernel_rfl) (Yld.of rfl (fun W _ => by go_simp; first | done | with_reducible rfl)) HS ?_; simp only [Act.put, List.setIfInBounds_toArray, List.set_cons_zero, List.set_cons_succ]
                  first | (refine rg_take (i := 3) rfl (by kernel_rfl) (by kernel_rfl) (by kernel_rfl) (Yld.ldr rfl rfl agg24 size24 rfl (by repeat (first | exact List.mem_cons_self | apply List.mem_cons_of_mem)) (by first | rfl | (simp; done) | assumption)) HS ?_; simp only [Act.put, List.setIfInBounds_toArray, List.set_cons_zero, List.set_cons_succ]) | (refine rg_take (i := 3) rfl (by kernel_rfl) (by kernel_rfl) (by kernel_rfl) (Yld.ldor rfl rfl agg24 size24 rfl (by assumption) (by first | rfl | (simp; done) | assumption) (by assumption)) HS ?_; simp only [Act.put, List.setIfInBounds_toArray, List.set_cons_zero, List.set_cons_succ])
                  refine rg_take (i := 4) rfl (by kernel_rfl) (by kernel_rfl) (by kernel_rfl) (Yld.move rfl rfl) HS ?_; simp only [Act.put, eval_tmp, eval_const, getD_lit0, getD_lits, if_true, if_false, List.setIfInBounds_toArray, List.set_cons_zero, List.set_cons_succ]
                  refine rg_take (i := 5) rfl (by kernel_rfl) (by kernel_rfl) (by kernel_rfl) (Yld.move rfl rfl) HS ?_; simp only [Act.put, eval_tmp, eval_const, getD_lit0, getD_lits, if_true, if_false, List.setIfInBounds_toArray, List.set_cons_zero, List.set_cons_succ]
                  refine rg_take (i := 6) rfl (by kernel_rfl) (by kernel_rfl) (by kernel_rfl) (Yld.of rfl (fun W _ => by go_simp; first | done | with_reducible rfl)) HS ?_; simp only [Act.put, List.setIfInBounds_toArray, List.set_cons_zero, List.set_cons_succ]
                  first | (refine rg_take (i := 7) rfl (by kernel_rfl) (by kernel_rfl) (by kernel_rfl) (Yld.ldr rfl rfl agg24 size24 rfl (by repeat (first | exact List.mem_cons_self | apply List.mem_cons_of_mem)) (by first | rfl | (simp; done) | assumption)) HS ?_; simp only [Act.put, List.setIfInBounds_toArray, List.set_cons_zero, List.set_cons_succ]) | (refine rg_take (i := 7) rfl (by kernel_rfl) (by kernel_rfl) (by kernel_rfl) (Yld.ldor rfl rfl agg24 size24 rfl (by assumption) (by first | rfl | (simp; done) | assumption) (by assumption)) HS ?_; simp only [Act.put, List.setIfInBounds_toArray, List.set_cons_zero, List.set_cons_succ])
                  refine rg_take (i := 8) rfl (by kernel_rfl) (by kernel_rfl) (by kernel_rfl) (Yld.of rfl (fun W _ => by go_simp; first | done | with_reducible rfl)) HS ?_; simp only [Act.put, List.setIfInBounds_toArray, List.set_cons_zero, List.set_cons_succ]
                  refine rg_done (by kernel_rfl) ?_
                  go_wp2_with fail
                  go_roundw
                  case rel => exact ⟨q + 1, m + 1, _, by omega, by go_num, by go_num, by omega, rfl, Lib.hid (by rw [HQ.out, List.count_append, HM.out]; simp), Lib.hid (by rw [first_step l q k _ _ HQ.out, ← HF.out]; simp [hqi]; try omega), H.sub (by repeat (first | exact List.Sublist.refl _ | exact List.nil_sublist _ | (with_reducible apply List.Sublist.cons_cons) | apply List.Sublist.cons))⟩
                  case measure => simp [intOf]; omega
                · go_wp2_with fail
                  refine rg_begin 9 rfl (S := fun W => St _ _ W _) (by kernel_rfl) H.drew ?_
                  replace H := H.drew
                  have HS := H
                  refine rg_take (i := 0) rfl (by kernel_rfl) (by kernel_rfl) (by kernel_rfl) (Yld.move rfl rfl) HS ?_; simp only [Act.put, eval_tmp, eval_const, getD_lit0, getD_lits, if_true, if_false, List.setIfInBounds_toArray, List.set_cons_zero, List.set_cons_succ]
                  refine rg_take (i := 1) rfl (by kernel_rfl) (by kernel_rfl) (by kernel_rfl) (Yld.move rfl rfl) HS ?_; simp only [Act.put, eval_tmp, eval_const, getD_lit0, getD_lits, if_true, if_false, List.setIfInBounds_toArray, List.set_cons_zero, List.set_cons_succ]
                  refine rg_take (i := 2) rfl (by kernel_rfl) (by kernel_rfl) (by kernel_rfl) (Yld.of rfl (fun W _ => by go_simp; first | done | with_reducible rfl)) HS ?_; simp only [Act.put, List.setIfInBounds_toArray, List.set_cons_zero, List.set_cons_succ]
                  first | (refine rg_take (i := 3) rfl (by kernel_rfl) (by kernel_rfl) (by kernel_rfl) (Yld.ldr rfl rfl agg24 size24 rfl (by repeat (first | exact List.mem_cons_self | apply List.mem_cons_of_mem)) (by first | rfl | (simp; done) | assumption)) HS ?_; simp only [Act.put, List.setIfInBounds_toArray, List.set_cons_zero, List.set_cons_succ]) | (refine rg_take (i := 3) rfl (by kernel_rfl) (by kernel_rfl) (by kernel_rfl) (Yld.ldor rfl rfl agg24 size24 rfl (by assumption) (by first | rfl | (simp; done) | assumption) (by assumption)) HS ?_; simp only [Act.put, List.setIfInBounds_toArray, List.set_cons_zero, List.set_cons_succ])
                  refine rg_take (i := 4) rfl (by kernel_rfl) (by kernel_rfl) (by kernel_rfl) (Yld.move rfl rfl) HS ?_; simp only [Act.put, eval_tmp, eval_const, getD_lit0, getD_lits, if_true, if_false, List.setIfInBounds_toArray, List.set_cons_zero, List.set_cons_succ]
                  refine rg_take (i := 5) rfl (by kernel_rfl) (by kernel_rfl) (by kernel_rfl) (Yld.move rfl rfl) HS ?_; simp only [Act.put, eval_tmp, eval_const, getD_lit0, getD_lits, if_true, if_false, List.setIfInBounds_toArray, List.set_cons_zero, List.set_cons_succ]
                  refine rg_take (i := 6) rfl (by kernel_rfl) (by kernel_rfl) (by kernel_rfl) (Yld.of rfl (fun W _ => by go_simp; first | done | with_reducible rfl)) HS ?_; simp only [Act.put, List.setIfInBounds_toArray, List.set_cons_zero, List.set_cons_succ]
                  first | (refine rg_take (i := 7) rfl (by kernel_rfl) (by kernel_rfl) (by kernel_rfl) (Yld.ldr rfl rfl agg24 size24 rfl (by repeat (first | exact List.mem_cons_self | apply List.mem_cons_of_mem)) (by first | rfl | (simp; done) | assumption)) HS ?_; simp only [Act.put, List.setIfInBounds_toArray, List.set_cons_zero, List.set_cons_succ]) | (refine rg_take (i := 7) rfl (by kernel_rfl) (by kernel_rfl) (by kernel_rfl) (Yld.ldor rfl rfl agg24 size24 rfl (by assumption) (by first | rfl | (simp; done) | assumption) (by assumption)) HS ?_; simp only [Act.put, List.setIfInBounds_toArray, List.set_cons_zero, List.set_cons_succ])
                  refine rg_take (i := 8) rfl (by kernel_rfl) (by kernel_rfl) (by kernel_rfl) (Yld.of rfl (fun W _ => by go_simp; first | done | with_reducible rfl)) HS ?_; simp only [Act.put, List.setIfInBounds_toArray, List.set_cons_zero, List.set_cons_succ]
                  refine rg_done (by kernel_rfl) ?_
                  go_wp2_with fail
                  go_roundw
                  case rel => exact ⟨q + 1, m + 1, _, by omega, by go_num, by go_num, by omega, rfl, Lib.hid (by rw [HQ.out, List.count_append, HM.out]; simp), Lib.hid (by rw [first_step l q k _ _ HQ.out, ← HF.out]; simp [hqi]; try omega), H.sub (by repeat (first | exact List.Sublist.refl _ | exact List.nil_sublist _ | (with_reducible apply List.Sublist.cons_cons) | apply List.Sublist.cons))⟩
                  case measure => simp [intOf]; omega
              · have hqi : (k : Int) ≤ (q : Int) := by omega
                cases fb
                · go_wp2_with fail
                  refine rg_begin 9 rfl (S := fun W => St _ _ W _) (by kernel_rfl) H.drew ?_
                  replace H := H.drew
                  have HS := H
                  refine rg_take (i := 0) rfl (by kernel_rfl) (by kernel_rfl) (by kernel_rfl) (Yld.move rfl rfl) HS ?_; simp only [Act.put, eval_tmp, eval_const, getD_lit0, getD_lits, if_true, if_false, List.setIfInBounds_toArray, List.set_cons_zero, List.set_cons_succ]
                  refine rg_take (i := 1) rfl (by kernel_rfl) (by kernel_rfl) (by kernel_rfl) (Yld.move rfl rfl) HS ?_; simp only [Act.put, eval_tmp, eval_const, getD_lit0, getD_lits, if_true, if_false, List.setIfInBounds_toArray, List.set_cons_zero, List.set_cons_succ]
                  refine rg_take (i := 2) rfl (by kernel_rfl) (by kernel_rfl) (by kernel_rfl) (Yld.of rfl (fun W _ => by go_simp; first | done | with_reducible rfl)) HS ?_; simp only [Act.put, List.setIfInBounds_toArray, List.set_cons_zero, List.set_cons_succ]
                  first | (refine rg_take (i := 3) rfl (by kernel_rfl) (by kernel_rfl) (by kernel_rfl) (Yld.ldr rfl rfl agg24 size24 rfl (by repeat (first | exact List.mem_cons_self | apply List.mem_cons_of_mem)) (by first | rfl | (simp; done) | assumption)) HS ?_; simp only [Act.put, List.setIfInBounds_toArray, List.set_cons_zero, List.set_cons_succ]) | (refine rg_take (i := 3) rfl (by kernel_rfl) (by kernel_rfl) (by kernel_rfl) (Yld.ldor rfl rfl agg24 size24 rfl (by assumption) (by first | rfl | (simp; done) | assumption) (by assumption)) HS ?_; simp only [Act.put, List.setIfInBounds_toArray, List.set_cons_zero, List.set_cons_succ])
                  refine rg_take (i := 4) rfl (by kernel_rfl) (by kernel_rfl) (by kernel_rfl) (Yld.move rfl rfl) HS ?_; simp only [Act.put, eval_tmp, eval_const, getD_lit0, getD_lits, if_true, if_false, List.setIfInBounds_toArray, List.set_cons_zero, List.set_cons_succ]
                  refine rg_take (i := 5) rfl (by kernel_rfl) (by kernel_rfl) (by kernel_rfl) (Yld.move rfl rfl) HS ?_; simp only [Act.put, eval_tmp, eval_const, getD_lit0, getD_lits, if_true, if_false, List.setIfInBounds_toArray, List.set_cons_zero, List.set_cons_succ]
                  refine rg_take (i := 6) rfl (by kernel_rfl) (by kernel_rfl) (by kernel_rfl) (Yld.of rfl (fun W _ => by go_simp; first | done | with_reducible rfl)) HS ?_; simp only [Act.put, List.setIfInBounds_toArray, List.set_cons_zero, List.set_cons_succ]
                  first | (refine rg_take (i := 7) rfl (by kernel_rfl) (by kernel_rfl) (by kernel_rfl) (Yld.ldr rfl rfl agg24 size24 rfl (by repeat (first | exact List.mem_cons_self | apply List.mem_cons_of_mem)) (by first | rfl | (simp; done) | assumption)) HS ?_; simp only [Act.put, List.setIfInBounds_toArray, List.set_cons_zero, List.set_cons_succ]) | (refine rg_take (i := 7) rfl (by kernel_rfl) (by kernel_rfl) (by kernel_rfl) (Yld.ldor rfl rfl agg24 size24 rfl (by assumption) (by first | rfl | (simp; done) | assumption) (by assumption)) HS ?_; simp only [Act.put, List.setIfInBounds_toArray, List.set_cons_zero, List.set_cons_succ])
                  refine rg_take (i := 8) rfl (by kernel_rfl) (by kernel_rfl) (by kernel_rfl) (Yld.of rfl (fun W _ => by go_simp; first | done | with_reducible rfl)) HS ?_; simp only [Act.put, List.setIfInBounds_toArray, List.set_cons_zero, List.set_cons_succ]
                  refine rg_done (by kernel_rfl) ?_
                  go_wp2_with fail
                  go_roundw
                  case rel => exact ⟨q + 1, m + 1, _, by omega, by go_num, by go_num, by omega, rfl, Lib.hid (by rw [HQ.out, List.count_append, HM.out]; simp), Lib.hid (by rw [first_step l q k _ _ HQ.out, ← HF.out]; simp [hqi]; try omega), H.sub (by repeat (first | exact List.Sublist.refl _ | exact List.nil_sublist _ | (with_reducible apply List.Sublist.cons_cons) | apply List.Sublist.cons))⟩
                  case measure => simp [intOf]; omega
                · go_wp2_with fail
                  refine rg_begin 9 rfl (S := fun W => St _ _ W _) (by kernel_rfl) H.drew ?_
                  replace H := H.drew
                  have HS := H
                  refine rg_take (i := 0) rfl (by kernel_rfl) (by kernel_rfl) (by kernel_rfl) (Yld.move rfl rfl) HS ?_; simp only [Act.put, eval_tmp, eval_const, getD_lit0, getD_lits, if_true, if_false, List.setIfInBounds_toArray, List.set_cons_zero, List.set_cons_succ]
                  refine rg_take (i := 1) rfl (by kernel_rfl) (by kernel_rfl) (by kernel_rfl) (Yld.move rfl rfl) HS ?_; simp only [Act.put, eval_tmp, eval_const, getD_lit0, getD_lits, if_true, if_false, List.setIfInBounds_toArray, List.set_cons_zero, List.set_cons_succ]
                  refine rg_take (i := 2) rfl (by kernel_rfl) (by kernel_rfl) (by kernel_rfl) (Yld.of rfl (fun W _ => by go_simp; first | done | with_reducible rfl)) HS ?_; simp only [Act.put, List.setIfInBounds_toArray, List.set_cons_zero, List.set_cons_succ]
                  first | (refine rg_take (i := 3) rfl (by kernel_rfl) (by kernel_rfl) (by kernel_rfl) (Yld.ldr rfl rfl agg24 size24 rfl (by repeat (first | exact List.mem_cons_self | apply List.mem_cons_of_mem)) (by first | rfl | (simp; done) | assumption)) HS ?_; simp only [Act.put, List.setIfInBounds_toArray, List.set_cons_zero, List.set_cons_succ]) | (refine rg_take (i := 3) rfl (by kernel_rfl) (by kernel_rfl) (by kernel_rfl) (Yld.ldor rfl rfl agg24 size24 rfl (by assumption) (by first | rfl | (simp; done) | assumption) (by assumption)) HS ?_; simp only [Act.put, List.setIfInBounds_toArray, List.set_cons_zero, List.set_cons_succ])
                  refine rg_take (i := 4) rfl (by kernel_rfl) (by kernel_rfl) (by kernel_rfl) (Yld.move rfl rfl) HS ?_; simp only [Act.put, eval_tmp, eval_const, getD_lit0, getD_lits, if_true, if_false, List.setIfInBounds_toArray, List.set_cons_zero, List.set_cons_succ]
                  refine rg_take (i := 5) rfl (by kernel_rfl) (by kernel_rfl) (by kernel_rfl) (Yld.move rfl rfl) HS ?_; simp only [Act.put, eval_tmp, eval_const, getD_lit0, getD_lits, if_true, if_false, List.setIfInBounds_toArray, List.set_cons_zero, List.set_cons_succ]
                  refine rg_take (i := 6) rfl (by kernel_rfl) (by kernel_rfl) (by kernel_rfl) (Yld.of rfl (fun W _ => by go_simp; first | done | with_reducible rfl)) HS ?_; simp only [Act.put, List.setIfInBounds_toArray, List.set_cons_zero, List.set_cons_succ]
                  first | (refine rg_take (i := 7) rfl (by kernel_rfl) (by kernel_rfl) (by kernel_rfl) (Yld.ldr rfl rfl agg24 size24 rfl (by repeat (first | exact List.mem_cons_self | apply List.mem_cons_of_mem)) (by first | rfl | (simp; done) | assumption)) HS ?_; simp only [Act.put, List.setIfInBounds_toArray, List.set_cons_zero, List.set_cons_succ]) | (refine rg_take (i := 7) rfl (by kernel_rfl) (by kernel_rfl) (by kernel_rfl) (Yld.ldor rfl rfl agg24 size24 rfl (by assumption) (by first | rfl | (simp; done) | assumption) (by assumption)) HS ?_; simp only [Act.put, List.setIfInBounds_toArray, List.set_cons_zero, List.set_cons_succ])
                  refine rg_take (i := 8) rfl (by kernel_rfl) (by kernel_rfl) (by kernel_rfl) (Yld.of rfl (fun W _ => by go_simp; first | done | with_reducible rfl)) HS ?_; simp only [Act.put, List.setIfInBounds_toArray, List.set_cons_zero, List.set_cons_succ]
                  refine rg_done (by kernel_rfl) ?_
                  go_wp2_with fail
                  go_roundw
                  case rel => exact ⟨q + 1, m + 1, _, by omega, by go_num, by go_num, by omega, rfl, Lib.hid (by rw [HQ.out, List.count_append, HM.out]; simp), Lib.hid (by rw [first_step l q k _ _ HQ.out, ← HF.out]; simp [hqi]; try omega), H.sub (by repeat (first | exact List.Sublist.refl _ | exact List.nil_sublist _ | (with_reducible apply List.Sublist.cons_cons) | apply List.Sublist.cons))⟩
                  case measure => simp [intOf]; omega
          · obtain rfl : q = l.length := by omega
            have hm := HM.out
            have hf := HF.out
            rw [List.take_length] at hm
            rw [Nat.min_eq_right hk] at hf
            have HM' := Lib.hid hm
            clear HM HF hm
            cases fb
            · have hin : (a, b) ∈ l.take k := by simpa using hf
              have HIN := Lib.hid hin
              clear hin hf
              go_wp2_with fail
              go_roundw
              case rel => exact ⟨k + 1, n, by omega, by go_num, rfl, Lib.hid (by rw [HSN.out, dd_snoc, if_pos ((mem_dd _ _).2 HIN.out), HD.out]), H⟩
              case measure => simp [intOf]; omega
            · have hin : (a, b) ∉ l.take k := by simpa using hf
              have hat := HAT.out hin
              rw [HD.out] at hat
              have hnN : n < N := by rw [← HN.out]; exact (List.getElem?_eq_some_iff.1 hat).1
              have h3 := sh_cell l (dd l) (a, b) n hat
              rw [HM'.out] at h3
              have HSA : Hid (∀ j, j < 3 → (shV l (dd l))[n * 3 + j]? = #[.int .u64 (a : Int), .int .u64 (b : Int), .int .i64 (m : Int)][j]?) := Lib.hid (fun j hj => by
                have : j = 0 ∨ j = 1 ∨ j = 2 := by omega
                rcases this with rfl | rfl | rfl
                · exact h3.2.1
                · exact h3.2.2
                · exact h3.1)
              have HIN := Lib.hid hin
              have he := eqSH_self (a : Int) (b : Int) (m : Int)
              have nNi : (n : Int) < (N : Int) := by omega
              have nNd : decide (N ≤ n) = false := decide_eq_false (by omega)
              obtain ⟨gp, rfl⟩ := H.own_addr (by repeat (first | exact List.mem_cons_self | apply List.mem_cons_of_mem)) (by omega)
              clear hin hf hat h3
              go_wp2_with fail
              refine rg_begin 17 rfl (S := fun W => St _ _ W _) (by kernel_rfl) H.drew ?_
              replace H := H.drew
              have HS := H
              refine rg_take (i := 0) rfl (by kernel_rfl) (by kernel_rfl) (by kernel_rfl) (Yld.move rfl rfl) HS ?_; simp only [Act.put, eval_tmp, eval_const, getD_lit0, getD_lits, if_true, if_false, List.setIfInBounds_toArray, List.set_cons_zero, List.set_cons_succ]
              refine rg_take (i := 1) rfl (by kernel_rfl) (by kernel_rfl) (by kernel_rfl) (Yld.move rfl rfl) HS ?_; simp only [Act.put, eval_tmp, eval_const, getD_lit0, getD_lits, if_true, if_false, List.setIfInBounds_toArray, List.set_cons_zero, List.set_cons_succ]
              refine rg_take (i := 2) rfl (by kernel_rfl) (by kernel_rfl) (by kernel_rfl) (Yld.of rfl (fun W _ => by go_simp; first | done | with_reducible rfl)) HS ?_; simp only [Act.put, List.setIfInBounds_toArray, List.set_cons_zero, List.set_cons_succ]
              refine rg_take (i := 3) rfl (by kernel_rfl) (by kernel_rfl) (by kernel_rfl) (Yld.of rfl (fun W _ => by go_simp; first | done | with_reducible rfl)) HS ?_; simp only [Act.put, List.setIfInBounds_toArray, List.set_cons_zero, List.set_cons_succ]
              refine rg_take (i := 4) rfl (by kernel_rfl) (by kernel_rfl) (by kernel_rfl) (Yld.move rfl rfl) HS ?_; simp only [Act.put, eval_tmp, eval_const, getD_lit0, getD_lits, if_true, if_false, List.setIfInBounds_toArray, List.set_cons_zero, List.set_cons_succ]
              refine rg_take (i := 5) rfl (by kernel_rfl) (by kernel_rfl) (by kernel_rfl) (Yld.move rfl rfl) HS ?_; simp only [Act.put, eval_tmp, eval_const, getD_lit0, getD_lits, if_true, if_false, List.setIfInBounds_toArray, List.set_cons_zero, List.set_cons_succ]
              refine rg_take (i := 6) rfl (by kernel_rfl) (by kernel_rfl) (by kernel_rfl) (Yld.move rfl rfl) HS ?_; simp only [Act.put, eval_tmp, eval_const, getD_lit0, getD_lits, if_true, if_false, List.setIfInBounds_toArray, List.set_cons_zero, List.set_cons_succ]
              refine rg_take (i := 7) rfl (by kernel_rfl) (by kernel_rfl) (by kernel_rfl) (Yld.of rfl (fun W _ => by go_simp; first | done | with_reducible rfl)) HS ?_; simp only [Act.put, List.setIfInBounds_toArray, List.set_cons_zero, List.set_cons_succ]
              refine rg_take (i := 8) rfl (by kernel_rfl) (by kernel_rfl) (by kernel_rfl) (Yld.lsa rfl rfl agg46 size46 rfl (by repeat (first | exact List.mem_cons_self | apply List.mem_cons_of_mem)) HSA.out rfl) HS ?_; simp only [Act.put, eval_tmp, eval_const, getD_lit0, getD_lits, if_true, if_false, List.setIfInBounds_toArray, List.set_cons_zero, List.set_cons_succ]
              refine rg_take (i := 9) rfl (by kernel_rfl) (by kernel_rfl) (by kernel_rfl) (Yld.move rfl rfl) HS ?_; simp only [Act.put, eval_tmp, eval_const, getD_lit0, getD_lits, if_true, if_false, List.setIfInBounds_toArray, List.set_cons_zero, List.set_cons_succ]
              refine rg_take (i := 10) rfl (by kernel_rfl) (by kernel_rfl) (by kernel_rfl) (Yld.move rfl rfl) HS ?_; simp only [Act.put, eval_tmp, eval_const, getD_lit0, getD_lits, if_true, if_false, List.setIfInBounds_toArray, List.set_cons_zero, List.set_cons_succ]
              refine rg_take (i := 11) rfl (by kernel_rfl) (by kernel_rfl) (by kernel_rfl) (Yld.of rfl (fun W _ => by go_simp; first | done | with_reducible rfl)) HS ?_; simp only [Act.put, List.setIfInBounds_toArray, List.set_cons_zero, List.set_cons_succ]
              first | (refine rg_take (i := 12) rfl (by kernel_rfl) (by kernel_rfl) (by kernel_rfl) (Yld.ldr rfl rfl agg24 size24 rfl (by repeat (first | exact List.mem_cons_self | apply List.mem_cons_of_mem)) (by first | rfl | (simp; done) | assumption)) HS ?_; simp only [Act.put, List.setIfInBounds_toArray, List.set_cons_zero, List.set_cons_succ]) | (refine rg_take (i := 12) rfl (by kernel_rfl) (by kernel_rfl) (by kernel_rfl) (Yld.ldor rfl rfl agg24 size24 rfl (by assumption) (by first | rfl | (simp; done) | assumption) (by assumption)) HS ?_; simp only [Act.put, List.setIfInBounds_toArray, List.set_cons_zero, List.set_cons_succ])
              refine rg_take (i := 13) rfl (by kernel_rfl) (by kernel_rfl) (by kernel_rfl) (Yld.move rfl rfl) HS ?_; simp only [Act.put, eval_tmp, eval_const, getD_lit0, getD_lits, if_true, if_false, List.setIfInBounds_toArray, List.set_cons_zero, List.set_cons_succ]
              refine rg_take (i := 14) rfl (by kernel_rfl) (by kernel_rfl) (by kernel_rfl) (Yld.of (v := .agg #[.int .u64 (a : Int), .int .u64 (b : Int), .int .i64 (m : Int)]) rfl (fun W _ => by kernel_rfl)) HS ?_; simp only [Act.put, eval_tmp, eval_const, getD_lit0, getD_lits, if_true, if_false, List.setIfInBounds_toArray, List.set_cons_zero, List.set_cons_succ]
              refine rg_take (i := 15) rfl (by kernel_rfl) (by kernel_rfl) (by kernel_rfl) (Yld.of rfl (fun W _ => by go_simp; first | done | with_reducible rfl)) HS ?_; simp only [Act.put, List.setIfInBounds_toArray, List.set_cons_zero, List.set_cons_succ]
              refine rg_take (i := 16) rfl (by kernel_rfl) (by kernel_rfl) (by kernel_rfl) (Yld.pick rfl rfl rfl) HS ?_; simp only [Act.put, eval_tmp, eval_const, getD_lit0, getD_lits, if_true, if_false, List.setIfInBounds_toArray, List.set_cons_zero, List.set_cons_succ]
              refine rg_done (by kernel_rfl) ?_
              go_wp2_with fail
              go_roundw
              case rel => exact ⟨k + 1, n + 1, by omega, by go_num, by go_num, Lib.hid (by rw [HSN.out, dd_snoc, if_neg (fun hc => HIN.out ((mem_dd _ _).1 hc)), List.length_append, HD.out]; rfl), H⟩
              case measure => simp [intOf]; omega
      · obtain rfl : k = l.length := by omega
        have hd := HD.out
        rw [List.take_length, HN.out] at hd
        subst hd
        go_wp2_with (first | (go_at_call 9; (with_reducible refine (awake_ok _).mono ?_); rintro e w1 ⟨v, rfl, hr⟩; obtain ⟨rfl, hb1⟩ := hr; replace H := H.grow hb1; clear hb1))
        go_ret
        exact ⟨_, rfl, rfl, H.below⟩
  · have hl' : (100 : Int) < (l.length : Int) := by omega
    go_enter Try.func7, Try.ntmps7
    go_wp2_with (first | (go_at_call 9; (with_reducible refine (awake_ok _).mono ?_); rintro e w1 ⟨v, rfl, hr⟩; obtain ⟨rfl, hb1⟩ := hr; replace H := H.grow hb1; clear hb1))
    go_ret
    exact ⟨_, rfl, rfl, H.below⟩
set_option maxRecDepth 100000 in
theorem maskShares_lifted (os : Os) (started : os.Started) (H : Type) (enc : TypeId × Value → H) :
    ReturnsInHanded {} Try.checked os 7 .any (Rows.maskSharesSpec.pre6 enc Try.prog Try.f7 Rows.maskSharesRow.domain false) (Rows.maskSharesSpec.post enc Try.prog Try.f7 false true false false) := by
  refine law_lifted (C := Try.checked) own started (by kernel_rfl) Try.func7 laidOut rfl Try.underlying4 rfl (by kernel_rfl) (fun ds hd => ?_)
    (ChangeSpec.witness6 (enc := enc) (C := Try.checked) false ⟨#[], #[.slice none 0 0], []⟩ 8 (by kernel_rfl) (by kernel_rfl) (by kernel_rfl) (by kernel_rfl)) ?_
  · match ds, hd with
    | [d0], _ => exact ⟨rfl, rfl, rfl⟩
  intro W base args ds p hval hA
  rw [Try.params7] at hA hval
  obtain ⟨v0, vs0, d0, ds0, p0, q0, hargs, rfl, rfl, h0, r0⟩ := trodAll_cons hA
  obtain ⟨rfl, rfl, rfl⟩ := trodAll_nil r0
  obtain rfl : args = #[v0] := by cases args; simp_all
  obtain ⟨xs0, ox0, sx0⟩ := open_ms (hval 0 42 v0 rfl rfl) h0
  exact law_shares v0 xs0 ox0 W sx0
theorem maskShares_over : Rows.maskSharesRow.holds Try.pinned (OpenSpec.ofChange Rows.maskSharesSpec) :=
  OpenClaim.holds_of_wide 7 Try.f7 rfl rfl rfl rfl rfl rfl rfl ⟨rfl, rfl, rfl, rfl, rfl⟩ rfl rfl rfl rfl rfl (by kernel_rfl) Try.func7 (by kernel_rfl)
    (of_decide_eq_true (by kernel_rfl)) (by unfold Func.isWrapper; first | (rw [if_pos (by decide +kernel)]; kernel_rfl) | (rw [if_neg (by decide +kernel)]; exact ⟨rfl, rfl⟩))
    (fun os started H enc _ => maskShares_lifted os started H enc)
theorem maskShares_holds : Rows.MaskSharesSaid := maskShares_over
#print axioms maskShares_holds
end Go.Proofs.Ytcgogcolfbpcfaa
