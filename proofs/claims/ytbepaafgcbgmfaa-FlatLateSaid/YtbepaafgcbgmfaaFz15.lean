/- Layer 29 (flat): the rules of one stay: blocks, who and what was known, what was sent behind; no condition. -/
import Derived.Test.YtbepaafgcbgmfaaFz14
namespace Go.Proofs.Ytbepaafgcbgmfaa
open Go.ChangeShapes Go.WideShapes Go.ChangeAt Go.RowKit Go.Maps Go.Deep
set_option linter.unusedVariables false
set_option linter.unusedSimpArgs false
set_option linter.unusedSectionVars false
set_option maxRecDepth 100000
set_option maxHeartbeats 4000000
theorem EvG.memS {w : World} {e : Eh} (h : EvG w e) : Sl w 2 e.1.x.mem.length (.slice e.2.ma e.1.x.mem.length e.2.mc) (elQ e.1.x.mem) := h.1.1.sl
/-- How many blocks there are. -/
def nbl (l : List Eh) : Nat := (l.filter fun e => decide (e.1.kd = 3)).length
theorem nbl_snoc (l : List Eh) (e : Eh) : nbl (l ++ [e]) = nbl l + (if e.1.kd = 3 then 1 else 0) := by
  unfold nbl; rw [List.filter_append, List.length_append]; by_cases h : e.1.kd = 3 <;> simp [h]
theorem nbl_le (l : List Eh) : nbl l ≤ l.length := List.length_filter_le _ _
/-- Each with its place. -/
def allN {α : Type} (p : Nat → α → Bool) : Nat → List α → Bool
  | _, [] => true
  | k, a :: l => p k a && allN p (k + 1) l
theorem allN_snoc {α : Type} (p : Nat → α → Bool) (a : α) : ∀ (l : List α) (k : Nat), allN p k (l ++ [a]) = (allN p k l && p (k + l.length) a)
  | [], k => by simp [allN]
  | b :: l, k => by
    show (p k b && allN p (k + 1) (l ++ [a])) = _
    rw [allN_snoc p a l (k + 1)]
    show _ = ((p k b && allN p (k + 1) l) && _)
    rw [Bool.and_assoc, List.length_cons]
    congr 3
    omega
theorem allN_take {α : Type} (p : Nat → α → Bool) : ∀ (l : List α) (k q : Nat), allN p k (l.take q) = false → allN p k l = false
  | [], k, q, h => by simpa using h
  | b :: l, k, 0, h => by simp [allN] at h
  | b :: l, k, q + 1, h => by
    simp only [List.take_succ_cons, allN, Bool.and_eq_false_iff] at h ⊢
    rcases h with h | h
    · exact .inl h
    · exact .inr (allN_take p l (k + 1) q h)
attribute [local irreducible] nbl allN wasD
theorem once_ok (y : Sy) (r : Bool) (hr : decide (nbl y.all ≤ 1) = r) (w : World) (hy : SyW w y) :
    Calls Try.prog 39 #[.agg #[.int .u16 (y.p.1 : Int), .int .u32 (y.p.2 : Int), .int .u64 (y.e.1.x.id : Int), .slice y.e.2.ma y.e.1.x.mem.length y.e.2.mc, .slice y.e.2.la y.e.1.x.lvs.length y.e.2.lc, .slice y.e.2.da y.e.1.x.ldr.length y.e.2.dc, .slice y.aa y.all.length y.ac, .slice y.ta y.told.length y.tc, .bool y.fol]] w (Ret fun v w' => v = .bool r ∧ Below w.heap.size w w') := by
  have H := St.init w
  have hs := hy.all
  have hlt := hy.la
  have HYW := Lib.hid hy
  obtain ⟨n, hn⟩ : ∃ n, y.all.length = n := ⟨_, rfl⟩
  have HN := Lib.hid hn
  have HR := Lib.hid hr
  rw [hn] at hs hlt ⊢
  obtain ⟨ta, hta⟩ : ∃ a, y.aa = a := ⟨_, rfl⟩
  rw [hta] at hs ⊢
  clear hn hr hy hta
  go_enter Try.func39, Try.ntmps39
  go_wp2_with (first | (with_reducible refine wpl rfl (dQ 1 rfl ?_); with_reducible refine (Stp.box 1 rfl rfl rfl H ?_); clear H; intro g1 w1 H; simp only [pS]; simp only [pE, nC, pS] at H) | (with_reducible refine wpl rfl (ldQ (ty := 22) rfl ?_); first | (with_reducible refine (Stp.ldo rfl agg22 rfl H (by assumption) (by assumption) ?_); simp only [pS]) | (with_reducible refine (Stp.ldc rfl agg22 rfl H mR cE ?_); simp only [pS])) | (with_reducible refine wpl rfl (ldQ (ty := 62) rfl ?_); first | (with_reducible refine (Stp.ldor rfl agg62 size62 rfl H (by assumption) sZ (by assumption) ?_); simp only [pS]) | (with_reducible refine (Stp.ldr rfl agg62 size62 rfl H mR sZ ?_); simp only [pS]) | (with_reducible refine (Stp.ldl rfl agg62 size62 rfl H mR (by simp) ?_); simp only [pS]; simp only [List.drop_succ_cons, List.drop_zero, List.take_succ_cons, List.take_zero])) | (with_reducible refine wpl rfl (dQ 5 rfl ?_); with_reducible refine (Stp.alloc 5 rfl rfl zero62 H ?_); clear H; intro g5 w1 H; simp only [pS]; simp only [nC] at H) | (with_reducible refine wpl rfl (stQ (ty := 62) rfl ?_); first | (with_reducible refine (Stp.str rfl size62 rfl rfl (by first | rfl | (simp [Value.oneCell']; done) | assumption) H uP sZ sZ ?_); clear H; intro w1 H; simp only [pS]) | (with_reducible refine (Stp.stl rfl size62 rfl rfl rfl rfl H uP (by simp) ?_); clear H; intro w1 H; simp only [pS]; simp only [List.drop_succ_cons, List.drop_zero, List.take_succ_cons, List.take_zero, List.nil_append, List.cons_append, Nat.reduceAdd] at H)) | (with_reducible refine wpl rfl (ldQ (ty := 3) rfl ?_); first | (with_reducible refine (Stp.ldo rfl agg3 rfl H (by assumption) (by assumption) ?_); simp only [pS]) | (with_reducible refine (Stp.ldc rfl agg3 rfl H mR cE ?_); simp only [pS])))
  have H3 : ∃ L3, St w.heap.size w _ L3 := ⟨_, H⟩
  clear H
  obtain ⟨L3, H⟩ := H3
  go_loopw [3, 9] (fun c i wr => ∃ q : Nat, q ≤ n ∧ i = .int .i64 q ∧ c = .int .i64 ((nbl (y.all.take q) : Nat) : Int) ∧ St w.heap.size w wr L3) (fun _ i _ => n - (intOf i).toNat)
  case atStart => exact ⟨0, Nat.zero_le _, rfl, by rw [List.take_zero]; unfold nbl; rfl, H⟩
  case round =>
    clear H
    obtain ⟨q, hq, rfl, rfl, H⟩ := hrel
    by_cases hlt2 : q < n
    · have hl1 : q < y.all.length := by rw [HN.out]; exact hlt2
      obtain ⟨b1, o1, rfl, hb1⟩ := hs.addr (by omega)
      have hc1 := hs.cell hlt2
      rw [elE_at hl1] at hc1
      have hme := List.getElem_mem hl1
      have HTk := Lib.hid (List.take_succ_eq_append_getElem hl1)
      obtain ⟨⟨V, h⟩, hx⟩ : ∃ x, y.all[q] = x := ⟨_, rfl⟩
      rw [hx] at hc1 hme HTk
      simp only at hc1
      have qli : (q : Int) < (n : Int) := by omega
      have hnb := nbl_le (y.all.take q)
      rw [List.length_take] at hnb
      have hnb2 : nbl (y.all.take q) ≤ 1000 := by omega
      by_cases hkd : V.kd = 3
      · have hki : (V.kd == 3) = true := by simpa using hkd
        have HV : Hid (nbl (y.all.take (q + 1)) = nbl (y.all.take q) + 1) := Lib.hid (by rw [HTk.out, nbl_snoc]; simp [hkd])
        clear hkd hme hx hl1 hnb
        go_wp2_with (first | (with_reducible refine wpl rfl (dQ 1 rfl ?_); with_reducible refine (Stp.box 1 rfl rfl rfl H ?_); clear H; intro g1 w1 H; simp only [pS]; simp only [pE, nC, pS] at H) | (with_reducible refine wpl rfl (ldQ (ty := 22) rfl ?_); first | (with_reducible refine (Stp.ldo rfl agg22 rfl H (by assumption) (by assumption) ?_); simp only [pS]) | (with_reducible refine (Stp.ldc rfl agg22 rfl H mR cE ?_); simp only [pS])) | (with_reducible refine wpl rfl (ldQ (ty := 62) rfl ?_); first | (with_reducible refine (Stp.ldor rfl agg62 size62 rfl H (by assumption) sZ (by assumption) ?_); simp only [pS]) | (with_reducible refine (Stp.ldr rfl agg62 size62 rfl H mR sZ ?_); simp only [pS]) | (with_reducible refine (Stp.ldl rfl agg62 size62 rfl H mR (by simp) ?_); simp only [pS]; simp only [List.drop_succ_cons, List.drop_zero, List.take_succ_cons, List.take_zero])) | (with_reducible refine wpl rfl (dQ 5 rfl ?_); with_reducible refine (Stp.alloc 5 rfl rfl zero62 H ?_); clear H; intro g5 w1 H; simp only [pS]; simp only [nC] at H) | (with_reducible refine wpl rfl (stQ (ty := 62) rfl ?_); first | (with_reducible refine (Stp.str rfl size62 rfl rfl (by first | rfl | (simp [Value.oneCell']; done) | assumption) H uP sZ sZ ?_); clear H; intro w1 H; simp only [pS]) | (with_reducible refine (Stp.stl rfl size62 rfl rfl rfl rfl H uP (by simp) ?_); clear H; intro w1 H; simp only [pS]; simp only [List.drop_succ_cons, List.drop_zero, List.take_succ_cons, List.take_zero, List.nil_append, List.cons_append, Nat.reduceAdd] at H)) | (with_reducible refine wpl rfl (ldQ (ty := 3) rfl ?_); first | (with_reducible refine (Stp.ldo rfl agg3 rfl H (by assumption) (by assumption) ?_); simp only [pS]) | (with_reducible refine (Stp.ldc rfl agg3 rfl H mR cE ?_); simp only [pS])))
        go_roundw
        case rel => exact ⟨q + 1, by omega, by go_num, by rw [HV.out]; go_num, H.sub sU⟩
        case measure => simp [intOf]; omega
      · have hki : (V.kd == 3) = false := by simpa using hkd
        have HV : Hid (nbl (y.all.take (q + 1)) = nbl (y.all.take q)) := Lib.hid (by rw [HTk.out, nbl_snoc]; simp [hkd])
        clear hkd hme hx hl1 hnb
        go_wp2_with (first | (with_reducible refine wpl rfl (dQ 1 rfl ?_); with_reducible refine (Stp.box 1 rfl rfl rfl H ?_); clear H; intro g1 w1 H; simp only [pS]; simp only [pE, nC, pS] at H) | (with_reducible refine wpl rfl (ldQ (ty := 22) rfl ?_); first | (with_reducible refine (Stp.ldo rfl agg22 rfl H (by assumption) (by assumption) ?_); simp only [pS]) | (with_reducible refine (Stp.ldc rfl agg22 rfl H mR cE ?_); simp only [pS])) | (with_reducible refine wpl rfl (ldQ (ty := 62) rfl ?_); first | (with_reducible refine (Stp.ldor rfl agg62 size62 rfl H (by assumption) sZ (by assumption) ?_); simp only [pS]) | (with_reducible refine (Stp.ldr rfl agg62 size62 rfl H mR sZ ?_); simp only [pS]) | (with_reducible refine (Stp.ldl rfl agg62 size62 rfl H mR (by simp) ?_); simp only [pS]; simp only [List.drop_succ_cons, List.drop_zero, List.take_succ_cons, List.take_zero])) | (with_reducible refine wpl rfl (dQ 5 rfl ?_); with_reducible refine (Stp.alloc 5 rfl rfl zero62 H ?_); clear H; intro g5 w1 H; simp only [pS]; simp only [nC] at H) | (with_reducible refine wpl rfl (stQ (ty := 62) rfl ?_); first | (with_reducible refine (Stp.str rfl size62 rfl rfl (by first | rfl | (simp [Value.oneCell']; done) | assumption) H uP sZ sZ ?_); clear H; intro w1 H; simp only [pS]) | (with_reducible refine (Stp.stl rfl size62 rfl rfl rfl rfl H uP (by simp) ?_); clear H; intro w1 H; simp only [pS]; simp only [List.drop_succ_cons, List.drop_zero, List.take_succ_cons, List.take_zero, List.nil_append, List.cons_append, Nat.reduceAdd] at H)) | (with_reducible refine wpl rfl (ldQ (ty := 3) rfl ?_); first | (with_reducible refine (Stp.ldo rfl agg3 rfl H (by assumption) (by assumption) ?_); simp only [pS]) | (with_reducible refine (Stp.ldc rfl agg3 rfl H mR cE ?_); simp only [pS])))
        go_roundw
        case rel => exact ⟨q + 1, by omega, by go_num, by rw [HV.out], H.sub sU⟩
        case measure => simp [intOf]; omega
    · obtain rfl : q = n := by omega
      have HTT : Hid (y.all.take q = y.all) := Lib.hid (List.take_of_length_le (by rw [HN.out]; omega))
      by_cases hle : nbl (y.all.take q) ≤ 1
      · have HV : Hid (r = true) := Lib.hid (by rw [← HR.out, ← HTT.out]; exact decide_eq_true hle)
        have hli : ((nbl (y.all.take q) : Nat) : Int) ≤ 1 := by omega
        go_wp2_with (first | (with_reducible refine wpl rfl (dQ 1 rfl ?_); with_reducible refine (Stp.box 1 rfl rfl rfl H ?_); clear H; intro g1 w1 H; simp only [pS]; simp only [pE, nC, pS] at H) | (with_reducible refine wpl rfl (ldQ (ty := 22) rfl ?_); first | (with_reducible refine (Stp.ldo rfl agg22 rfl H (by assumption) (by assumption) ?_); simp only [pS]) | (with_reducible refine (Stp.ldc rfl agg22 rfl H mR cE ?_); simp only [pS])) | (with_reducible refine wpl rfl (ldQ (ty := 62) rfl ?_); first | (with_reducible refine (Stp.ldor rfl agg62 size62 rfl H (by assumption) sZ (by assumption) ?_); simp only [pS]) | (with_reducible refine (Stp.ldr rfl agg62 size62 rfl H mR sZ ?_); simp only [pS]) | (with_reducible refine (Stp.ldl rfl agg62 size62 rfl H mR (by simp) ?_); simp only [pS]; simp only [List.drop_succ_cons, List.drop_zero, List.take_succ_cons, List.take_zero])) | (with_reducible refine wpl rfl (dQ 5 rfl ?_); with_reducible refine (Stp.alloc 5 rfl rfl zero62 H ?_); clear H; intro g5 w1 H; simp only [pS]; simp only [nC] at H) | (with_reducible refine wpl rfl (stQ (ty := 62) rfl ?_); first | (with_reducible refine (Stp.str rfl size62 rfl rfl (by first | rfl | (simp [Value.oneCell']; done) | assumption) H uP sZ sZ ?_); clear H; intro w1 H; simp only [pS]) | (with_reducible refine (Stp.stl rfl size62 rfl rfl rfl rfl H uP (by simp) ?_); clear H; intro w1 H; simp only [pS]; simp only [List.drop_succ_cons, List.drop_zero, List.take_succ_cons, List.take_zero, List.nil_append, List.cons_append, Nat.reduceAdd] at H)) | (with_reducible refine wpl rfl (ldQ (ty := 3) rfl ?_); first | (with_reducible refine (Stp.ldo rfl agg3 rfl H (by assumption) (by assumption) ?_); simp only [pS]) | (with_reducible refine (Stp.ldc rfl agg3 rfl H mR cE ?_); simp only [pS])))
        go_ret
        exact ⟨_, rfl, by rw [HV.out]; rfl, H.below⟩
      · have HV : Hid (r = false) := Lib.hid (by rw [← HR.out, ← HTT.out]; exact decide_eq_false hle)
        have hli : ¬ ((nbl (y.all.take q) : Nat) : Int) ≤ 1 := by omega
        go_wp2_with (first | (with_reducible refine wpl rfl (dQ 1 rfl ?_); with_reducible refine (Stp.box 1 rfl rfl rfl H ?_); clear H; intro g1 w1 H; simp only [pS]; simp only [pE, nC, pS] at H) | (with_reducible refine wpl rfl (ldQ (ty := 22) rfl ?_); first | (with_reducible refine (Stp.ldo rfl agg22 rfl H (by assumption) (by assumption) ?_); simp only [pS]) | (with_reducible refine (Stp.ldc rfl agg22 rfl H mR cE ?_); simp only [pS])) | (with_reducible refine wpl rfl (ldQ (ty := 62) rfl ?_); first | (with_reducible refine (Stp.ldor rfl agg62 size62 rfl H (by assumption) sZ (by assumption) ?_); simp only [pS]) | (with_reducible refine (Stp.ldr rfl agg62 size62 rfl H mR sZ ?_); simp only [pS]) | (with_reducible refine (Stp.ldl rfl agg62 size62 rfl H mR (by simp) ?_); simp only [pS]; simp only [List.drop_succ_cons, List.drop_zero, List.take_succ_cons, List.take_zero])) | (with_reducible refine wpl rfl (dQ 5 rfl ?_); with_reducible refine (Stp.alloc 5 rfl rfl zero62 H ?_); clear H; intro g5 w1 H; simp only [pS]; simp only [nC] at H) | (with_reducible refine wpl rfl (stQ (ty := 62) rfl ?_); first | (with_reducible refine (Stp.str rfl size62 rfl rfl (by first | rfl | (simp [Value.oneCell']; done) | assumption) H uP sZ sZ ?_); clear H; intro w1 H; simp only [pS]) | (with_reducible refine (Stp.stl rfl size62 rfl rfl rfl rfl H uP (by simp) ?_); clear H; intro w1 H; simp only [pS]; simp only [List.drop_succ_cons, List.drop_zero, List.take_succ_cons, List.take_zero, List.nil_append, List.cons_append, Nat.reduceAdd] at H)) | (with_reducible refine wpl rfl (ldQ (ty := 3) rfl ?_); first | (with_reducible refine (Stp.ldo rfl agg3 rfl H (by assumption) (by assumption) ?_); simp only [pS]) | (with_reducible refine (Stp.ldc rfl agg3 rfl H mR cE ?_); simp only [pS])))
        go_ret
        exact ⟨_, rfl, by rw [HV.out]; rfl, H.below⟩
/-- Is what was told known? -/
def knownD (D : Ck) (y : Sy) : Bool := y.told.all fun e => decide (e.1.p ∈ y.e.1.x.mem) && wasD D y.e.1.x.id e.1 9223372036854775807
theorem known_ok (gc : Nat) (D : Ck) (y : Sy) (r : Bool) (hr : knownD D y = r) (w : World) (hD : CkW w gc D) (hy : SyW w y) :
    Calls Try.prog 42 #[.pointer (some ⟨gc, 0, none⟩), .agg #[.int .u16 (y.p.1 : Int), .int .u32 (y.p.2 : Int), .int .u64 (y.e.1.x.id : Int), .slice y.e.2.ma y.e.1.x.mem.length y.e.2.mc, .slice y.e.2.la y.e.1.x.lvs.length y.e.2.lc, .slice y.e.2.da y.e.1.x.ldr.length y.e.2.dc, .slice y.aa y.all.length y.ac, .slice y.ta y.told.length y.tc, .bool y.fol]] w (Ret fun v w' => v = .bool r ∧ Below w.heap.size w w') := by
  have HD := Lib.hid hD
  have hyid := hy.wv.x.id
  have H := St.init w
  have hs := hy.told
  have hlt := hy.lt
  have HYW := Lib.hid hy
  obtain ⟨n, hn⟩ : ∃ n, y.told.length = n := ⟨_, rfl⟩
  have HN := Lib.hid hn
  have HR := Lib.hid hr
  rw [hn] at hs hlt ⊢
  obtain ⟨ta, hta⟩ : ∃ a, y.ta = a := ⟨_, rfl⟩
  rw [hta] at hs ⊢
  clear hn hr hy hta
  go_enter Try.func42, Try.ntmps42
  go_wp2_with (first | (with_reducible refine wpl rfl (dQ 3 rfl ?_); with_reducible refine (Stp.box 3 rfl rfl rfl H ?_); clear H; intro g3 w1 H; simp only [pS]; simp only [pE, nC, pS] at H) | (with_reducible refine wpl rfl (ldQ (ty := 22) rfl ?_); first | (with_reducible refine (Stp.ldo rfl agg22 rfl H (by assumption) (by assumption) ?_); simp only [pS]) | (with_reducible refine (Stp.ldc rfl agg22 rfl H mR cE ?_); simp only [pS])) | (with_reducible refine wpl rfl (ldQ (ty := 62) rfl ?_); first | (with_reducible refine (Stp.ldor rfl agg62 size62 rfl H (by assumption) sZ (by assumption) ?_); simp only [pS]) | (with_reducible refine (Stp.ldr rfl agg62 size62 rfl H mR sZ ?_); simp only [pS]) | (with_reducible refine (Stp.ldl rfl agg62 size62 rfl H mR (by simp) ?_); simp only [pS]; simp only [List.drop_succ_cons, List.drop_zero, List.take_succ_cons, List.take_zero])) | (with_reducible refine wpl rfl (dQ 6 rfl ?_); with_reducible refine (Stp.alloc 6 rfl rfl zero62 H ?_); clear H; intro g6 w1 H; simp only [pS]; simp only [nC] at H) | (with_reducible refine wpl rfl (stQ (ty := 62) rfl ?_); first | (with_reducible refine (Stp.str rfl size62 rfl rfl (by first | rfl | (simp [Value.oneCell']; done) | assumption) H uP sZ sZ ?_); clear H; intro w1 H; simp only [pS]) | (with_reducible refine (Stp.stl rfl size62 rfl rfl rfl rfl H uP (by simp) ?_); clear H; intro w1 H; simp only [pS]; simp only [List.drop_succ_cons, List.drop_zero, List.take_succ_cons, List.take_zero, List.nil_append, List.cons_append, Nat.reduceAdd] at H)) | (with_reducible refine wpl rfl (ldQ (ty := 41) rfl ?_); first | (with_reducible refine (Stp.ldor rfl agg41 size41 rfl H (by assumption) sZ (by assumption) ?_); simp only [pS]) | (with_reducible refine (Stp.ldr rfl agg41 size41 rfl H mR sZ ?_); simp only [pS]) | (with_reducible refine (Stp.ldl rfl agg41 size41 rfl H mR (by simp) ?_); simp only [pS]; simp only [List.drop_succ_cons, List.drop_zero, List.take_succ_cons, List.take_zero])) | (with_reducible refine wpl rfl (ldQ (ty := 27) rfl ?_); first | (with_reducible refine (Stp.ldor rfl agg27 size27 rfl H (by assumption) sZ (by assumption) ?_); simp only [pS]) | (with_reducible refine (Stp.ldr rfl agg27 size27 rfl H mR sZ ?_); simp only [pS]) | (with_reducible refine (Stp.ldl rfl agg27 size27 rfl H mR (by simp) ?_); simp only [pS]; simp only [List.drop_succ_cons, List.drop_zero, List.take_succ_cons, List.take_zero])) | (with_reducible refine wpl rfl (ldQ (ty := 78) rfl ?_); first | (with_reducible refine (Stp.ldor rfl agg78 size78 rfl H (by assumption) sZ (by assumption) ?_); simp only [pS]) | (with_reducible refine (Stp.ldr rfl agg78 size78 rfl H mR sZ ?_); simp only [pS]) | (with_reducible refine (Stp.ldl rfl agg78 size78 rfl H mR (by simp) ?_); simp only [pS]; simp only [List.drop_succ_cons, List.drop_zero, List.take_succ_cons, List.take_zero])))
  go_loopw [10] (fun i wr => ∃ q : Nat, q ≤ n ∧ i = .int .i64 q ∧ Hid (((y.told.take q).all fun e => decide (e.1.p ∈ y.e.1.x.mem) && wasD D y.e.1.x.id e.1 9223372036854775807) = true) ∧ St w.heap.size w wr [row 78 g3 #[.int .u16 (y.p.1 : Int), .int .u32 (y.p.2 : Int), .int .u64 (y.e.1.x.id : Int), .slice y.e.2.ma y.e.1.x.mem.length y.e.2.mc, .slice y.e.2.la y.e.1.x.lvs.length y.e.2.lc, .slice y.e.2.da y.e.1.x.ldr.length y.e.2.dc, .slice y.aa y.all.length y.ac, .slice ta n y.tc, .bool y.fol]]) (fun i _ => n - (intOf i).toNat)
  case atStart => exact ⟨0, Nat.zero_le _, rfl, Lib.hid (by simp), H⟩
  case round =>
    clear H
    obtain ⟨q, hq, rfl, HT, H⟩ := hrel
    by_cases hlt2 : q < n
    · have hl1 : q < y.told.length := by rw [HN.out]; exact hlt2
      obtain ⟨b1, o1, rfl, hb1⟩ := hs.addr (by omega)
      have hc1 := hs.cell hlt2
      rw [elE_at hl1] at hc1
      have hme := List.getElem_mem hl1
      have HTk := Lib.hid (List.take_succ_eq_append_getElem hl1)
      obtain ⟨⟨V, h⟩, hx⟩ : ∃ x, y.told[q] = x := ⟨_, rfl⟩
      rw [hx] at hc1 hme HTk
      simp only at hc1
      have qli : (q : Int) < (n : Int) := by omega
      have HVE : Hid (EvG w (V, h)) := Lib.hid (HYW.out.ev _ hme)
      have HVF : Hid (wfE (V, h)) := Lib.hid (HYW.out.wf _ hme)
      obtain ⟨e1, he1⟩ : ∃ e, decide (V.p ∈ y.e.1.x.mem) = e := ⟨_, rfl⟩
      obtain ⟨e2, he2⟩ : ∃ e, wasD D y.e.1.x.id V 9223372036854775807 = e := ⟨_, rfl⟩
      have HHS := Lib.hid he1
      have HWS := Lib.hid he2
      have HB : Hid ((e1 && e2) = false → r = false) := Lib.hid (fun h1 => by
        rw [← HR.out]
        unfold knownD
        rw [List.all_eq_false]
        exact ⟨(V, h), hme, by simp only; rw [he1, he2, h1]; decide⟩)
      have HG : Hid ((e1 && e2) = true → ((y.told.take (q + 1)).all fun e => decide (e.1.p ∈ y.e.1.x.mem) && wasD D y.e.1.x.id e.1 9223372036854775807) = true) := Lib.hid (fun h1 => by
        rw [HTk.out, List.all_append, HT.out]
        simp only [List.all_cons, List.all_nil, Bool.and_true, Bool.true_and]
        rw [he1, he2, h1])
      clear he1 he2 hme hx hl1
      cases e1
      · go_wp2_with (first | (go_at_call 54; (with_reducible refine (vhas_is y.e.1.x _ _ _ _ _ _ V.p _ HHS.out _ (HYW.out.v.memS.grow H.below)).mono ?_); rintro e w1 ⟨v, rfl, hr⟩; obtain ⟨rfl, hb1⟩ := hr; replace H := H.grow hb1; clear hb1) | (go_at_call 57; (with_reducible refine (was_ok gc D _ _ _ _ _ _ _ _ y.e.1.x.id V h 9223372036854775807 _ HWS.out _ (HD.out.grow H.below) hyid HVF.out (HVE.out.grow H.below)).mono ?_); rintro e w1 ⟨v, rfl, hr⟩; obtain ⟨rfl, hb1⟩ := hr; replace H := H.grow hb1; clear hb1) | (with_reducible refine wpl rfl (dQ 3 rfl ?_); with_reducible refine (Stp.box 3 rfl rfl rfl H ?_); clear H; intro g3 w1 H; simp only [pS]; simp only [pE, nC, pS] at H) | (with_reducible refine wpl rfl (ldQ (ty := 22) rfl ?_); first | (with_reducible refine (Stp.ldo rfl agg22 rfl H (by assumption) (by assumption) ?_); simp only [pS]) | (with_reducible refine (Stp.ldc rfl agg22 rfl H mR cE ?_); simp only [pS])) | (with_reducible refine wpl rfl (ldQ (ty := 62) rfl ?_); first | (with_reducible refine (Stp.ldor rfl agg62 size62 rfl H (by assumption) sZ (by assumption) ?_); simp only [pS]) | (with_reducible refine (Stp.ldr rfl agg62 size62 rfl H mR sZ ?_); simp only [pS]) | (with_reducible refine (Stp.ldl rfl agg62 size62 rfl H mR (by simp) ?_); simp only [pS]; simp only [List.drop_succ_cons, List.drop_zero, List.take_succ_cons, List.take_zero])) | (with_reducible refine wpl rfl (dQ 6 rfl ?_); with_reducible refine (Stp.alloc 6 rfl rfl zero62 H ?_); clear H; intro g6 w1 H; simp only [pS]; simp only [nC] at H) | (with_reducible refine wpl rfl (stQ (ty := 62) rfl ?_); first | (with_reducible refine (Stp.str rfl size62 rfl rfl (by first | rfl | (simp [Value.oneCell']; done) | assumption) H uP sZ sZ ?_); clear H; intro w1 H; simp only [pS]) | (with_reducible refine (Stp.stl rfl size62 rfl rfl rfl rfl H uP (by simp) ?_); clear H; intro w1 H; simp only [pS]; simp only [List.drop_succ_cons, List.drop_zero, List.take_succ_cons, List.take_zero, List.nil_append, List.cons_append, Nat.reduceAdd] at H)) | (with_reducible refine wpl rfl (ldQ (ty := 41) rfl ?_); first | (with_reducible refine (Stp.ldor rfl agg41 size41 rfl H (by assumption) sZ (by assumption) ?_); simp only [pS]) | (with_reducible refine (Stp.ldr rfl agg41 size41 rfl H mR sZ ?_); simp only [pS]) | (with_reducible refine (Stp.ldl rfl agg41 size41 rfl H mR (by simp) ?_); simp only [pS]; simp only [List.drop_succ_cons, List.drop_zero, List.take_succ_cons, List.take_zero])) | (with_reducible refine wpl rfl (ldQ (ty := 27) rfl ?_); first | (with_reducible refine (Stp.ldor rfl agg27 size27 rfl H (by assumption) sZ (by assumption) ?_); simp only [pS]) | (with_reducible refine (Stp.ldr rfl agg27 size27 rfl H mR sZ ?_); simp only [pS]) | (with_reducible refine (Stp.ldl rfl agg27 size27 rfl H mR (by simp) ?_); simp only [pS]; simp only [List.drop_succ_cons, List.drop_zero, List.take_succ_cons, List.take_zero])) | (with_reducible refine wpl rfl (ldQ (ty := 78) rfl ?_); first | (with_reducible refine (Stp.ldor rfl agg78 size78 rfl H (by assumption) sZ (by assumption) ?_); simp only [pS]) | (with_reducible refine (Stp.ldr rfl agg78 size78 rfl H mR sZ ?_); simp only [pS]) | (with_reducible refine (Stp.ldl rfl agg78 size78 rfl H mR (by simp) ?_); simp only [pS]; simp only [List.drop_succ_cons, List.drop_zero, List.take_succ_cons, List.take_zero])))
        go_ret
        exact ⟨_, rfl, by rw [HB.out rfl]; rfl, H.below⟩
      · cases e2
        · go_wp2_with (first | (go_at_call 54; (with_reducible refine (vhas_is y.e.1.x _ _ _ _ _ _ V.p _ HHS.out _ (HYW.out.v.memS.grow H.below)).mono ?_); rintro e w1 ⟨v, rfl, hr⟩; obtain ⟨rfl, hb1⟩ := hr; replace H := H.grow hb1; clear hb1) | (go_at_call 57; (with_reducible refine (was_ok gc D _ _ _ _ _ _ _ _ y.e.1.x.id V h 9223372036854775807 _ HWS.out _ (HD.out.grow H.below) hyid HVF.out (HVE.out.grow H.below)).mono ?_); rintro e w1 ⟨v, rfl, hr⟩; obtain ⟨rfl, hb1⟩ := hr; replace H := H.grow hb1; clear hb1) | (with_reducible refine wpl rfl (dQ 3 rfl ?_); with_reducible refine (Stp.box 3 rfl rfl rfl H ?_); clear H; intro g3 w1 H; simp only [pS]; simp only [pE, nC, pS] at H) | (with_reducible refine wpl rfl (ldQ (ty := 22) rfl ?_); first | (with_reducible refine (Stp.ldo rfl agg22 rfl H (by assumption) (by assumption) ?_); simp only [pS]) | (with_reducible refine (Stp.ldc rfl agg22 rfl H mR cE ?_); simp only [pS])) | (with_reducible refine wpl rfl (ldQ (ty := 62) rfl ?_); first | (with_reducible refine (Stp.ldor rfl agg62 size62 rfl H (by assumption) sZ (by assumption) ?_); simp only [pS]) | (with_reducible refine (Stp.ldr rfl agg62 size62 rfl H mR sZ ?_); simp only [pS]) | (with_reducible refine (Stp.ldl rfl agg62 size62 rfl H mR (by simp) ?_); simp only [pS]; simp only [List.drop_succ_cons, List.drop_zero, List.take_succ_cons, List.take_zero])) | (with_reducible refine wpl rfl (dQ 6 rfl ?_); with_reducible refine (Stp.alloc 6 rfl rfl zero62 H ?_); clear H; intro g6 w1 H; simp only [pS]; simp only [nC] at H) | (with_reducible refine wpl rfl (stQ (ty := 62) rfl ?_); first | (with_reducible refine (Stp.str rfl size62 rfl rfl (by first | rfl | (simp [Value.oneCell']; done) | assumption) H uP sZ sZ ?_); clear H; intro w1 H; simp only [pS]) | (with_reducible refine (Stp.stl rfl size62 rfl rfl rfl rfl H uP (by simp) ?_); clear H; intro w1 H; simp only [pS]; simp only [List.drop_succ_cons, List.drop_zero, List.take_succ_cons, List.take_zero, List.nil_append, List.cons_append, Nat.reduceAdd] at H)) | (with_reducible refine wpl rfl (ldQ (ty := 41) rfl ?_); first | (with_reducible refine (Stp.ldor rfl agg41 size41 rfl H (by assumption) sZ (by assumption) ?_); simp only [pS]) | (with_reducible refine (Stp.ldr rfl agg41 size41 rfl H mR sZ ?_); simp only [pS]) | (with_reducible refine (Stp.ldl rfl agg41 size41 rfl H mR (by simp) ?_); simp only [pS]; simp only [List.drop_succ_cons, List.drop_zero, List.take_succ_cons, List.take_zero])) | (with_reducible refine wpl rfl (ldQ (ty := 27) rfl ?_); first | (with_reducible refine (Stp.ldor rfl agg27 size27 rfl H (by assumption) sZ (by assumption) ?_); simp only [pS]) | (with_reducible refine (Stp.ldr rfl agg27 size27 rfl H mR sZ ?_); simp only [pS]) | (with_reducible refine (Stp.ldl rfl agg27 size27 rfl H mR (by simp) ?_); simp only [pS]; simp only [List.drop_succ_cons, List.drop_zero, List.take_succ_cons, List.take_zero])) | (with_reducible refine wpl rfl (ldQ (ty := 78) rfl ?_); first | (with_reducible refine (Stp.ldor rfl agg78 size78 rfl H (by assumption) sZ (by assumption) ?_); simp only [pS]) | (with_reducible refine (Stp.ldr rfl agg78 size78 rfl H mR sZ ?_); simp only [pS]) | (with_reducible refine (Stp.ldl rfl agg78 size78 rfl H mR (by simp) ?_); simp only [pS]; simp only [List.drop_succ_cons, List.drop_zero, List.take_succ_cons, List.take_zero])))
          go_ret
          exact ⟨_, rfl, by rw [HB.out rfl]; rfl, H.below⟩
        · go_wp2_with (first | (go_at_call 54; (with_reducible refine (vhas_is y.e.1.x _ _ _ _ _ _ V.p _ HHS.out _ (HYW.out.v.memS.grow H.below)).mono ?_); rintro e w1 ⟨v, rfl, hr⟩; obtain ⟨rfl, hb1⟩ := hr; replace H := H.grow hb1; clear hb1) | (go_at_call 57; (with_reducible refine (was_ok gc D _ _ _ _ _ _ _ _ y.e.1.x.id V h 9223372036854775807 _ HWS.out _ (HD.out.grow H.below) hyid HVF.out (HVE.out.grow H.below)).mono ?_); rintro e w1 ⟨v, rfl, hr⟩; obtain ⟨rfl, hb1⟩ := hr; replace H := H.grow hb1; clear hb1) | (with_reducible refine wpl rfl (dQ 3 rfl ?_); with_reducible refine (Stp.box 3 rfl rfl rfl H ?_); clear H; intro g3 w1 H; simp only [pS]; simp only [pE, nC, pS] at H) | (with_reducible refine wpl rfl (ldQ (ty := 22) rfl ?_); first | (with_reducible refine (Stp.ldo rfl agg22 rfl H (by assumption) (by assumption) ?_); simp only [pS]) | (with_reducible refine (Stp.ldc rfl agg22 rfl H mR cE ?_); simp only [pS])) | (with_reducible refine wpl rfl (ldQ (ty := 62) rfl ?_); first | (with_reducible refine (Stp.ldor rfl agg62 size62 rfl H (by assumption) sZ (by assumption) ?_); simp only [pS]) | (with_reducible refine (Stp.ldr rfl agg62 size62 rfl H mR sZ ?_); simp only [pS]) | (with_reducible refine (Stp.ldl rfl agg62 size62 rfl H mR (by simp) ?_); simp only [pS]; simp only [List.drop_succ_cons, List.drop_zero, List.take_succ_cons, List.take_zero])) | (with_reducible refine wpl rfl (dQ 6 rfl ?_); with_reducible refine (Stp.alloc 6 rfl rfl zero62 H ?_); clear H; intro g6 w1 H; simp only [pS]; simp only [nC] at H) | (with_reducible refine wpl rfl (stQ (ty := 62) rfl ?_); first | (with_reducible refine (Stp.str rfl size62 rfl rfl (by first | rfl | (simp [Value.oneCell']; done) | assumption) H uP sZ sZ ?_); clear H; intro w1 H; simp only [pS]) | (with_reducible refine (Stp.stl rfl size62 rfl rfl rfl rfl H uP (by simp) ?_); clear H; intro w1 H; simp only [pS]; simp only [List.drop_succ_cons, List.drop_zero, List.take_succ_cons, List.take_zero, List.nil_append, List.cons_append, Nat.reduceAdd] at H)) | (with_reducible refine wpl rfl (ldQ (ty := 41) rfl ?_); first | (with_reducible refine (Stp.ldor rfl agg41 size41 rfl H (by assumption) sZ (by assumption) ?_); simp only [pS]) | (with_reducible refine (Stp.ldr rfl agg41 size41 rfl H mR sZ ?_); simp only [pS]) | (with_reducible refine (Stp.ldl rfl agg41 size41 rfl H mR (by simp) ?_); simp only [pS]; simp only [List.drop_succ_cons, List.drop_zero, List.take_succ_cons, List.take_zero])) | (with_reducible refine wpl rfl (ldQ (ty := 27) rfl ?_); first | (with_reducible refine (Stp.ldor rfl agg27 size27 rfl H (by assumption) sZ (by assumption) ?_); simp only [pS]) | (with_reducible refine (Stp.ldr rfl agg27 size27 rfl H mR sZ ?_); simp only [pS]) | (with_reducible refine (Stp.ldl rfl agg27 size27 rfl H mR (by simp) ?_); simp only [pS]; simp only [List.drop_succ_cons, List.drop_zero, List.take_succ_cons, List.take_zero])) | (with_reducible refine wpl rfl (ldQ (ty := 78) rfl ?_); first | (with_reducible refine (Stp.ldor rfl agg78 size78 rfl H (by assumption) sZ (by assumption) ?_); simp only [pS]) | (with_reducible refine (Stp.ldr rfl agg78 size78 rfl H mR sZ ?_); simp only [pS]) | (with_reducible refine (Stp.ldl rfl agg78 size78 rfl H mR (by simp) ?_); simp only [pS]; simp only [List.drop_succ_cons, List.drop_zero, List.take_succ_cons, List.take_zero])))
          go_roundw
          case rel => exact ⟨q + 1, by omega, by go_num, HG.out rfl, H.sub sU⟩
          case measure => simp [intOf]; omega
    · obtain rfl : q = n := by omega
      have HV : Hid (r = true) := Lib.hid (by
        rw [← HR.out]; unfold knownD
        have := HT.out
        rw [List.take_of_length_le (by rw [HN.out]; omega)] at this
        exact this)
      go_wp2_with (first | (with_reducible refine wpl rfl (dQ 3 rfl ?_); with_reducible refine (Stp.box 3 rfl rfl rfl H ?_); clear H; intro g3 w1 H; simp only [pS]; simp only [pE, nC, pS] at H) | (with_reducible refine wpl rfl (ldQ (ty := 22) rfl ?_); first | (with_reducible refine (Stp.ldo rfl agg22 rfl H (by assumption) (by assumption) ?_); simp only [pS]) | (with_reducible refine (Stp.ldc rfl agg22 rfl H mR cE ?_); simp only [pS])) | (with_reducible refine wpl rfl (ldQ (ty := 62) rfl ?_); first | (with_reducible refine (Stp.ldor rfl agg62 size62 rfl H (by assumption) sZ (by assumption) ?_); simp only [pS]) | (with_reducible refine (Stp.ldr rfl agg62 size62 rfl H mR sZ ?_); simp only [pS]) | (with_reducible refine (Stp.ldl rfl agg62 size62 rfl H mR (by simp) ?_); simp only [pS]; simp only [List.drop_succ_cons, List.drop_zero, List.take_succ_cons, List.take_zero])) | (with_reducible refine wpl rfl (dQ 6 rfl ?_); with_reducible refine (Stp.alloc 6 rfl rfl zero62 H ?_); clear H; intro g6 w1 H; simp only [pS]; simp only [nC] at H) | (with_reducible refine wpl rfl (stQ (ty := 62) rfl ?_); first | (with_reducible refine (Stp.str rfl size62 rfl rfl (by first | rfl | (simp [Value.oneCell']; done) | assumption) H uP sZ sZ ?_); clear H; intro w1 H; simp only [pS]) | (with_reducible refine (Stp.stl rfl size62 rfl rfl rfl rfl H uP (by simp) ?_); clear H; intro w1 H; simp only [pS]; simp only [List.drop_succ_cons, List.drop_zero, List.take_succ_cons, List.take_zero, List.nil_append, List.cons_append, Nat.reduceAdd] at H)) | (with_reducible refine wpl rfl (ldQ (ty := 41) rfl ?_); first | (with_reducible refine (Stp.ldor rfl agg41 size41 rfl H (by assumption) sZ (by assumption) ?_); simp only [pS]) | (with_reducible refine (Stp.ldr rfl agg41 size41 rfl H mR sZ ?_); simp only [pS]) | (with_reducible refine (Stp.ldl rfl agg41 size41 rfl H mR (by simp) ?_); simp only [pS]; simp only [List.drop_succ_cons, List.drop_zero, List.take_succ_cons, List.take_zero])) | (with_reducible refine wpl rfl (ldQ (ty := 27) rfl ?_); first | (with_reducible refine (Stp.ldor rfl agg27 size27 rfl H (by assumption) sZ (by assumption) ?_); simp only [pS]) | (with_reducible refine (Stp.ldr rfl agg27 size27 rfl H mR sZ ?_); simp only [pS]) | (with_reducible refine (Stp.ldl rfl agg27 size27 rfl H mR (by simp) ?_); simp only [pS]; simp only [List.drop_succ_cons, List.drop_zero, List.take_succ_cons, List.take_zero])) | (with_reducible refine wpl rfl (ldQ (ty := 78) rfl ?_); first | (with_reducible refine (Stp.ldor rfl agg78 size78 rfl H (by assumption) sZ (by assumption) ?_); simp only [pS]) | (with_reducible refine (Stp.ldr rfl agg78 size78 rfl H mR sZ ?_); simp only [pS]) | (with_reducible refine (Stp.ldl rfl agg78 size78 rfl H mR (by simp) ?_); simp only [pS]; simp only [List.drop_succ_cons, List.drop_zero, List.take_succ_cons, List.take_zero])))
      go_ret
      exact ⟨_, rfl, by rw [HV.out]; rfl, H.below⟩
/-- Was what was told sent, by who had been told no more? -/
def behD (D : Ck) (y : Sy) : Bool := allN (fun i (e : Eh) => wasD D y.e.1.x.id e.1 (i : Int)) 0 y.told
theorem behind_ok (gc : Nat) (D : Ck) (y : Sy) (r : Bool) (hr : behD D y = r) (w : World) (hD : CkW w gc D) (hy : SyW w y) :
    Calls Try.prog 47 #[.pointer (some ⟨gc, 0, none⟩), .agg #[.int .u16 (y.p.1 : Int), .int .u32 (y.p.2 : Int), .int .u64 (y.e.1.x.id : Int), .slice y.e.2.ma y.e.1.x.mem.length y.e.2.mc, .slice y.e.2.la y.e.1.x.lvs.length y.e.2.lc, .slice y.e.2.da y.e.1.x.ldr.length y.e.2.dc, .slice y.aa y.all.length y.ac, .slice y.ta y.told.length y.tc, .bool y.fol]] w (Ret fun v w' => v = .bool r ∧ Below w.heap.size w w') := by
  have HD := Lib.hid hD
  have hyid := hy.wv.x.id
  have H := St.init w
  have hs := hy.told
  have hlt := hy.lt
  have HYW := Lib.hid hy
  obtain ⟨n, hn⟩ : ∃ n, y.told.length = n := ⟨_, rfl⟩
  have HN := Lib.hid hn
  have HR := Lib.hid hr
  rw [hn] at hs hlt ⊢
  obtain ⟨ta, hta⟩ : ∃ a, y.ta = a := ⟨_, rfl⟩
  rw [hta] at hs ⊢
  clear hn hr hy hta
  go_enter Try.func47, Try.ntmps47
  go_wp2_with (first | (with_reducible refine wpl rfl (dQ 3 rfl ?_); with_reducible refine (Stp.box 3 rfl rfl rfl H ?_); clear H; intro g3 w1 H; simp only [pS]; simp only [pE, nC, pS] at H) | (with_reducible refine wpl rfl (ldQ (ty := 22) rfl ?_); first | (with_reducible refine (Stp.ldo rfl agg22 rfl H (by assumption) (by assumption) ?_); simp only [pS]) | (with_reducible refine (Stp.ldc rfl agg22 rfl H mR cE ?_); simp only [pS])) | (with_reducible refine wpl rfl (ldQ (ty := 62) rfl ?_); first | (with_reducible refine (Stp.ldor rfl agg62 size62 rfl H (by assumption) sZ (by assumption) ?_); simp only [pS]) | (with_reducible refine (Stp.ldr rfl agg62 size62 rfl H mR sZ ?_); simp only [pS]) | (with_reducible refine (Stp.ldl rfl agg62 size62 rfl H mR (by simp) ?_); simp only [pS]; simp only [List.drop_succ_cons, List.drop_zero, List.take_succ_cons, List.take_zero])) | (with_reducible refine wpl rfl (dQ 6 rfl ?_); with_reducible refine (Stp.alloc 6 rfl rfl zero62 H ?_); clear H; intro g6 w1 H; simp only [pS]; simp only [nC] at H) | (with_reducible refine wpl rfl (stQ (ty := 62) rfl ?_); first | (with_reducible refine (Stp.str rfl size62 rfl rfl (by first | rfl | (simp [Value.oneCell']; done) | assumption) H uP sZ sZ ?_); clear H; intro w1 H; simp only [pS]) | (with_reducible refine (Stp.stl rfl size62 rfl rfl rfl rfl H uP (by simp) ?_); clear H; intro w1 H; simp only [pS]; simp only [List.drop_succ_cons, List.drop_zero, List.take_succ_cons, List.take_zero, List.nil_append, List.cons_append, Nat.reduceAdd] at H)) | (with_reducible refine wpl rfl (ldQ (ty := 78) rfl ?_); first | (with_reducible refine (Stp.ldor rfl agg78 size78 rfl H (by assumption) sZ (by assumption) ?_); simp only [pS]) | (with_reducible refine (Stp.ldr rfl agg78 size78 rfl H mR sZ ?_); simp only [pS]) | (with_reducible refine (Stp.ldl rfl agg78 size78 rfl H mR (by simp) ?_); simp only [pS]; simp only [List.drop_succ_cons, List.drop_zero, List.take_succ_cons, List.take_zero])))
  go_loopw [10] (fun i wr => ∃ q : Nat, q ≤ n ∧ i = .int .i64 q ∧ Hid (allN (fun i (e : Eh) => wasD D y.e.1.x.id e.1 (i : Int)) 0 (y.told.take q) = true) ∧ St w.heap.size w wr [row 78 g3 #[.int .u16 (y.p.1 : Int), .int .u32 (y.p.2 : Int), .int .u64 (y.e.1.x.id : Int), .slice y.e.2.ma y.e.1.x.mem.length y.e.2.mc, .slice y.e.2.la y.e.1.x.lvs.length y.e.2.lc, .slice y.e.2.da y.e.1.x.ldr.length y.e.2.dc, .slice y.aa y.all.length y.ac, .slice ta n y.tc, .bool y.fol]]) (fun i _ => n - (intOf i).toNat)
  case atStart => exact ⟨0, Nat.zero_le _, rfl, Lib.hid (by rw [List.take_zero]; unfold allN; rfl), H⟩
  case round =>
    clear H
    obtain ⟨q, hq, rfl, HT, H⟩ := hrel
    by_cases hlt2 : q < n
    · have hl1 : q < y.told.length := by rw [HN.out]; exact hlt2
      obtain ⟨b1, o1, rfl, hb1⟩ := hs.addr (by omega)
      have hc1 := hs.cell hlt2
      rw [elE_at hl1] at hc1
      have hme := List.getElem_mem hl1
      have HTk := Lib.hid (List.take_succ_eq_append_getElem hl1)
      obtain ⟨⟨V, h⟩, hx⟩ : ∃ x, y.told[q] = x := ⟨_, rfl⟩
      rw [hx] at hc1 hme HTk
      simp only at hc1
      have qli : (q : Int) < (n : Int) := by omega
      have HVE : Hid (EvG w (V, h)) := Lib.hid (HYW.out.ev _ hme)
      have HVF : Hid (wfE (V, h)) := Lib.hid (HYW.out.wf _ hme)
      obtain ⟨e2, he2⟩ : ∃ e, wasD D y.e.1.x.id V (q : Int) = e := ⟨_, rfl⟩
      have HWS := Lib.hid he2
      have HG : Hid (allN (fun i (e : Eh) => wasD D y.e.1.x.id e.1 (i : Int)) 0 (y.told.take (q + 1)) = e2) := Lib.hid (by
        rw [HTk.out, allN_snoc, HT.out, List.length_take, HN.out, Nat.min_eq_left (by omega), Nat.zero_add, Bool.true_and]; exact he2)
      clear he2 hme hx hl1
      cases e2
      · have HV : Hid (r = false) := Lib.hid (by rw [← HR.out]; exact allN_take _ _ _ _ HG.out)
        go_wp2_with (first | (go_at_call 57; (with_reducible refine (was_ok gc D _ _ _ _ _ _ _ _ y.e.1.x.id V h (q : Int) _ HWS.out _ (HD.out.grow H.below) hyid HVF.out (HVE.out.grow H.below)).mono ?_); rintro e w1 ⟨v, rfl, hr⟩; obtain ⟨rfl, hb1⟩ := hr; replace H := H.grow hb1; clear hb1) | (with_reducible refine wpl rfl (dQ 3 rfl ?_); with_reducible refine (Stp.box 3 rfl rfl rfl H ?_); clear H; intro g3 w1 H; simp only [pS]; simp only [pE, nC, pS] at H) | (with_reducible refine wpl rfl (ldQ (ty := 22) rfl ?_); first | (with_reducible refine (Stp.ldo rfl agg22 rfl H (by assumption) (by assumption) ?_); simp only [pS]) | (with_reducible refine (Stp.ldc rfl agg22 rfl H mR cE ?_); simp only [pS])) | (with_reducible refine wpl rfl (ldQ (ty := 62) rfl ?_); first | (with_reducible refine (Stp.ldor rfl agg62 size62 rfl H (by assumption) sZ (by assumption) ?_); simp only [pS]) | (with_reducible refine (Stp.ldr rfl agg62 size62 rfl H mR sZ ?_); simp only [pS]) | (with_reducible refine (Stp.ldl rfl agg62 size62 rfl H mR (by simp) ?_); simp only [pS]; simp only [List.drop_succ_cons, List.drop_zero, List.take_succ_cons, List.take_zero])) | (with_reducible refine wpl rfl (dQ 6 rfl ?_); with_reducible refine (Stp.alloc 6 rfl rfl zero62 H ?_); clear H; intro g6 w1 H; simp only [pS]; simp only [nC] at H) | (with_reducible refine wpl rfl (stQ (ty := 62) rfl ?_); first | (with_reducible refine (Stp.str rfl size62 rfl rfl (by first | rfl | (simp [Value.oneCell']; done) | assumption) H uP sZ sZ ?_); clear H; intro w1 H; simp only [pS]) | (with_reducible refine (Stp.stl rfl size62 rfl rfl rfl rfl H uP (by simp) ?_); clear H; intro w1 H; simp only [pS]; simp only [List.drop_succ_cons, List.drop_zero, List.take_succ_cons, List.take_zero, List.nil_append, List.cons_append, Nat.reduceAdd] at H)) | (with_reducible refine wpl rfl (ldQ (ty := 78) rfl ?_); first | (with_reducible refine (Stp.ldor rfl agg78 size78 rfl H (by assumption) sZ (by assumption) ?_); simp only [pS]) | (with_reducible refine (Stp.ldr rfl agg78 size78 rfl H mR sZ ?_); simp only [pS]) | (with_reducible refine (Stp.ldl rfl agg78 size78 rfl H mR (by simp) ?_); simp only [pS]; simp only [List.drop_succ_cons, List.drop_zero, List.take_succ_cons, List.take_zero])))
        go_ret
        exact ⟨_, rfl, by rw [HV.out]; rfl, H.below⟩
      · go_wp2_with (first | (go_at_call 57; (with_reducible refine (was_ok gc D _ _ _ _ _ _ _ _ y.e.1.x.id V h (q : Int) _ HWS.out _ (HD.out.grow H.below) hyid HVF.out (HVE.out.grow H.below)).mono ?_); rintro e w1 ⟨v, rfl, hr⟩; obtain ⟨rfl, hb1⟩ := hr; replace H := H.grow hb1; clear hb1) | (with_reducible refine wpl rfl (dQ 3 rfl ?_); with_reducible refine (Stp.box 3 rfl rfl rfl H ?_); clear H; intro g3 w1 H; simp only [pS]; simp only [pE, nC, pS] at H) | (with_reducible refine wpl rfl (ldQ (ty := 22) rfl ?_); first | (with_reducible refine (Stp.ldo rfl agg22 rfl H (by assumption) (by assumption) ?_); simp only [pS]) | (with_reducible refine (Stp.ldc rfl agg22 rfl H mR cE ?_); simp only [pS])) | (with_reducible refine wpl rfl (ldQ (ty := 62) rfl ?_); first | (with_reducible refine (Stp.ldor rfl agg62 size62 rfl H (by assumption) sZ (by assumption) ?_); simp only [pS]) | (with_reducible refine (Stp.ldr rfl agg62 size62 rfl H mR sZ ?_); simp only [pS]) | (with_reducible refine (Stp.ldl rfl agg62 size62 rfl H mR (by simp) ?_); simp only [pS]; simp only [List.drop_succ_cons, List.drop_zero, List.take_succ_cons, List.take_zero])) | (with_reducible refine wpl rfl (dQ 6 rfl ?_); with_reducible refine (Stp.alloc 6 rfl rfl zero62 H ?_); clear H; intro g6 w1 H; simp only [pS]; simp only [nC] at H) | (with_reducible refine wpl rfl (stQ (ty := 62) rfl ?_); first | (with_reducible refine (Stp.str rfl size62 rfl rfl (by first | rfl | (simp [Value.oneCell']; done) | assumption) H uP sZ sZ ?_); clear H; intro w1 H; simp only [pS]) | (with_reducible refine (Stp.stl rfl size62 rfl rfl rfl rfl H uP (by simp) ?_); clear H; intro w1 H; simp only [pS]; simp only [List.drop_succ_cons, List.drop_zero, List.take_succ_cons, List.take_zero, List.nil_append, List.cons_append, Nat.reduceAdd] at H)) | (with_reducible refine wpl rfl (ldQ (ty := 78) rfl ?_); first | (with_reducible refine (Stp.ldor rfl agg78 size78 rfl H (by assumption) sZ (by assumption) ?_); simp only [pS]) | (with_reducible refine (Stp.ldr rfl agg78 size78 rfl H mR sZ ?_); simp only [pS]) | (with_reducible refine (Stp.ldl rfl agg78 size78 rfl H mR (by simp) ?_); simp only [pS]; simp only [List.drop_succ_cons, List.drop_zero, List.take_succ_cons, List.take_zero])))
        go_roundw
        case rel => exact ⟨q + 1, by omega, by go_num, HG, H.sub sU⟩
        case measure => simp [intOf]; omega
    · obtain rfl : q = n := by omega
      have HV : Hid (r = true) := Lib.hid (by
        rw [← HR.out]; unfold behD
        have := HT.out
        rw [List.take_of_length_le (by rw [HN.out]; omega)] at this
        exact this)
      go_wp2_with (first | (with_reducible refine wpl rfl (dQ 3 rfl ?_); with_reducible refine (Stp.box 3 rfl rfl rfl H ?_); clear H; intro g3 w1 H; simp only [pS]; simp only [pE, nC, pS] at H) | (with_reducible refine wpl rfl (ldQ (ty := 22) rfl ?_); first | (with_reducible refine (Stp.ldo rfl agg22 rfl H (by assumption) (by assumption) ?_); simp only [pS]) | (with_reducible refine (Stp.ldc rfl agg22 rfl H mR cE ?_); simp only [pS])) | (with_reducible refine wpl rfl (ldQ (ty := 62) rfl ?_); first | (with_reducible refine (Stp.ldor rfl agg62 size62 rfl H (by assumption) sZ (by assumption) ?_); simp only [pS]) | (with_reducible refine (Stp.ldr rfl agg62 size62 rfl H mR sZ ?_); simp only [pS]) | (with_reducible refine (Stp.ldl rfl agg62 size62 rfl H mR (by simp) ?_); simp only [pS]; simp only [List.drop_succ_cons, List.drop_zero, List.take_succ_cons, List.take_zero])) | (with_reducible refine wpl rfl (dQ 6 rfl ?_); with_reducible refine (Stp.alloc 6 rfl rfl zero62 H ?_); clear H; intro g6 w1 H; simp only [pS]; simp only [nC] at H) | (with_reducible refine wpl rfl (stQ (ty := 62) rfl ?_); first | (with_reducible refine (Stp.str rfl size62 rfl rfl (by first | rfl | (simp [Value.oneCell']; done) | assumption) H uP sZ sZ ?_); clear H; intro w1 H; simp only [pS]) | (with_reducible refine (Stp.stl rfl size62 rfl rfl rfl rfl H uP (by simp) ?_); clear H; intro w1 H; simp only [pS]; simp only [List.drop_succ_cons, List.drop_zero, List.take_succ_cons, List.take_zero, List.nil_append, List.cons_append, Nat.reduceAdd] at H)) | (with_reducible refine wpl rfl (ldQ (ty := 78) rfl ?_); first | (with_reducible refine (Stp.ldor rfl agg78 size78 rfl H (by assumption) sZ (by assumption) ?_); simp only [pS]) | (with_reducible refine (Stp.ldr rfl agg78 size78 rfl H mR sZ ?_); simp only [pS]) | (with_reducible refine (Stp.ldl rfl agg78 size78 rfl H mR (by simp) ?_); simp only [pS]; simp only [List.drop_succ_cons, List.drop_zero, List.take_succ_cons, List.take_zero])))
      go_ret
      exact ⟨_, rfl, by rw [HV.out]; rfl, H.below⟩
end Go.Proofs.Ytbepaafgcbgmfaa
