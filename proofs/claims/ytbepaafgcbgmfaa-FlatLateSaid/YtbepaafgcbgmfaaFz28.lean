/- Layer 29 (flat): what was told most (Order), and the reference's; the bounds stand in it. -/
import Derived.Test.YtbepaafgcbgmfaaFz25
import Derived.Test.YtbepaafgcbgmfaaFz26
namespace Go.Proofs.Ytbepaafgcbgmfaa
open Go.ChangeShapes Go.WideShapes Go.ChangeAt Go.RowKit Go.Maps Go.Deep
set_option linter.unusedVariables false
set_option linter.unusedSimpArgs false
set_option linter.unusedSectionVars false
set_option maxRecDepth 100000
set_option maxHeartbeats 4000000
theorem InR.slE {G : Nat → Prop} {w : World} {es : List Eh} {a : Option Addr} {c n : Nat} (h : InR G w ⟨es, a, c⟩) (hn : es.length = n) : Sl w 9 n (.slice a n c) (elE es) := by
  subst hn; exact h.1.sl
theorem nil_es (a : Option Addr) (n c : Nat) (w : World) : (binOp .eql 22 (.slice a n c) (.slice none 0 0)).run Try.prog w = .ok (.bool a.isNone) w := Lib.run_eql_slice_nil w 22 62 a n c 0 0 Try.underlying22
theorem evs_one (es : List Eh) : ∀ u ∈ fv evc es, u.oneCell' = true := by
  intro u hu
  unfold fv at hu
  obtain ⟨y, _, hy⟩ := List.mem_flatMap.1 hu
  exact evc_one y.1 y.2 u hy
section
attribute [local go_sem] nil_es
theorem eclone_ok (a : Option Addr) (es : List Eh) {n c : Nat} (hn : es.length = n) (hb : n ≤ 100000) (w : World) (hs : Sl w 9 n (.slice a n c) (elE es)) :
    Calls Try.prog 32 #[.slice a n c] w (Ret fun v w' => (∃ a' c', v = .slice a' n c' ∧ InR All w' ⟨es, a', c'⟩) ∧ Below w.heap.size w w') := by
  subst hn
  have H := St.init w
  cases a with
  | none =>
    have h0 : es = [] := by
      cases es with
      | nil => rfl
      | cons x t => obtain ⟨b, off, e, _⟩ := hs.addr (by simp); cases e
    subst h0
    go_enter Try.func32, Try.ntmps32
    go_wp2_with fail
    go_ret
    exact ⟨_, rfl, ⟨none, 0, rfl, (SlG.of_sl ⟨none, 0, rfl, (by decide), fun h => absurd h (Nat.lt_irrefl _)⟩).mono (fun _ _ => trivial), Nat.le_refl _⟩, H.below⟩
  | some a =>
    go_enter Try.func32, Try.ntmps32
    go_wp2_with (first | (with_reducible refine wpl rfl (dQ 5 rfl ?_); with_reducible refine (Stp.bsl0N (e := 62) (size := 9) 5 rfl rfl (fun W => by kernel_rfl) H ?_); clear H; intro a5 c5 w1 H; simp only [pS]) | (with_reducible refine wpl rfl (dQ 7 rfl ?_); with_reducible refine (Stp.apps 7 rfl rfl Try.underlying22 info62 rfl (by decide) rfl rfl H (fun _ => uP) (fv_len evc_size es) ((hs.grow H.below).srcN (fun i hi j hj => by rw [fv_get evc_size es i es[i] (List.getElem?_eq_getElem hi) j hj]; unfold elE; rw [getD_at hi]) (fv_len evc_size es) (by omega)) (evs_one es) (by unfold maxLen; omega) (by omega) ?_); clear H; intro a7 c7 w1 H; simp only [pS]; simp only [Nat.zero_add, List.nil_append] at H ⊢))
    go_ret
    exact ⟨_, rfl, ⟨a7, c7, rfl, (own_InR (x := ⟨es, a7, c7⟩) (H.getSlc (e := 62) (size := 9) (v := .slice a7 es.length c7) (n := es.length) (xs := fv evc es) mE) (by show es.length ≤ _; omega)).mono (fun _ _ => trivial)⟩, H.below⟩
end
/-! ### What was told most -/
def ordT (id : Nat) (out : List Eh) (z : Nat × List Eh) : List Eh := if z.1 = id ∧ out.length < z.2.length then z.2 else out
def ordH (id : Nat) (T : List (Nat × List Eh)) : List Eh := T.foldl (ordT id) []
def tellE (es : List Eh) : Nat × List Eh := ((es.headD eh0).1.x.id, tlE es)
/-- Whose view, and what is told, of all stays of all who live. -/
def tellL (ls : List Lv) : List (Nat × List Eh) := ls.flatMap fun x => (staysH x.l).map tellE
def idT (d : Sd) : Nat × List Eh := (d.2.1.1.x.id, d.2.2.2.1)
def idQ (d : Sq) : Nat × List Eh := (d.2.1.1.x.id, d.2.2.2)
theorem lifeN_idT (p : Pr) (n : Nat) : ∀ (T : List (List Eh)) (k : Nat), (lifeN p n k T).map idT = T.map tellE
  | [], k => rfl
  | es :: T, k => by show idT _ :: (lifeN p n (k + 1) T).map idT = _; rw [lifeN_idT p n T (k + 1)]; rfl
theorem life_idT (p : Pr) (l : List Eh) : (lifeH p l).map idT = (staysH l).map tellE := lifeN_idT p _ _ _
theorem life4_idQ (p : Pr) (l : List Eh) : (life4 p l).map idQ = (staysH l).map tellE := by
  unfold life4; rw [List.map_map]; rfl
theorem all4_idQ (ls : List Lv) : (all4 ls).map idQ = tellL ls := by
  unfold all4 tellL
  rw [List.map_flatMap]
  exact congrArg (fun f => ls.flatMap f) (funext fun x => life4_idQ x.p x.l)
theorem tellL_snoc {ls : List Lv} {k : Nat} {x : Lv} (h : ls.take (k + 1) = ls.take k ++ [x]) : tellL (ls.take (k + 1)) = tellL (ls.take k) ++ (staysH x.l).map tellE := by
  unfold tellL; rw [h, List.flatMap_append, List.flatMap_singleton]
theorem ordH_snoc (id : Nat) (T : List (Nat × List Eh)) (z : Nat × List Eh) : ordH id (T ++ [z]) = ordT id (ordH id T) z := by unfold ordH; rw [List.foldl_append]; rfl
theorem ordT_yes {id : Nat} {out : List Eh} {z : Nat × List Eh} (h1 : z.1 = id) (h2 : out.length < z.2.length) : ordT id out z = z.2 := if_pos ⟨h1, h2⟩
theorem ordT_no {id : Nat} {out : List Eh} {z : Nat × List Eh} (h : ¬ (z.1 = id ∧ out.length < z.2.length)) : ordT id out z = out := if_neg h
theorem ordH_len (id : Nat) {N : Nat} : ∀ (T : List (Nat × List Eh)) (out : List Eh), out.length ≤ N → (∀ z ∈ T, z.2.length ≤ N) → (T.foldl (ordT id) out).length ≤ N
  | [], out, h, _ => h
  | z :: T, out, h, h2 => by
    refine ordH_len id T (ordT id out z) ?_ (fun y hy => h2 y (List.mem_cons_of_mem _ hy))
    unfold ordT
    split
    · exact h2 z List.mem_cons_self
    · exact h
theorem ordH_sub (id : Nat) (p : Eh → Prop) : ∀ (T : List (Nat × List Eh)) (out : List Eh), (∀ e ∈ out, p e) → (∀ z ∈ T, ∀ e ∈ z.2, p e) → ∀ e ∈ T.foldl (ordT id) out, p e
  | [], out, h, _ => h
  | z :: T, out, h, h2 => by
    refine ordH_sub id p T (ordT id out z) ?_ (fun y hy => h2 y (List.mem_cons_of_mem _ hy))
    unfold ordT
    split
    · exact h2 z List.mem_cons_self
    · exact h
theorem tellL_sub {ls : List Lv} {p : Eh → Prop} (h : ∀ x ∈ ls, ∀ e ∈ x.l, p e) : ∀ z ∈ tellL ls, ∀ e ∈ z.2, p e := by
  intro z hz e he
  obtain ⟨x, hx, hz⟩ := List.mem_flatMap.1 hz
  obtain ⟨es, hes, rfl⟩ := List.mem_map.1 hz
  exact h x hx e (staysH_sub x.l es hes e (List.mem_filter.1 he).1)
theorem tellL_len {ls : List Lv} {N : Nat} (h : ∀ x ∈ ls, x.l.length ≤ N) : ∀ z ∈ tellL ls, z.2.length ≤ N := by
  intro z hz
  obtain ⟨x, hx, hz⟩ := List.mem_flatMap.1 hz
  obtain ⟨es, hes, rfl⟩ := List.mem_map.1 hz
  exact Nat.le_trans (List.length_filter_le _ _) (Nat.le_trans ((staysH_sum x.l).2 es hes) (h x hx))
theorem ordH_plain (id : Nat) (ls : List Lv) : evD (ordH id (tellL ls)) = ordF (allP (ls.map plL)) id := by
  have e1 : allP (ls.map plL) = (ls.flatMap fun x => lifeH x.p x.l).map pdS := by
    unfold allP
    rw [List.flatMap_map, List.map_flatMap]
    exact congrArg (fun f => ls.flatMap f) (funext fun x => (life_map x).symm)
  have e2 : tellL ls = (ls.flatMap fun x => lifeH x.p x.l).map idT := by
    unfold tellL
    rw [List.map_flatMap]
    exact congrArg (fun f => ls.flatMap f) (funext fun x => (life_idT x.p x.l).symm)
  rw [e1, e2]
  have : ∀ (D : List Sd) (out : List Eh), evD ((D.map idT).foldl (ordT id) out) = (D.map pdS).foldl (ordS id) (evD out) := by
    intro D
    induction D with
    | nil => intro out; rfl
    | cons d D ih =>
      intro out
      show evD ((D.map idT).foldl (ordT id) (ordT id out (idT d))) = (D.map pdS).foldl (ordS id) (ordS id (evD out) (pdS d))
      rw [ih]
      congr 1
      unfold ordT ordS idT pdS
      simp only [evD_len]
      split <;> rfl
  exact this _ []
attribute [local irreducible] staysH tlE ordT ordH tellL tellE
theorem order_ok29 (ls : List Lv) (la : Option Addr) (lc n id : Nat) (hn : ls.length = n) (hnb : n ≤ 1000) (w : World) (hl : Sl w 3 n (.slice la n lc) (elL ls)) (hlw : ∀ x ∈ ls, LvO w x) (hle : ∀ x ∈ ls, x.l.length ≤ 1000) :
    Calls Try.prog 18 #[.slice la n lc, .int .u64 (id : Int)] w (Ret fun v w' => (∃ a c m, v = .slice a m c ∧ (ordH id (tellL ls)).length = m ∧ InR All w' ⟨ordH id (tellL ls), a, c⟩) ∧ Below w.heap.size w w') := by
  have H := St.init w
  have HN := Lib.hid hn
  have HLW := Lib.hid hlw
  have HLE := Lib.hid hle
  have HMX : Hid (∀ q, (ordH id (tellL (ls.take q))).length ≤ 1000) := Lib.hid (fun q => by
    unfold ordH
    exact ordH_len id _ [] (Nat.zero_le _) (tellL_len (fun x hx => hle x (List.mem_of_mem_take hx))))
  clear hn hlw hle
  go_enter Try.func18, Try.ntmps18
  go_wp2_with (first | (with_reducible refine wpl rfl (ldQ (ty := 29) rfl ?_); first | (with_reducible refine (Stp.ldor rfl agg29 size29 rfl H (by assumption) sZ (by assumption) ?_); simp only [pS]) | (with_reducible refine (Stp.ldr rfl agg29 size29 rfl H mR sZ ?_); simp only [pS]) | (with_reducible refine (Stp.ldl rfl agg29 size29 rfl H mR (by simp) ?_); simp only [pS]; simp only [List.drop_succ_cons, List.drop_zero, List.take_succ_cons, List.take_zero])) | (with_reducible refine wpl rfl (dQ 7 rfl ?_); with_reducible refine (Stp.alloc 7 rfl rfl zero29 H ?_); clear H; intro g7 w1 H; simp only [pS]; simp only [nC] at H) | (with_reducible refine wpl rfl (stQ (ty := 29) rfl ?_); first | (with_reducible refine (Stp.str rfl size29 rfl rfl (by first | rfl | (simp [Value.oneCell']; done) | assumption) H uP sZ sZ ?_); clear H; intro w1 H; simp only [pS]) | (with_reducible refine (Stp.stl rfl size29 rfl rfl rfl rfl H uP (by simp) ?_); clear H; intro w1 H; simp only [pS]; simp only [List.drop_succ_cons, List.drop_zero, List.take_succ_cons, List.take_zero, List.nil_append, List.cons_append, Nat.reduceAdd] at H)) | (with_reducible refine wpl rfl (ldQ (ty := 78) rfl ?_); first | (with_reducible refine (Stp.ldor rfl agg78 size78 rfl H (by assumption) sZ (by assumption) ?_); simp only [pS]) | (with_reducible refine (Stp.ldr rfl agg78 size78 rfl H mR sZ ?_); simp only [pS]) | (with_reducible refine (Stp.ldl rfl agg78 size78 rfl H mR (by simp) ?_); simp only [pS]; simp only [List.drop_succ_cons, List.drop_zero, List.take_succ_cons, List.take_zero])) | (with_reducible refine wpl rfl (dQ 9 rfl ?_); with_reducible refine (Stp.alloc 9 rfl rfl zero78 H ?_); clear H; intro g9 w1 H; simp only [pS]; simp only [nC] at H) | (with_reducible refine wpl rfl (stQ (ty := 78) rfl ?_); first | (with_reducible refine (Stp.str rfl size78 rfl rfl (by first | rfl | (simp [Value.oneCell']; done) | assumption) H uP sZ sZ ?_); clear H; intro w1 H; simp only [pS]) | (with_reducible refine (Stp.stl rfl size78 rfl rfl rfl rfl H uP (by simp) ?_); clear H; intro w1 H; simp only [pS]; simp only [List.drop_succ_cons, List.drop_zero, List.take_succ_cons, List.take_zero, List.nil_append, List.cons_append, Nat.reduceAdd] at H)) | (with_reducible refine wpl rfl (ldQ (ty := 37) rfl ?_); first | (with_reducible refine (Stp.ldo rfl agg37 rfl H (by assumption) (by assumption) ?_); simp only [pS]) | (with_reducible refine (Stp.ldc rfl agg37 rfl H mR cE ?_); simp only [pS])) | (with_reducible refine wpl rfl (ldQ (ty := 22) rfl ?_); first | (with_reducible refine (Stp.ldo rfl agg22 rfl H (by assumption) (by assumption) ?_); simp only [pS]) | (with_reducible refine (Stp.ldc rfl agg22 rfl H mR cE ?_); simp only [pS])))
  go_loopw [5, 12] (fun o i wr => ∃ (q : Nat) (es : List Eh) (a : Option Addr) (m c : Nat), q ≤ n ∧ i = .int .i64 q ∧ o = .slice a m c ∧ Hid (es.length = m) ∧ Hid (es = ordH id (tellL (ls.take q))) ∧ m ≤ 1000 ∧ Hid (InR All wr ⟨es, a, c⟩) ∧ Hid (Below w.heap.size w wr)) (fun _ i _ => n - (intOf i).toNat)
  case atStart => exact ⟨0, [], none, 0, 0, Nat.zero_le _, rfl, rfl, Lib.hid rfl, Lib.hid (by rw [List.take_zero]; with_unfolding_all rfl), by omega, Lib.hid ⟨(SlG.of_sl ⟨none, 0, rfl, (by decide), fun h => absurd h (Nat.lt_irrefl _)⟩).mono (fun _ _ => trivial), Nat.le_refl _⟩, Lib.hid H.below⟩
  case round =>
    clear H
    obtain ⟨q, es, a, m, c, hq, rfl, rfl, HES, HEO, hm, HIN, HBW⟩ := hrel
    have H := St.init wr
    by_cases hlt : q < n
    · have hl1 : q < ls.length := by rw [HN.out]; exact hlt
      have hl' := hl.grow HBW.out
      obtain ⟨b1, o1, rfl, hb1⟩ := hl'.addr (by omega)
      have hc1 := hl'.cell hlt
      rw [elL_at hl1] at hc1
      have hme := List.getElem_mem hl1
      have HTk := Lib.hid (List.take_succ_eq_append_getElem hl1)
      obtain ⟨x, hx⟩ : ∃ x, ls[q] = x := ⟨_, rfl⟩
      rw [hx] at hc1 hme HTk
      have qli : (q : Int) < (n : Int) := by omega
      have HXW := Lib.hid ((HLW.out x hme).grow HBW.out)
      have HXN := Lib.hid (HLE.out x hme)
      clear hme hx hl1
      go_wp2_with (first | (go_at_call 30; (with_reducible refine (life_ok x _ (HXW.out.l.grow H.below) HXN.out).mono ?_); rintro e wS ⟨v, rfl, hr⟩; obtain ⟨⟨s1, a1, c1, G1, rfl, hcp, hD, hGG, hS⟩, hb1⟩ := hr; have HD1 := Lib.hid hD; have HSY : SysG All wS (.slice a1 s1.length c1) s1 := hS.mono (fun _ _ => trivial); have HB1 := Lib.hid (H.below.trans (hb1.mono H.below.size)); clear H; have H := St.init wS; obtain ⟨n1, hn1⟩ : ∃ n1, s1.length = n1 := ⟨_, rfl⟩; have HN1 := Lib.hid hn1; rw [hn1]; clear hb1 hD hcp hGG hS) | (with_reducible refine wpl rfl (ldQ (ty := 29) rfl ?_); first | (with_reducible refine (Stp.ldor rfl agg29 size29 rfl H (by assumption) sZ (by assumption) ?_); simp only [pS]) | (with_reducible refine (Stp.ldr rfl agg29 size29 rfl H mR sZ ?_); simp only [pS]) | (with_reducible refine (Stp.ldl rfl agg29 size29 rfl H mR (by simp) ?_); simp only [pS]; simp only [List.drop_succ_cons, List.drop_zero, List.take_succ_cons, List.take_zero])) | (with_reducible refine wpl rfl (dQ 7 rfl ?_); with_reducible refine (Stp.alloc 7 rfl rfl zero29 H ?_); clear H; intro g7 w1 H; simp only [pS]; simp only [nC] at H) | (with_reducible refine wpl rfl (stQ (ty := 29) rfl ?_); first | (with_reducible refine (Stp.str rfl size29 rfl rfl (by first | rfl | (simp [Value.oneCell']; done) | assumption) H uP sZ sZ ?_); clear H; intro w1 H; simp only [pS]) | (with_reducible refine (Stp.stl rfl size29 rfl rfl rfl rfl H uP (by simp) ?_); clear H; intro w1 H; simp only [pS]; simp only [List.drop_succ_cons, List.drop_zero, List.take_succ_cons, List.take_zero, List.nil_append, List.cons_append, Nat.reduceAdd] at H)) | (with_reducible refine wpl rfl (ldQ (ty := 78) rfl ?_); first | (with_reducible refine (Stp.ldor rfl agg78 size78 rfl H (by assumption) sZ (by assumption) ?_); simp only [pS]) | (with_reducible refine (Stp.ldr rfl agg78 size78 rfl H mR sZ ?_); simp only [pS]) | (with_reducible refine (Stp.ldl rfl agg78 size78 rfl H mR (by simp) ?_); simp only [pS]; simp only [List.drop_succ_cons, List.drop_zero, List.take_succ_cons, List.take_zero])) | (with_reducible refine wpl rfl (dQ 9 rfl ?_); with_reducible refine (Stp.alloc 9 rfl rfl zero78 H ?_); clear H; intro g9 w1 H; simp only [pS]; simp only [nC] at H) | (with_reducible refine wpl rfl (stQ (ty := 78) rfl ?_); first | (with_reducible refine (Stp.str rfl size78 rfl rfl (by first | rfl | (simp [Value.oneCell']; done) | assumption) H uP sZ sZ ?_); clear H; intro w1 H; simp only [pS]) | (with_reducible refine (Stp.stl rfl size78 rfl rfl rfl rfl H uP (by simp) ?_); clear H; intro w1 H; simp only [pS]; simp only [List.drop_succ_cons, List.drop_zero, List.take_succ_cons, List.take_zero, List.nil_append, List.cons_append, Nat.reduceAdd] at H)) | (with_reducible refine wpl rfl (ldQ (ty := 37) rfl ?_); first | (with_reducible refine (Stp.ldo rfl agg37 rfl H (by assumption) (by assumption) ?_); simp only [pS]) | (with_reducible refine (Stp.ldc rfl agg37 rfl H mR cE ?_); simp only [pS])) | (with_reducible refine wpl rfl (ldQ (ty := 22) rfl ?_); first | (with_reducible refine (Stp.ldo rfl agg22 rfl H (by assumption) (by assumption) ?_); simp only [pS]) | (with_reducible refine (Stp.ldc rfl agg22 rfl H mR cE ?_); simp only [pS])))
      have HIN1 := Lib.hid (HIN.out.grow HB1.out)
      have HSY2 := Lib.hid HSY.2
      have HSL := HSY.1.sl
      rw [hn1] at HSL
      have HSLc := HSL
      obtain ⟨_, _, _, hmc, _⟩ := HSLc
      unfold maxLen at hmc
      clear HSY hn1
      have H0 := H
      clear H
      go_loopw [5, 19] (fun o j wi => ∃ (k : Nat) (es2 : List Eh) (a2 : Option Addr) (m2 c2 : Nat), k ≤ n1 ∧ j = .int .i64 k ∧ o = .slice a2 m2 c2 ∧ Hid (es2.length = m2) ∧ Hid (es2 = ordH id (tellL (ls.take q) ++ ((s1.map syd).map idT).take k)) ∧ m2 ≤ 1000 ∧ Hid (InR All wi ⟨es2, a2, c2⟩) ∧ Hid (Below wS.heap.size wS wi)) (fun _ j _ => n1 - (intOf j).toNat)
      case atStart => exact ⟨0, es, a, m, c, Nat.zero_le _, rfl, rfl, HES, Lib.hid (by rw [List.take_zero, List.append_nil]; exact HEO.out), hm, HIN1, Lib.hid (Below.refl _ _)⟩
      case round =>
        clear H0
        obtain ⟨k, es2, a2, m2, c2, hk, rfl, rfl, HES2, HEO2, hm2, HIN2, HBW2⟩ := hrel
        have H := St.init wr
        by_cases hlt2 : k < n1
        · have hl2 : k < s1.length := by rw [HN1.out]; exact hlt2
          have HSL' := HSL.grow HBW2.out
          obtain ⟨b2, o2, rfl, hb2⟩ := HSL'.addr (by omega)
          have hc2 := HSL'.cell hlt2
          rw [elS_at hl2] at hc2
          have hmy := List.getElem_mem hl2
          have HTD : Hid (((s1.map syd).map idT).take (k + 1) = ((s1.map syd).map idT).take k ++ [idT (syd s1[k])]) := Lib.hid (by
            have hk2 : k < ((s1.map syd).map idT).length := by rw [List.length_map, List.length_map]; exact hl2
            rw [List.take_succ_eq_append_getElem hk2]
            simp only [List.getElem_map])
          obtain ⟨y, hy⟩ : ∃ y, s1[k] = y := ⟨_, rfl⟩
          rw [hy] at hc2 hmy HTD
          have HYT := Lib.hid ((HSY2.out y hmy).2.grow HBW2.out)
          have hyl : y.told.length ≤ 1000 := by
            have h1 : syd y ∈ lifeH x.p x.l := by rw [← HD1.out]; exact List.mem_map.2 ⟨y, hmy, rfl⟩
            exact Nat.le_trans (lifeH_in x _ h1).lt HXN.out
          have kli : (k : Int) < (n1 : Int) := by omega
          simp only [syc] at hc2
          clear hmy hy hl2
          by_cases hid : y.e.1.x.id = id
          · have hii : ((y.e.1.x.id : Int) == (id : Int)) = true := by simp [hid]
            by_cases hlen : m2 < y.told.length
            · have hli : (m2 : Int) < (y.told.length : Int) := by omega
              have HEO3 : Hid (y.told = ordH id (tellL (ls.take q) ++ ((s1.map syd).map idT).take (k + 1))) := Lib.hid (by
                rw [HTD.out, ← List.append_assoc, ordH_snoc, ← HEO2.out, ordT_yes (z := idT (syd y)) hid (by rw [HES2.out]; exact hlen)]; rfl)
              clear hid
              go_wp2_with (first | (with_reducible refine wpl rfl (ldQ (ty := 29) rfl ?_); first | (with_reducible refine (Stp.ldor rfl agg29 size29 rfl H (by assumption) sZ (by assumption) ?_); simp only [pS]) | (with_reducible refine (Stp.ldr rfl agg29 size29 rfl H mR sZ ?_); simp only [pS]) | (with_reducible refine (Stp.ldl rfl agg29 size29 rfl H mR (by simp) ?_); simp only [pS]; simp only [List.drop_succ_cons, List.drop_zero, List.take_succ_cons, List.take_zero])) | (with_reducible refine wpl rfl (dQ 7 rfl ?_); with_reducible refine (Stp.alloc 7 rfl rfl zero29 H ?_); clear H; intro g7 w1 H; simp only [pS]; simp only [nC] at H) | (with_reducible refine wpl rfl (stQ (ty := 29) rfl ?_); first | (with_reducible refine (Stp.str rfl size29 rfl rfl (by first | rfl | (simp [Value.oneCell']; done) | assumption) H uP sZ sZ ?_); clear H; intro w1 H; simp only [pS]) | (with_reducible refine (Stp.stl rfl size29 rfl rfl rfl rfl H uP (by simp) ?_); clear H; intro w1 H; simp only [pS]; simp only [List.drop_succ_cons, List.drop_zero, List.take_succ_cons, List.take_zero, List.nil_append, List.cons_append, Nat.reduceAdd] at H)) | (with_reducible refine wpl rfl (ldQ (ty := 78) rfl ?_); first | (with_reducible refine (Stp.ldor rfl agg78 size78 rfl H (by assumption) sZ (by assumption) ?_); simp only [pS]) | (with_reducible refine (Stp.ldr rfl agg78 size78 rfl H mR sZ ?_); simp only [pS]) | (with_reducible refine (Stp.ldl rfl agg78 size78 rfl H mR (by simp) ?_); simp only [pS]; simp only [List.drop_succ_cons, List.drop_zero, List.take_succ_cons, List.take_zero])) | (with_reducible refine wpl rfl (dQ 9 rfl ?_); with_reducible refine (Stp.alloc 9 rfl rfl zero78 H ?_); clear H; intro g9 w1 H; simp only [pS]; simp only [nC] at H) | (with_reducible refine wpl rfl (stQ (ty := 78) rfl ?_); first | (with_reducible refine (Stp.str rfl size78 rfl rfl (by first | rfl | (simp [Value.oneCell']; done) | assumption) H uP sZ sZ ?_); clear H; intro w1 H; simp only [pS]) | (with_reducible refine (Stp.stl rfl size78 rfl rfl rfl rfl H uP (by simp) ?_); clear H; intro w1 H; simp only [pS]; simp only [List.drop_succ_cons, List.drop_zero, List.take_succ_cons, List.take_zero, List.nil_append, List.cons_append, Nat.reduceAdd] at H)) | (with_reducible refine wpl rfl (ldQ (ty := 37) rfl ?_); first | (with_reducible refine (Stp.ldo rfl agg37 rfl H (by assumption) (by assumption) ?_); simp only [pS]) | (with_reducible refine (Stp.ldc rfl agg37 rfl H mR cE ?_); simp only [pS])) | (with_reducible refine wpl rfl (ldQ (ty := 22) rfl ?_); first | (with_reducible refine (Stp.ldo rfl agg22 rfl H (by assumption) (by assumption) ?_); simp only [pS]) | (with_reducible refine (Stp.ldc rfl agg22 rfl H mR cE ?_); simp only [pS])))
              go_roundw
              case rel => exact ⟨k + 1, y.told, y.ta, y.told.length, y.tc, by omega, by go_num, rfl, Lib.hid rfl, HEO3, hyl, Lib.hid (HYT.out.grow H.below), Lib.hid (HBW2.out.trans (H.below.mono HBW2.out.size))⟩
              case measure => simp [intOf]; omega
            · have hli : ¬ (m2 : Int) < (y.told.length : Int) := by omega
              have HEO3 : Hid (es2 = ordH id (tellL (ls.take q) ++ ((s1.map syd).map idT).take (k + 1))) := Lib.hid (by
                rw [HTD.out, ← List.append_assoc, ordH_snoc, ← HEO2.out, ordT_no (z := idT (syd y)) (fun h => hlen (by rw [← HES2.out]; exact h.2))])
              clear hid
              go_wp2_with (first | (with_reducible refine wpl rfl (ldQ (ty := 29) rfl ?_); first | (with_reducible refine (Stp.ldor rfl agg29 size29 rfl H (by assumption) sZ (by assumption) ?_); simp only [pS]) | (with_reducible refine (Stp.ldr rfl agg29 size29 rfl H mR sZ ?_); simp only [pS]) | (with_reducible refine (Stp.ldl rfl agg29 size29 rfl H mR (by simp) ?_); simp only [pS]; simp only [List.drop_succ_cons, List.drop_zero, List.take_succ_cons, List.take_zero])) | (with_reducible refine wpl rfl (dQ 7 rfl ?_); with_reducible refine (Stp.alloc 7 rfl rfl zero29 H ?_); clear H; intro g7 w1 H; simp only [pS]; simp only [nC] at H) | (with_reducible refine wpl rfl (stQ (ty := 29) rfl ?_); first | (with_reducible refine (Stp.str rfl size29 rfl rfl (by first | rfl | (simp [Value.oneCell']; done) | assumption) H uP sZ sZ ?_); clear H; intro w1 H; simp only [pS]) | (with_reducible refine (Stp.stl rfl size29 rfl rfl rfl rfl H uP (by simp) ?_); clear H; intro w1 H; simp only [pS]; simp only [List.drop_succ_cons, List.drop_zero, List.take_succ_cons, List.take_zero, List.nil_append, List.cons_append, Nat.reduceAdd] at H)) | (with_reducible refine wpl rfl (ldQ (ty := 78) rfl ?_); first | (with_reducible refine (Stp.ldor rfl agg78 size78 rfl H (by assumption) sZ (by assumption) ?_); simp only [pS]) | (with_reducible refine (Stp.ldr rfl agg78 size78 rfl H mR sZ ?_); simp only [pS]) | (with_reducible refine (Stp.ldl rfl agg78 size78 rfl H mR (by simp) ?_); simp only [pS]; simp only [List.drop_succ_cons, List.drop_zero, List.take_succ_cons, List.take_zero])) | (with_reducible refine wpl rfl (dQ 9 rfl ?_); with_reducible refine (Stp.alloc 9 rfl rfl zero78 H ?_); clear H; intro g9 w1 H; simp only [pS]; simp only [nC] at H) | (with_reducible refine wpl rfl (stQ (ty := 78) rfl ?_); first | (with_reducible refine (Stp.str rfl size78 rfl rfl (by first | rfl | (simp [Value.oneCell']; done) | assumption) H uP sZ sZ ?_); clear H; intro w1 H; simp only [pS]) | (with_reducible refine (Stp.stl rfl size78 rfl rfl rfl rfl H uP (by simp) ?_); clear H; intro w1 H; simp only [pS]; simp only [List.drop_succ_cons, List.drop_zero, List.take_succ_cons, List.take_zero, List.nil_append, List.cons_append, Nat.reduceAdd] at H)) | (with_reducible refine wpl rfl (ldQ (ty := 37) rfl ?_); first | (with_reducible refine (Stp.ldo rfl agg37 rfl H (by assumption) (by assumption) ?_); simp only [pS]) | (with_reducible refine (Stp.ldc rfl agg37 rfl H mR cE ?_); simp only [pS])) | (with_reducible refine wpl rfl (ldQ (ty := 22) rfl ?_); first | (with_reducible refine (Stp.ldo rfl agg22 rfl H (by assumption) (by assumption) ?_); simp only [pS]) | (with_reducible refine (Stp.ldc rfl agg22 rfl H mR cE ?_); simp only [pS])))
              go_roundw
              case rel => exact ⟨k + 1, es2, a2, m2, c2, by omega, by go_num, rfl, HES2, HEO3, hm2, Lib.hid (HIN2.out.grow H.below), Lib.hid (HBW2.out.trans (H.below.mono HBW2.out.size))⟩
              case measure => simp [intOf]; omega
          · have hii : ((y.e.1.x.id : Int) == (id : Int)) = false := by simp; omega
            have HEO3 : Hid (es2 = ordH id (tellL (ls.take q) ++ ((s1.map syd).map idT).take (k + 1))) := Lib.hid (by
              rw [HTD.out, ← List.append_assoc, ordH_snoc, ← HEO2.out, ordT_no (z := idT (syd y)) (fun h => hid h.1)])
            go_wp2_with (first | (with_reducible refine wpl rfl (ldQ (ty := 29) rfl ?_); first | (with_reducible refine (Stp.ldor rfl agg29 size29 rfl H (by assumption) sZ (by assumption) ?_); simp only [pS]) | (with_reducible refine (Stp.ldr rfl agg29 size29 rfl H mR sZ ?_); simp only [pS]) | (with_reducible refine (Stp.ldl rfl agg29 size29 rfl H mR (by simp) ?_); simp only [pS]; simp only [List.drop_succ_cons, List.drop_zero, List.take_succ_cons, List.take_zero])) | (with_reducible refine wpl rfl (dQ 7 rfl ?_); with_reducible refine (Stp.alloc 7 rfl rfl zero29 H ?_); clear H; intro g7 w1 H; simp only [pS]; simp only [nC] at H) | (with_reducible refine wpl rfl (stQ (ty := 29) rfl ?_); first | (with_reducible refine (Stp.str rfl size29 rfl rfl (by first | rfl | (simp [Value.oneCell']; done) | assumption) H uP sZ sZ ?_); clear H; intro w1 H; simp only [pS]) | (with_reducible refine (Stp.stl rfl size29 rfl rfl rfl rfl H uP (by simp) ?_); clear H; intro w1 H; simp only [pS]; simp only [List.drop_succ_cons, List.drop_zero, List.take_succ_cons, List.take_zero, List.nil_append, List.cons_append, Nat.reduceAdd] at H)) | (with_reducible refine wpl rfl (ldQ (ty := 78) rfl ?_); first | (with_reducible refine (Stp.ldor rfl agg78 size78 rfl H (by assumption) sZ (by assumption) ?_); simp only [pS]) | (with_reducible refine (Stp.ldr rfl agg78 size78 rfl H mR sZ ?_); simp only [pS]) | (with_reducible refine (Stp.ldl rfl agg78 size78 rfl H mR (by simp) ?_); simp only [pS]; simp only [List.drop_succ_cons, List.drop_zero, List.take_succ_cons, List.take_zero])) | (with_reducible refine wpl rfl (dQ 9 rfl ?_); with_reducible refine (Stp.alloc 9 rfl rfl zero78 H ?_); clear H; intro g9 w1 H; simp only [pS]; simp only [nC] at H) | (with_reducible refine wpl rfl (stQ (ty := 78) rfl ?_); first | (with_reducible refine (Stp.str rfl size78 rfl rfl (by first | rfl | (simp [Value.oneCell']; done) | assumption) H uP sZ sZ ?_); clear H; intro w1 H; simp only [pS]) | (with_reducible refine (Stp.stl rfl size78 rfl rfl rfl rfl H uP (by simp) ?_); clear H; intro w1 H; simp only [pS]; simp only [List.drop_succ_cons, List.drop_zero, List.take_succ_cons, List.take_zero, List.nil_append, List.cons_append, Nat.reduceAdd] at H)) | (with_reducible refine wpl rfl (ldQ (ty := 37) rfl ?_); first | (with_reducible refine (Stp.ldo rfl agg37 rfl H (by assumption) (by assumption) ?_); simp only [pS]) | (with_reducible refine (Stp.ldc rfl agg37 rfl H mR cE ?_); simp only [pS])) | (with_reducible refine wpl rfl (ldQ (ty := 22) rfl ?_); first | (with_reducible refine (Stp.ldo rfl agg22 rfl H (by assumption) (by assumption) ?_); simp only [pS]) | (with_reducible refine (Stp.ldc rfl agg22 rfl H mR cE ?_); simp only [pS])))
            go_roundw
            case rel => exact ⟨k + 1, es2, a2, m2, c2, by omega, by go_num, rfl, HES2, HEO3, hm2, Lib.hid (HIN2.out.grow H.below), Lib.hid (HBW2.out.trans (H.below.mono HBW2.out.size))⟩
            case measure => simp [intOf]; omega
        · obtain rfl : k = n1 := by omega
          have HEO3 : Hid (es2 = ordH id (tellL (ls.take (q + 1)))) := Lib.hid (by
            rw [HEO2.out, tellL_snoc HTk.out, List.take_of_length_le (l := (s1.map syd).map idT) (by rw [List.length_map, List.length_map, HN1.out]; exact Nat.le_refl _), HD1.out, life_idT])
          have HBT := HBW.out.trans (HB1.out.mono HBW.out.size)
          have HB3 := Lib.hid (HBT.trans (HBW2.out.mono HBT.size))
          go_wp2_with (first | (with_reducible refine wpl rfl (ldQ (ty := 29) rfl ?_); first | (with_reducible refine (Stp.ldor rfl agg29 size29 rfl H (by assumption) sZ (by assumption) ?_); simp only [pS]) | (with_reducible refine (Stp.ldr rfl agg29 size29 rfl H mR sZ ?_); simp only [pS]) | (with_reducible refine (Stp.ldl rfl agg29 size29 rfl H mR (by simp) ?_); simp only [pS]; simp only [List.drop_succ_cons, List.drop_zero, List.take_succ_cons, List.take_zero])) | (with_reducible refine wpl rfl (dQ 7 rfl ?_); with_reducible refine (Stp.alloc 7 rfl rfl zero29 H ?_); clear H; intro g7 w1 H; simp only [pS]; simp only [nC] at H) | (with_reducible refine wpl rfl (stQ (ty := 29) rfl ?_); first | (with_reducible refine (Stp.str rfl size29 rfl rfl (by first | rfl | (simp [Value.oneCell']; done) | assumption) H uP sZ sZ ?_); clear H; intro w1 H; simp only [pS]) | (with_reducible refine (Stp.stl rfl size29 rfl rfl rfl rfl H uP (by simp) ?_); clear H; intro w1 H; simp only [pS]; simp only [List.drop_succ_cons, List.drop_zero, List.take_succ_cons, List.take_zero, List.nil_append, List.cons_append, Nat.reduceAdd] at H)) | (with_reducible refine wpl rfl (ldQ (ty := 78) rfl ?_); first | (with_reducible refine (Stp.ldor rfl agg78 size78 rfl H (by assumption) sZ (by assumption) ?_); simp only [pS]) | (with_reducible refine (Stp.ldr rfl agg78 size78 rfl H mR sZ ?_); simp only [pS]) | (with_reducible refine (Stp.ldl rfl agg78 size78 rfl H mR (by simp) ?_); simp only [pS]; simp only [List.drop_succ_cons, List.drop_zero, List.take_succ_cons, List.take_zero])) | (with_reducible refine wpl rfl (dQ 9 rfl ?_); with_reducible refine (Stp.alloc 9 rfl rfl zero78 H ?_); clear H; intro g9 w1 H; simp only [pS]; simp only [nC] at H) | (with_reducible refine wpl rfl (stQ (ty := 78) rfl ?_); first | (with_reducible refine (Stp.str rfl size78 rfl rfl (by first | rfl | (simp [Value.oneCell']; done) | assumption) H uP sZ sZ ?_); clear H; intro w1 H; simp only [pS]) | (with_reducible refine (Stp.stl rfl size78 rfl rfl rfl rfl H uP (by simp) ?_); clear H; intro w1 H; simp only [pS]; simp only [List.drop_succ_cons, List.drop_zero, List.take_succ_cons, List.take_zero, List.nil_append, List.cons_append, Nat.reduceAdd] at H)) | (with_reducible refine wpl rfl (ldQ (ty := 37) rfl ?_); first | (with_reducible refine (Stp.ldo rfl agg37 rfl H (by assumption) (by assumption) ?_); simp only [pS]) | (with_reducible refine (Stp.ldc rfl agg37 rfl H mR cE ?_); simp only [pS])) | (with_reducible refine wpl rfl (ldQ (ty := 22) rfl ?_); first | (with_reducible refine (Stp.ldo rfl agg22 rfl H (by assumption) (by assumption) ?_); simp only [pS]) | (with_reducible refine (Stp.ldc rfl agg22 rfl H mR cE ?_); simp only [pS])))
          go_roundw
          case rel => exact ⟨q + 1, es2, a2, m2, c2, by omega, by go_num, rfl, HES2, HEO3, hm2, HIN2, HB3⟩
          case measure => simp [intOf]; omega
    · obtain rfl : q = n := by omega
      go_wp2_with (first | (go_at_call 32; (with_reducible refine (eclone_ok a es HES.out (by omega) _ ((HIN.out.slE HES.out).grow H.below)).mono ?_); rintro e w1 ⟨v, rfl, hr⟩; obtain ⟨⟨a2, c2, rfl, hin⟩, hb1⟩ := hr) | (with_reducible refine wpl rfl (ldQ (ty := 29) rfl ?_); first | (with_reducible refine (Stp.ldor rfl agg29 size29 rfl H (by assumption) sZ (by assumption) ?_); simp only [pS]) | (with_reducible refine (Stp.ldr rfl agg29 size29 rfl H mR sZ ?_); simp only [pS]) | (with_reducible refine (Stp.ldl rfl agg29 size29 rfl H mR (by simp) ?_); simp only [pS]; simp only [List.drop_succ_cons, List.drop_zero, List.take_succ_cons, List.take_zero])) | (with_reducible refine wpl rfl (dQ 7 rfl ?_); with_reducible refine (Stp.alloc 7 rfl rfl zero29 H ?_); clear H; intro g7 w1 H; simp only [pS]; simp only [nC] at H) | (with_reducible refine wpl rfl (stQ (ty := 29) rfl ?_); first | (with_reducible refine (Stp.str rfl size29 rfl rfl (by first | rfl | (simp [Value.oneCell']; done) | assumption) H uP sZ sZ ?_); clear H; intro w1 H; simp only [pS]) | (with_reducible refine (Stp.stl rfl size29 rfl rfl rfl rfl H uP (by simp) ?_); clear H; intro w1 H; simp only [pS]; simp only [List.drop_succ_cons, List.drop_zero, List.take_succ_cons, List.take_zero, List.nil_append, List.cons_append, Nat.reduceAdd] at H)) | (with_reducible refine wpl rfl (ldQ (ty := 78) rfl ?_); first | (with_reducible refine (Stp.ldor rfl agg78 size78 rfl H (by assumption) sZ (by assumption) ?_); simp only [pS]) | (with_reducible refine (Stp.ldr rfl agg78 size78 rfl H mR sZ ?_); simp only [pS]) | (with_reducible refine (Stp.ldl rfl agg78 size78 rfl H mR (by simp) ?_); simp only [pS]; simp only [List.drop_succ_cons, List.drop_zero, List.take_succ_cons, List.take_zero])) | (with_reducible refine wpl rfl (dQ 9 rfl ?_); with_reducible refine (Stp.alloc 9 rfl rfl zero78 H ?_); clear H; intro g9 w1 H; simp only [pS]; simp only [nC] at H) | (with_reducible refine wpl rfl (stQ (ty := 78) rfl ?_); first | (with_reducible refine (Stp.str rfl size78 rfl rfl (by first | rfl | (simp [Value.oneCell']; done) | assumption) H uP sZ sZ ?_); clear H; intro w1 H; simp only [pS]) | (with_reducible refine (Stp.stl rfl size78 rfl rfl rfl rfl H uP (by simp) ?_); clear H; intro w1 H; simp only [pS]; simp only [List.drop_succ_cons, List.drop_zero, List.take_succ_cons, List.take_zero, List.nil_append, List.cons_append, Nat.reduceAdd] at H)) | (with_reducible refine wpl rfl (ldQ (ty := 37) rfl ?_); first | (with_reducible refine (Stp.ldo rfl agg37 rfl H (by assumption) (by assumption) ?_); simp only [pS]) | (with_reducible refine (Stp.ldc rfl agg37 rfl H mR cE ?_); simp only [pS])) | (with_reducible refine wpl rfl (ldQ (ty := 22) rfl ?_); first | (with_reducible refine (Stp.ldo rfl agg22 rfl H (by assumption) (by assumption) ?_); simp only [pS]) | (with_reducible refine (Stp.ldc rfl agg22 rfl H mR cE ?_); simp only [pS])))
      go_ret
      have e1 : ordH id (tellL ls) = es := by rw [HEO.out, ← HN.out, List.take_length]
      rw [e1]
      exact ⟨_, rfl, ⟨a2, c2, m, rfl, HES.out, hin⟩, HBW.out.trans ((H.below.trans (hb1.mono H.below.size)).mono HBW.out.size)⟩
theorem rorder_ok (ls : List Lv) (la : Option Addr) (lc n id : Nat) (hn : ls.length = n) (hnb : n ≤ 1000) (w : World) (hl : Sl w 3 n (.slice la n lc) (elL ls)) (hlw : ∀ x ∈ ls, LvO w x) (hle : ∀ x ∈ ls, x.l.length ≤ 1000) :
    Calls Try.prog 21 #[.slice la n lc, .int .u64 (id : Int)] w (Ret fun v w' => (∃ a c m, v = .slice a m c ∧ (ordH id (tellL ls)).length = m ∧ InR All w' ⟨ordH id (tellL ls), a, c⟩) ∧ Below w.heap.size w w') := by
  have H := St.init w
  have HN := Lib.hid hn
  have HLW := Lib.hid hlw
  have HLE := Lib.hid hle
  have HTL : Hid (∀ z ∈ tellL ls, z.2.length ≤ 1000) := Lib.hid (tellL_len hle)
  clear hn hlw hle
  go_enter Try.func21, Try.ntmps21
  go_wp2_with (first | (go_at_call 12; (with_reducible refine (stays29_ok ls la lc n HN.out hnb _ (hl.grow H.below) (fun x hx => (HLW.out x hx).grow H.below) HLE.out).mono ?_); rintro e wS ⟨v, rfl, hr⟩; obtain ⟨⟨R, ra, rc, G2, rfl, hR, hG, hRG⟩, hb1⟩ := hr; have HR := Lib.hid hR; have HRG : RsG All wS (.slice ra R.length rc) R := ⟨hRG.1.mono (fun _ _ => trivial), fun r hr => ⟨(hRG.2 r hr).1.mono (fun _ _ => trivial), (hRG.2 r hr).2.mono (fun _ _ => trivial)⟩⟩; have HB1 := Lib.hid (H.below.trans (hb1.mono H.below.size)); clear H; have H := St.init wS; obtain ⟨n1, hn1⟩ : ∃ n1, R.length = n1 := ⟨_, rfl⟩; have HN1 := Lib.hid hn1; rw [hn1]; clear hb1 hR hG hRG hn1) | (with_reducible refine wpl rfl (ldQ (ty := 37) rfl ?_); first | (with_reducible refine (Stp.ldo rfl agg37 rfl H (by assumption) (by assumption) ?_); simp only [pS]) | (with_reducible refine (Stp.ldc rfl agg37 rfl H mR cE ?_); simp only [pS])) | (with_reducible refine wpl rfl (ldQ (ty := 22) rfl ?_); first | (with_reducible refine (Stp.ldo rfl agg22 rfl H (by assumption) (by assumption) ?_); simp only [pS]) | (with_reducible refine (Stp.ldc rfl agg22 rfl H mR cE ?_); simp only [pS])))
  have HR2 := Lib.hid HRG.2
  have HSL := HRG.1.sl
  rw [HN1.out] at HSL
  clear HRG
  have HQ : Hid (R.map (fun r => idQ (ryd r)) = tellL ls) := Lib.hid (by rw [← all4_idQ, ← HR.out, List.map_map]; rfl)
  have HSLc := HSL
  obtain ⟨_, _, _, hmc, _⟩ := HSLc
  unfold maxLen at hmc
  have H0 := H
  clear H
  go_loopw [5, 7] (fun o j wi => ∃ (k : Nat) (es2 : List Eh) (a2 : Option Addr) (m2 c2 : Nat), k ≤ n1 ∧ j = .int .i64 k ∧ o = .slice a2 m2 c2 ∧ Hid (es2.length = m2) ∧ Hid (es2 = ordH id ((tellL ls).take k)) ∧ m2 ≤ 1000 ∧ Hid (InR All wS ⟨es2, a2, c2⟩) ∧ St wS.heap.size wS wi []) (fun _ j _ => n1 - (intOf j).toNat)
  case atStart => exact ⟨0, [], none, 0, 0, Nat.zero_le _, rfl, rfl, Lib.hid rfl, Lib.hid (by rw [List.take_zero]; with_unfolding_all rfl), by omega, Lib.hid ⟨(SlG.of_sl ⟨none, 0, rfl, (by decide), fun h => absurd h (Nat.lt_irrefl _)⟩).mono (fun _ _ => trivial), Nat.le_refl _⟩, H0⟩
  case round =>
    clear H0
    obtain ⟨k, es2, a2, m2, c2, hk, rfl, rfl, HES2, HEO2, hm2, HIN2, H⟩ := hrel
    by_cases hlt2 : k < n1
    · have hl2 : k < R.length := by rw [HN1.out]; exact hlt2
      obtain ⟨b2, o2, rfl, hb2⟩ := HSL.addr (by omega)
      have hc2 := HSL.cell hlt2
      rw [elR_at hl2] at hc2
      have hmy := List.getElem_mem hl2
      have HTD : Hid ((tellL ls).take (k + 1) = (tellL ls).take k ++ [idQ (ryd R[k])]) := Lib.hid (by
        have hk2 : k < (R.map (fun r => idQ (ryd r))).length := by rw [List.length_map]; exact hl2
        rw [← HQ.out, List.take_succ_eq_append_getElem hk2]
        simp only [List.getElem_map])
      obtain ⟨y, hy⟩ : ∃ y, R[k] = y := ⟨_, rfl⟩
      rw [hy] at hc2 hmy HTD
      have HYT := Lib.hid (HR2.out y hmy).2
      have hyl : y.y.told.length ≤ 1000 := HTL.out (idQ (ryd y)) (by rw [← HQ.out]; exact List.mem_map.2 ⟨y, hmy, rfl⟩)
      have kli : (k : Int) < (n1 : Int) := by omega
      have hid1 : wS.cell? ⟨b2, o2 + k * 11 + 2, none⟩ = some (.int .u64 (y.y.e.1.x.id : Int)) := hc2 2 (by omega)
      have htd1 : wS.cell? ⟨b2, o2 + k * 11 + 7, none⟩ = some (.slice y.y.ta y.y.told.length y.y.tc) := hc2 7 (by omega)
      clear hmy hy hl2 hc2
      by_cases hid : y.y.e.1.x.id = id
      · have hii : ((y.y.e.1.x.id : Int) == (id : Int)) = true := by simp [hid]
        by_cases hlen : m2 < y.y.told.length
        · have hli : (m2 : Int) < (y.y.told.length : Int) := by omega
          have HEO3 : Hid (y.y.told = ordH id ((tellL ls).take (k + 1))) := Lib.hid (by
            rw [HTD.out, ordH_snoc, ← HEO2.out, ordT_yes (z := idQ (ryd y)) hid (by rw [HES2.out]; exact hlen)]; rfl)
          clear hid
          go_wp2_with (first | (with_reducible refine wpl rfl (ldQ (ty := 37) rfl ?_); first | (with_reducible refine (Stp.ldo rfl agg37 rfl H (by assumption) (by assumption) ?_); simp only [pS]) | (with_reducible refine (Stp.ldc rfl agg37 rfl H mR cE ?_); simp only [pS])) | (with_reducible refine wpl rfl (ldQ (ty := 22) rfl ?_); first | (with_reducible refine (Stp.ldo rfl agg22 rfl H (by assumption) (by assumption) ?_); simp only [pS]) | (with_reducible refine (Stp.ldc rfl agg22 rfl H mR cE ?_); simp only [pS])))
          go_roundw
          case rel => exact ⟨k + 1, y.y.told, y.y.ta, y.y.told.length, y.y.tc, by omega, by go_num, rfl, Lib.hid rfl, HEO3, hyl, HYT, H⟩
          case measure => simp [intOf]; omega
        · have hli : ¬ (m2 : Int) < (y.y.told.length : Int) := by omega
          have HEO3 : Hid (es2 = ordH id ((tellL ls).take (k + 1))) := Lib.hid (by
            rw [HTD.out, ordH_snoc, ← HEO2.out, ordT_no (z := idQ (ryd y)) (fun h => hlen (by rw [← HES2.out]; exact h.2))])
          clear hid
          go_wp2_with (first | (with_reducible refine wpl rfl (ldQ (ty := 37) rfl ?_); first | (with_reducible refine (Stp.ldo rfl agg37 rfl H (by assumption) (by assumption) ?_); simp only [pS]) | (with_reducible refine (Stp.ldc rfl agg37 rfl H mR cE ?_); simp only [pS])) | (with_reducible refine wpl rfl (ldQ (ty := 22) rfl ?_); first | (with_reducible refine (Stp.ldo rfl agg22 rfl H (by assumption) (by assumption) ?_); simp only [pS]) | (with_reducible refine (Stp.ldc rfl agg22 rfl H mR cE ?_); simp only [pS])))
          go_roundw
          case rel => exact ⟨k + 1, es2, a2, m2, c2, by omega, by go_num, rfl, HES2, HEO3, hm2, HIN2, H⟩
          case measure => simp [intOf]; omega
      · have hii : ((y.y.e.1.x.id : Int) == (id : Int)) = false := by simp; omega
        have HEO3 : Hid (es2 = ordH id ((tellL ls).take (k + 1))) := Lib.hid (by
          rw [HTD.out, ordH_snoc, ← HEO2.out, ordT_no (z := idQ (ryd y)) (fun h => hid h.1)])
        go_wp2_with (first | (with_reducible refine wpl rfl (ldQ (ty := 37) rfl ?_); first | (with_reducible refine (Stp.ldo rfl agg37 rfl H (by assumption) (by assumption) ?_); simp only [pS]) | (with_reducible refine (Stp.ldc rfl agg37 rfl H mR cE ?_); simp only [pS])) | (with_reducible refine wpl rfl (ldQ (ty := 22) rfl ?_); first | (with_reducible refine (Stp.ldo rfl agg22 rfl H (by assumption) (by assumption) ?_); simp only [pS]) | (with_reducible refine (Stp.ldc rfl agg22 rfl H mR cE ?_); simp only [pS])))
        go_roundw
        case rel => exact ⟨k + 1, es2, a2, m2, c2, by omega, by go_num, rfl, HES2, HEO3, hm2, HIN2, H⟩
        case measure => simp [intOf]; omega
    · obtain rfl : k = n1 := by omega
      go_wp2_with (first | (with_reducible refine wpl rfl (ldQ (ty := 37) rfl ?_); first | (with_reducible refine (Stp.ldo rfl agg37 rfl H (by assumption) (by assumption) ?_); simp only [pS]) | (with_reducible refine (Stp.ldc rfl agg37 rfl H mR cE ?_); simp only [pS])) | (with_reducible refine wpl rfl (ldQ (ty := 22) rfl ?_); first | (with_reducible refine (Stp.ldo rfl agg22 rfl H (by assumption) (by assumption) ?_); simp only [pS]) | (with_reducible refine (Stp.ldc rfl agg22 rfl H mR cE ?_); simp only [pS])))
      go_ret
      have e1 : ordH id (tellL ls) = es2 := by
        rw [HEO2.out, ← HQ.out, ← HN1.out, List.take_of_length_le (by rw [List.length_map]; exact Nat.le_refl _)]
      rw [e1]
      exact ⟨_, rfl, ⟨a2, c2, m2, rfl, HES2.out, HIN2.out.grow H.below⟩, HB1.out.trans (H.below.mono HB1.out.size)⟩
end Go.Proofs.Ytbepaafgcbgmfaa
