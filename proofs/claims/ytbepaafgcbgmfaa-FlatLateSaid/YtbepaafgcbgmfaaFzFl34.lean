/- The statement FlatLate of layer 29 (flat): the law's walk; the bounds stand in it. -/
import Derived.Test.YtbepaafgcbgmfaaFz31
import Derived.Test.YtbepaafgcbgmfaaFz32
import Derived.Test.YtbepaafgcbgmfaaFzFl30
namespace Go.Proofs.Ytbepaafgcbgmfaa
open Go.ChangeShapes Go.WideShapes Go.ChangeAt Go.RowKit Go.Maps Go.Deep
set_option linter.unusedVariables false
set_option linter.unusedSimpArgs false
set_option linter.unusedSectionVars false
set_option maxRecDepth 100000
set_option maxHeartbeats 4000000
theorem mzI : ∀ W : World, (zeroValue 3).run Try.prog W = .ok (.int .i64 0) W := fun _ => by kernel_rfl
/-! ### How many are late -/
theorem ordT_spec (id : Nat) : ∀ (T : List (Nat × List Eh)) (out : List Eh), out.length ≤ (T.foldl (ordT id) out).length ∧ ∀ z ∈ T, z.1 = id → z.2.length ≤ (T.foldl (ordT id) out).length
  | [], out => ⟨Nat.le_refl _, fun z h => absurd h List.not_mem_nil⟩
  | a :: T, out => by
    obtain ⟨h1, h2⟩ := ordT_spec id T (ordT id out a)
    have h4 : out.length ≤ (ordT id out a).length ∧ (a.1 = id → a.2.length ≤ (ordT id out a).length) := by
      unfold ordT
      by_cases h : a.1 = id ∧ out.length < a.2.length
      · rw [if_pos h]; exact ⟨by omega, fun _ => Nat.le_refl _⟩
      · rw [if_neg h]; exact ⟨Nat.le_refl _, fun e => by
          have : ¬ out.length < a.2.length := fun h5 => h ⟨e, h5⟩
          omega⟩
    refine ⟨Nat.le_trans h4.1 h1, fun s hs e => ?_⟩
    rcases List.mem_cons.1 hs with rfl | hs
    · exact Nat.le_trans (h4.2 e) h1
    · exact h2 s hs e
theorem mem_put {M : List (Pr × Int)} {p : Pr} {v : Int} {z : Pr × Int} (h : z ∈ mput M p v) : z ∈ M ∨ z = (p, v) := by
  unfold mput at h
  split at h
  · obtain ⟨y, hy, e⟩ := List.mem_map.1 h
    split at e
    · exact .inr e.symm
    · exact .inl (e ▸ hy)
  · rcases List.mem_append.1 h with h | h
    · exact .inl h
    · exact .inr (List.mem_singleton.1 h)
theorem lateM_mem (id A : Nat) : ∀ (T : List Tp) (M : List (Pr × Int)) (Q : Pr × Int → Prop), (∀ z ∈ M, Q z) → (∀ z ∈ T, z.2.1 = id → Q (z.1, (A : Int) - (z.2.2.length : Int))) → ∀ z ∈ T.foldl (lateT id A) M, Q z
  | [], M, Q, h, _ => h
  | a :: T, M, Q, h, h2 => by
    refine lateM_mem id A T (lateT id A M a) Q (fun z hz => ?_) (fun z hz => h2 z (List.mem_cons_of_mem _ hz))
    unfold lateT at hz
    split at hz
    · rename_i e
      rcases mem_put hz with h3 | rfl
      · exact h z h3
      · exact h2 a List.mem_cons_self e
    · exact h z hz
theorem late_nonneg {ls : List Lv} {id A : Nat} (hA : (ordH id (tellL ls)).length = A) (p : Pr) : 0 ≤ (mget (lateM id A (telP ls)) p).getD 0 := by
  cases h : mget (lateM id A (telP ls)) p with
  | none => exact Int.le_refl _
  | some v =>
    have h1 := lateM_mem id A (telP ls) [] (fun z => 0 ≤ z.2) (fun z hz => absurd hz List.not_mem_nil) (fun z hz e => by
      have h2 := (ordT_spec id (tellL ls) []).2 z.2 (by rw [← telP_map]; exact List.mem_map.2 ⟨z, hz, rfl⟩) e
      have h3 : (List.foldl (ordT id) [] (tellL ls)).length = A := hA
      show 0 ≤ (A : Int) - (z.2.2.length : Int)
      omega) (p, v) (mget_mem h)
    exact h1
theorem late_keys {ls : List Lv} {id A : Nat} : ∀ z ∈ lateM id A (telP ls), z.1 ∈ ls.map (·.p) :=
  lateM_mem id A (telP ls) [] (fun z => z.1 ∈ ls.map Lv.p) (fun z hz => absurd hz List.not_mem_nil) (fun z hz e => by
    obtain ⟨x, hx, hz⟩ := List.mem_flatMap.1 hz
    obtain ⟨es, _, rfl⟩ := List.mem_map.1 hz
    exact List.mem_map.2 ⟨x, hx, rfl⟩)
def addP (D : List Pr) (p : Pr) : List Pr := if p ∈ D then D else D ++ [p]
/-- Who lives, each once. -/
def fstL (ls : List Lv) : List Pr := (ls.map (·.p)).foldl addP []
theorem addP_mem {D : List Pr} {p q : Pr} : q ∈ addP D p ↔ q ∈ D ∨ q = p := by
  unfold addP
  split
  · rename_i h
    exact ⟨.inl, fun h2 => h2.elim id (fun e => e ▸ h)⟩
  · rw [List.mem_append, List.mem_singleton]
theorem addP_nodup {D : List Pr} {p : Pr} (h : D.Nodup) : (addP D p).Nodup := by
  unfold addP
  split
  · exact h
  · rename_i hn
    refine List.nodup_append.2 ⟨h, by simp, fun a ha b hb => ?_⟩
    obtain rfl := List.mem_singleton.1 hb
    exact fun e => hn (e ▸ ha)
theorem addP_fold : ∀ (l D : List Pr), D.Nodup → (l.foldl addP D).Nodup ∧ ∀ q, q ∈ l.foldl addP D ↔ q ∈ D ∨ q ∈ l
  | [], D, h => ⟨h, fun q => by simp⟩
  | p :: l, D, h => by
    obtain ⟨h1, h2⟩ := addP_fold l (addP D p) (addP_nodup h)
    refine ⟨h1, fun q => ?_⟩
    show q ∈ l.foldl addP (addP D p) ↔ _
    rw [h2 q, addP_mem, List.mem_cons, or_assoc]
theorem fstL_mem {ls : List Lv} {q : Pr} : q ∈ fstL ls ↔ q ∈ ls.map (·.p) := by
  unfold fstL; rw [(addP_fold _ [] List.nodup_nil).2 q]; simp
theorem fstL_nodup (ls : List Lv) : (fstL ls).Nodup := (addP_fold _ [] List.nodup_nil).1
theorem fstL_snoc {ls : List Lv} {k : Nat} {x : Lv} (h : ls.take (k + 1) = ls.take k ++ [x]) : fstL (ls.take (k + 1)) = addP (fstL (ls.take k)) x.p := by
  unfold fstL; rw [h, List.map_append, List.foldl_append]; rfl
def cntF (M : List (Pr × Int)) (ls : List Lv) : Nat := ((fstL ls).filter fun p => (mget M p).isSome).length
theorem cntF_yes {M : List (Pr × Int)} {ls : List Lv} {k : Nat} {x : Lv} (h : ls.take (k + 1) = ls.take k ++ [x]) (h1 : x.p ∉ (ls.take k).map (·.p)) (h2 : (mget M x.p).isSome = true) : cntF M (ls.take (k + 1)) = cntF M (ls.take k) + 1 := by
  unfold cntF
  rw [fstL_snoc h]
  unfold addP
  rw [if_neg (fun h3 => h1 (fstL_mem.1 h3)), List.filter_append, List.length_append]
  simp [h2]
theorem cntF_no {M : List (Pr × Int)} {ls : List Lv} {k : Nat} {x : Lv} (h : ls.take (k + 1) = ls.take k ++ [x]) (h1 : x.p ∈ (ls.take k).map (·.p) ∨ (mget M x.p).isSome = false) : cntF M (ls.take (k + 1)) = cntF M (ls.take k) := by
  unfold cntF
  rw [fstL_snoc h]
  unfold addP
  split
  · rfl
  · rename_i h3
    rcases h1 with h1 | h1
    · exact absurd (fstL_mem.2 h1) h3
    · rw [List.filter_append, List.length_append]; simp [h1]
theorem cntF_le (M : List (Pr × Int)) (ls : List Lv) : cntF M ls ≤ ls.length := by
  have h1 : ∀ (l D : List Pr), (l.foldl addP D).length ≤ D.length + l.length := by
    intro l
    induction l with
    | nil => intro D; exact Nat.le_refl _
    | cons p l ih =>
      intro D
      have h := ih (addP D p)
      have h2 : (addP D p).length ≤ D.length + 1 := by unfold addP; split <;> simp
      show (l.foldl addP (addP D p)).length ≤ _
      rw [List.length_cons]; omega
  have h2 := h1 (ls.map (·.p)) []
  have h3 := List.length_filter_le (fun p => (mget M p).isSome) (fstL ls)
  unfold cntF
  unfold fstL at h3 ⊢
  simp at h2
  omega
theorem nodup_le {α : Type} [DecidableEq α] : ∀ (l m : List α), l.Nodup → (∀ a ∈ l, a ∈ m) → l.length ≤ m.length
  | [], m, _, _ => Nat.zero_le _
  | a :: l, m, h, hs => by
    obtain ⟨h1, h2⟩ := List.nodup_cons.1 h
    have hm := hs a List.mem_cons_self
    have h3 := nodup_le l (m.erase a) h2 (fun b hb => (List.mem_erase_of_ne (fun (e : b = a) => h1 (e ▸ hb))).2 (hs b (List.mem_cons_of_mem _ hb)))
    have h4 := List.length_erase_of_mem hm
    have h5 := List.length_pos_of_mem hm
    rw [List.length_cons]; omega
theorem late_len {ls : List Lv} {id A : Nat} (hn : (lateM id A (telP ls)).Pairwise fun p q => p.1 ≠ q.1) : (lateM id A (telP ls)).length = cntF (lateM id A (telP ls)) ls := by
  have hk : ((lateM id A (telP ls)).map (·.1)).Nodup := List.pairwise_map.2 hn
  unfold cntF
  have hL : ((lateM id A (telP ls)).map (·.1)).length = (lateM id A (telP ls)).length := List.length_map _
  rw [← hL]
  refine Nat.le_antisymm (nodup_le _ _ hk (fun a ha => ?_)) (nodup_le _ _ ((fstL_nodup ls).sublist List.filter_sublist) (fun a ha => ?_))
  · obtain ⟨z, hz, rfl⟩ := List.mem_map.1 ha
    refine List.mem_filter.2 ⟨fstL_mem.2 (late_keys z hz), ?_⟩
    rw [mget_of_mem hn hz]; rfl
  · have h2 := (List.mem_filter.1 ha).2
    cases h : mget (lateM id A (telP ls)) a with
    | none => rw [h] at h2; cases h2
    | some v => exact List.mem_map.2 ⟨(a, v), mget_mem h, rfl⟩
attribute [local irreducible] gF ordH tellL staysH lateM telP cntF apD
theorem law_flate (ls : List Lv) (la : Option Addr) (lc : Nat) (sn : List Sn) (sa : Option Addr) (sc : Nat) (id : Nat) (w : World) (hlc : ls.length ≤ lc) (hsc : sn.length ≤ sc) (hl : Sl w 3 ls.length (.slice la ls.length lc) (elL ls)) (hlw : ∀ x ∈ ls, LvO w x) (hs : Sl w 6 sn.length (.slice sa sn.length sc) (elN sn)) (hsw : ∀ x ∈ sn, SnW w x) :
    Calls Try.prog 8 #[.slice la ls.length lc, .slice sa sn.length sc, .int .u64 (id : Int)] w (Ret fun v w' => v = .bool true ∧ Below w.heap.size w w') := by
  have H := St.init w
  have HLW := Lib.hid hlw
  have HSW := Lib.hid hsw
  obtain ⟨n, hn⟩ : ∃ n, ls.length = n := ⟨_, rfl⟩
  obtain ⟨m, hm⟩ : ∃ m, sn.length = m := ⟨_, rfl⟩
  have HN := Lib.hid hn
  have HM := Lib.hid hm
  obtain ⟨e, he⟩ : ∃ e, gF ls m = e := ⟨_, rfl⟩
  have HG := Lib.hid he
  rw [hn] at hl hlc ⊢
  rw [hm] at hs hsc ⊢
  obtain ⟨_, _, _, hmm, _⟩ := (show ∃ a c, _ from hs)
  unfold maxLen at hmm
  clear hlw hsw
  cases e
  case true =>
    clear he hn hm
    go_enter Try.func8, Try.ntmps8
    go_wp2_with (first | (go_at_call 9; (with_reducible refine (great29_is ls la lc n HN.out sa sc m hmm _ HG.out _ (hl.grow H.below) (fun x hx => (HLW.out x hx).grow H.below)).mono ?_); rintro e w1 ⟨v, rfl, hr⟩; obtain ⟨rfl, hb1⟩ := hr; replace H := H.grow hb1; clear hb1) | (go_at_call 10; (with_reducible refine (aw29_ok _).mono ?_); rintro e w1 ⟨v, rfl, hr⟩; obtain ⟨rfl, hb1⟩ := hr; replace H := H.grow hb1; clear hb1) | (with_reducible refine wpl rfl (ldQ (ty := 27) rfl ?_); first | (with_reducible refine (Stp.ldor rfl agg27 size27 rfl H (by assumption) sZ (by assumption) ?_); simp only [pS]) | (with_reducible refine (Stp.ldr rfl agg27 size27 rfl H mR sZ ?_); simp only [pS]) | (with_reducible refine (Stp.ldl rfl agg27 size27 rfl H mR (by simp) ?_); simp only [pS]; simp only [List.drop_succ_cons, List.drop_zero, List.take_succ_cons, List.take_zero])))
    go_ret
    exact ⟨_, rfl, rfl, H.below⟩
  have hgo := gF_out he
  rw [hn] at hgo
  obtain ⟨hn12, hm60, hgx⟩ := hgo
  have hnb : n ≤ 1000 := by omega
  have hnB : n ≤ 1000000 := by omega
  have hmB : m ≤ 1000000 := by omega
  have HLE : Hid (∀ x ∈ ls, x.l.length ≤ 1000) := Lib.hid (fun x hx => by have := (hgx x hx).1; omega)
  have HLV : Hid (∀ x ∈ ls, LvW w x) := Lib.hid (fun x hx => (HLW.out x hx).w (hgx x hx).1 (hgx x hx).2)
  have HEV : Hid (∀ e ∈ ordH id (tellL ls), EvG w e) := Lib.hid (ord_ev (fun x hx => (HLW.out x hx).ev))
  have HWF : Hid (∀ e ∈ ordH id (tellL ls), wfE e) := Lib.hid (ord_wf (fun x hx => (HLW.out x hx).wf))
  clear he hn hm hgx
  obtain ⟨A, hA⟩ : ∃ A, (ordH id (tellL ls)).length = A := ⟨_, rfl⟩
  have HA := Lib.hid hA
  have hA1 : A ≤ 1000 := by
    rw [← hA]
    unfold ordH
    exact ordH_len id _ [] (Nat.zero_le _) (tellL_len HLE.out)
  clear hA
  go_enter Try.func8, Try.ntmps8
  go_upto_region 4 with (first | (go_at_call 9; (with_reducible refine (great29_is ls la lc n HN.out sa sc m hmm _ HG.out _ (hl.grow H.below) (fun x hx => (HLW.out x hx).grow H.below)).mono ?_); rintro e w1 ⟨v, rfl, hr⟩; obtain ⟨rfl, hb1⟩ := hr; replace H := H.grow hb1; clear hb1) | (go_at_call 22; (with_reducible refine (late_ok ls la lc n id A HN.out hnb HA.out hA1 _ (hl.grow H.below) (fun x hx => (HLW.out x hx).grow H.below) HLE.out).mono ?_); rintro e wS ⟨v, rfl, hr⟩; obtain ⟨⟨gm, rfl, hmp⟩, hb1⟩ := hr; have HMP := Lib.hid hmp; have HBS := Lib.hid (H.below.trans (hb1.mono H.below.size)); clear H; have H := St.init wS; clear hb1 hmp) | (with_reducible refine wpl rfl (ldQ (ty := 27) rfl ?_); first | (with_reducible refine (Stp.ldor rfl agg27 size27 rfl H (by assumption) sZ (by assumption) ?_); simp only [pS]) | (with_reducible refine (Stp.ldr rfl agg27 size27 rfl H mR sZ ?_); simp only [pS]) | (with_reducible refine (Stp.ldl rfl agg27 size27 rfl H mR (by simp) ?_); simp only [pS]; simp only [List.drop_succ_cons, List.drop_zero, List.take_succ_cons, List.take_zero])))
  have hlS := hl.grow HBS.out
  have HLS : Hid (∀ x ∈ ls, LvO wS x) := Lib.hid (fun x hx => (HLW.out x hx).grow HBS.out)
  have HND : Hid ((lateM id A (telP ls)).Pairwise fun p q => p.1 ≠ q.1) := Lib.hid (MapAt.nodup ekP_inj HMP.out)
  clear hl HLV
  go_wp2_with (first | (with_reducible refine wpl rfl (ldQ (ty := 27) rfl ?_); first | (with_reducible refine (Stp.ldor rfl agg27 size27 rfl H (by assumption) sZ (by assumption) ?_); simp only [pS]) | (with_reducible refine (Stp.ldr rfl agg27 size27 rfl H mR sZ ?_); simp only [pS]) | (with_reducible refine (Stp.ldl rfl agg27 size27 rfl H mR (by simp) ?_); simp only [pS]; simp only [List.drop_succ_cons, List.drop_zero, List.take_succ_cons, List.take_zero])))
  go_loopw [8, 9] (fun c i wr => ∃ q : Nat, q ≤ n ∧ i = .int .i64 q ∧ c = .int .i64 (cntF (lateM id A (telP ls)) (ls.take q) : Nat) ∧ St wS.heap.size wS wr []) (fun _ i _ => n - (intOf i).toNat)
  case atStart => exact ⟨0, Nat.zero_le _, rfl, by rw [List.take_zero]; with_unfolding_all rfl, H⟩
  case round =>
    clear H
    obtain ⟨q, hq, rfl, rfl, H⟩ := hrel
    obtain ⟨c, hc⟩ : ∃ c, cntF (lateM id A (telP ls)) (ls.take q) = c := ⟨_, rfl⟩
    have HC := Lib.hid hc
    have hcb : c ≤ 12 := by
      have h1 := cntF_le (lateM id A (telP ls)) (ls.take q)
      rw [hc, List.length_take] at h1; omega
    rw [hc]
    clear hc
    by_cases hlt : q < n
    · have hl1 : q < ls.length := by rw [HN.out]; exact hlt
      have hl0 : 0 < ls.length := by rw [HN.out]; omega
      obtain ⟨b1, o1, rfl, hb1⟩ := hlS.addr (by omega)
      have hc1 := hlS.cell hlt
      have hc0 := hlS.cell (i := 0) (by omega)
      rw [elL_at hl1] at hc1
      rw [elL_at hl0] at hc0
      have hme := List.getElem_mem hl1
      have hm0 := List.getElem_mem hl0
      have HTk := Lib.hid (List.take_succ_eq_append_getElem hl1)
      obtain ⟨x, hx⟩ : ∃ x, ls[q] = x := ⟨_, rfl⟩
      obtain ⟨x0, hx0⟩ : ∃ x, ls[0] = x := ⟨_, rfl⟩
      rw [hx] at hc1 hme HTk
      rw [hx0] at hc0 hm0
      have qli : (q : Int) < (n : Int) := by omega
      have nli : (0 : Int) < (n : Int) := by omega
      have nl0 : 0 < n := by omega
      have HXW := Lib.hid (HLS.out x hme)
      have HX0 := Lib.hid (HLS.out x0 hm0)
      obtain ⟨kl, hkl⟩ := keyP x.p HXW.out.p1 HXW.out.p2
      have HKY := Lib.hid hkl
      have hcp : ∀ j, j < 2 → wS.cell? ⟨b1, o1 + q * 3 + j, none⟩ = (#[.int .u16 (x.p.1 : Int), .int .u32 (x.p.2 : Int)] : Array Value)[j]? := fun j hj => by
        rw [hc1 j (by omega)]
        have hj' : j = 0 ∨ j = 1 := by omega
        rcases hj' with rfl | rfl <;> rfl
      have hch : wS.cell? ⟨b1, o1 + q * 3 + 2, none⟩ = some (.slice x.a x.l.length x.c) := hc1 2 (by omega)
      have hch0 : wS.cell? ⟨b1, o1 + 2, none⟩ = some (.slice x0.a x0.l.length x0.c) := by
        have := hc0 2 (by omega)
        rw [Nat.zero_mul, Nat.add_zero] at this; exact this
      obtain ⟨o, ho⟩ : ∃ o, mget (lateM id A (telP ls)) x.p = o := ⟨_, rfl⟩
      have HO := Lib.hid ho
      have HOV : Hid ((o.map evI).getD (.int .i64 0) = .int .i64 (o.getD 0)) := Lib.hid (by cases o <;> rfl)
      have HNN : Hid (decide (o.getD 0 < 0) = false) := Lib.hid (decide_eq_false (by have := late_nonneg HA.out x.p; rw [ho] at this; omega))
      obtain ⟨gn, hgn⟩ : ∃ gn, o.getD 0 = gn := ⟨_, rfl⟩
      obtain ⟨gs, hgs⟩ : ∃ gs, o.isSome = gs := ⟨_, rfl⟩
      have HGS : Hid ((mget (lateM id A (telP ls)) x.p).isSome = gs) := Lib.hid (by rw [ho, hgs])
      rw [hgn] at HNN HOV
      have HOT : Hid (Value.tuple #[.int .i64 (o.getD 0), .bool o.isSome] = .tuple #[.int .i64 gn, .bool gs]) := Lib.hid (by rw [hgn, hgs])
      have HOS : Hid (Value.tuple #[.int .i64 gn, .bool o.isSome] = .tuple #[.int .i64 gn, .bool gs]) := Lib.hid (by rw [hgs])
      obtain ⟨r, hr⟩ : ∃ r, apD (evD x0.l) (evD x.l) = r := ⟨_, rfl⟩
      have HR := Lib.hid hr
      have HBB : Hid ((gs != gs) = false) := Lib.hid (by simp)
      have HII : Hid ((gn != gn) = false) := Lib.hid (by simp)
      have HRR : Hid ((r != r) = false) := Lib.hid (by simp)
      clear hme hm0 hx hx0 hl1 hl0 hkl hc1 hc0 ho hgn hgs hr
      go_wp2_with (first | (go_at_call 23; (with_reducible refine (rlate_ok ls _ lc n id A x.p HN.out hnb HA.out hA1 _ (hlS.grow H.below) (fun x hx => (HLS.out x hx).grow H.below) HLE.out).mono ?_); rintro e w1 ⟨v, rfl, hr⟩; obtain ⟨rfl, hb1⟩ := hr; replace H := H.grow hb1; clear hb1; rw [HO.out, HOT.out]) | (with_reducible refine wpl rfl (dQ 47 rfl ?_); with_reducible refine (Stp.lookokF (k := 27) (e := 3) (ek := ekP) (ev := evI) (M := lateM id A (telP ls)) (b := gm) (q := x.p) rfl keyedP ekP_inj Try.underlying54 mzI rfl rfl HKY.out (HMP.out.grow H.below) ?_); rw [HO.out, HOV.out, HOS.out]; simp only [pS]) | (with_reducible refine wpl rfl (ldQ (ty := 27) rfl ?_); first | (with_reducible refine (Stp.ldor rfl agg27 size27 rfl H (by assumption) sZ (by assumption) ?_); simp only [pS]) | (with_reducible refine (Stp.ldr rfl agg27 size27 rfl H mR sZ ?_); simp only [pS]) | (with_reducible refine (Stp.ldl rfl agg27 size27 rfl H mR (by simp) ?_); simp only [pS]; simp only [List.drop_succ_cons, List.drop_zero, List.take_succ_cons, List.take_zero])))
      refine rg_begin 35 rfl (S := fun W => St _ _ W ([] : List Res)) (by kernel_rfl) (H.drew.sub sU) ?_
      replace H := H.drew
      have HS := H
      refine rg_take (i := 0) rfl kR kR kR (Yld.move rfl rfl) (H.sub sU) ?_; simp only [pS, pE]
      refine rg_take (i := 1) rfl kR kR kR (Yld.move rfl rfl) (H.sub sU) ?_; simp only [pS, pE]
      refine rg_take (i := 2) rfl kR kR kR (Yld.of (v := .bool false) rfl (fun W _ => by go_simp; first | done | exact HBB.out | (rw [HBB.out]) | (simpa using HBB.out))) (H.sub sU) ?_; simp only [pS, pE]
      refine rg_take (i := 3) rfl kR kR kR (Yld.move rfl rfl) (H.sub sU) ?_; simp only [pS, pE]
      refine rg_take (i := 4) rfl kR kR kR (Yld.move rfl rfl) (H.sub sU) ?_; simp only [pS, pE]
      refine rg_take (i := 5) rfl kR kR kR (Yld.move rfl rfl) (H.sub sU) ?_; simp only [pS, pE]
      refine rg_take (i := 6) rfl kR kR kR (Yld.of (v := .bool false) rfl (fun W _ => by go_simp; first | done | exact HII.out | (rw [HII.out]) | (simpa using HII.out))) (H.sub sU) ?_; simp only [pS, pE]
      refine rg_take (i := 7) rfl kR kR kR (Yld.pick rfl rfl rfl) (H.sub sU) ?_; simp only [pS, pE]
      refine rg_take (i := 8) rfl kR kR kR (Yld.move rfl rfl) (H.sub sU) ?_; simp only [pS, pE]
      refine rg_take (i := 9) rfl kR kR kR (Yld.move rfl rfl) (H.sub sU) ?_; simp only [pS, pE]
      refine rg_take (i := 10) rfl kR kR kR (Yld.of (v := .bool false) rfl (fun W _ => by go_simp; first | done | exact HNN.out | (rw [HNN.out]) | (simpa using HNN.out))) (H.sub sU) ?_; simp only [pS, pE]
      refine rg_take (i := 11) rfl kR kR kR (Yld.pick rfl rfl rfl) (H.sub sU) ?_; simp only [pS, pE]
      refine rg_take (i := 12) rfl kR kR kR (Yld.move rfl rfl) (H.sub sU) ?_; simp only [pS, pE]
      refine rg_take (i := 13) rfl kR kR kR (Yld.move rfl rfl) (H.sub sU) ?_; simp only [pS, pE]
      refine rg_take (i := 14) rfl kR kR kR (Yld.o rfl) (H.sub sU) ?_; simp only [pS]
      refine rg_take (i := 15) rfl kR kR kR (Yld.o rfl) (H.sub sU) ?_; simp only [pS]
      first | (refine rg_take (i := 16) rfl kR kR kR (Yld.ldo rfl rfl agg22 rfl (by assumption) (by assumption)) (H.sub sU) ?_; simp only [pS]) | (refine rg_take (i := 16) rfl kR kR kR (Yld.ldc rfl rfl agg22 rfl mR cE) (H.sub sU) ?_; simp only [pS])
      refine rg_take (i := 17) rfl kR kR kR (Yld.move rfl rfl) (H.sub sU) ?_; simp only [pS, pE]
      refine rg_take (i := 18) rfl kR kR kR (Yld.move rfl rfl) (H.sub sU) ?_; simp only [pS, pE]
      refine rg_take (i := 19) rfl kR kR kR (Yld.o rfl) (H.sub sU) ?_; simp only [pS]
      refine rg_take (i := 20) rfl kR kR kR (Yld.o rfl) (H.sub sU) ?_; simp only [pS]
      first | (refine rg_take (i := 21) rfl kR kR kR (Yld.ldo rfl rfl agg22 rfl (by assumption) (by assumption)) (H.sub sU) ?_; simp only [pS]) | (refine rg_take (i := 21) rfl kR kR kR (Yld.ldc rfl rfl agg22 rfl mR cE) (H.sub sU) ?_; simp only [pS])
      refine rg_take (i := 23) rfl kR kR kR (Yld.move rfl rfl) (H.sub sU) ?_; simp only [pS, pE]
      refine rg_take (i := 24) rfl kR kR kR (Yld.o rfl) (H.sub sU) ?_; simp only [pS]
      refine rg_take (i := 25) rfl kR kR kR (Yld.o rfl) (H.sub sU) ?_; simp only [pS]
      first | (refine rg_take (i := 26) rfl kR kR kR (Yld.ldo rfl rfl agg22 rfl (by assumption) (by assumption)) (H.sub sU) ?_; simp only [pS]) | (refine rg_take (i := 26) rfl kR kR kR (Yld.ldc rfl rfl agg22 rfl mR cE) (H.sub sU) ?_; simp only [pS])
      refine rg_take (i := 27) rfl kR kR kR (Yld.move rfl rfl) (H.sub sU) ?_; simp only [pS, pE]
      refine rg_take (i := 28) rfl kR kR kR (Yld.move rfl rfl) (H.sub sU) ?_; simp only [pS, pE]
      refine rg_take (i := 29) rfl kR kR kR (Yld.o rfl) (H.sub sU) ?_; simp only [pS]
      refine rg_take (i := 30) rfl kR kR kR (Yld.o rfl) (H.sub sU) ?_; simp only [pS]
      first | (refine rg_take (i := 31) rfl kR kR kR (Yld.ldo rfl rfl agg22 rfl (by assumption) (by assumption)) (H.sub sU) ?_; simp only [pS]) | (refine rg_take (i := 31) rfl kR kR kR (Yld.ldc rfl rfl agg22 rfl mR cE) (H.sub sU) ?_; simp only [pS])
      refine rg_one (i := 22) (by kernel_rfl) rfl rfl (fun K hK => ?_)
      refine wp_callf rfl ent24 (apart_is x0.a x.a x0.c x.c x0.l x.l rfl rfl r HR.out _ (HX0.out.l.grow H.below) (HXW.out.l.grow H.below) (fun e he => (HX0.out.ev e he).grow H.below) (fun e he => (HXW.out.ev e he).grow H.below) HX0.out.wf HXW.out.wf) rfl (fun v w1 hr => ?_)
      obtain ⟨rfl, hb1⟩ := hr
      replace H := H.grow hb1
      clear hb1
      clear HS
      have HS := H
      refine hK.out _ _ (H.sub sU) ?_
      clear hK K
      simp only [pS]
      refine rg_one (i := 32) (by kernel_rfl) rfl rfl (fun K hK => ?_)
      refine wp_callf rfl ent25 (rapart_is x0.a x.a x0.c x.c x0.l x.l rfl rfl r HR.out _ (HX0.out.l.grow H.below) (HXW.out.l.grow H.below) (fun e he => (HX0.out.ev e he).grow H.below) (fun e he => (HXW.out.ev e he).grow H.below) HX0.out.wf HXW.out.wf) rfl (fun v w1 hr => ?_)
      obtain ⟨rfl, hb1⟩ := hr
      replace H := H.grow hb1
      clear hb1
      clear HS
      have HS := H
      refine hK.out _ _ (H.sub sU) ?_
      clear hK K
      simp only [pS]
      refine rg_take (i := 33) rfl kR kR kR (Yld.of (v := .bool false) rfl (fun W _ => by go_simp; first | done | exact HRR.out | (rw [HRR.out]) | (simpa using HRR.out))) (H.sub sU) ?_; simp only [pS, pE]
      refine rg_take (i := 34) rfl kR kR kR (Yld.pick rfl rfl rfl) (H.sub sU) ?_; simp only [pS, pE]
      refine rg_done (by kernel_rfl) ?_
      go_wp2_with (first | (with_reducible refine wpl rfl (ldQ (ty := 27) rfl ?_); first | (with_reducible refine (Stp.ldor rfl agg27 size27 rfl H (by assumption) sZ (by assumption) ?_); simp only [pS]) | (with_reducible refine (Stp.ldr rfl agg27 size27 rfl H mR sZ ?_); simp only [pS]) | (with_reducible refine (Stp.ldl rfl agg27 size27 rfl H mR (by simp) ?_); simp only [pS]; simp only [List.drop_succ_cons, List.drop_zero, List.take_succ_cons, List.take_zero])))
      have H0 : St wS.heap.size wS _ [] := H.sub (List.nil_sublist _)
      clear H
      go_loopw [14, 15] (fun fs j wr => ∃ p : Nat, p ≤ q ∧ j = .int .i64 p ∧ fs = .bool (decide (x.p ∉ (ls.take p).map (·.p))) ∧ St wS.heap.size wS wr []) (fun _ j _ => q - (intOf j).toNat)
      case atStart => exact ⟨0, Nat.zero_le _, rfl, by simp, H0⟩
      case round =>
        clear H0
        obtain ⟨p, hp, rfl, rfl, H⟩ := hrel
        by_cases hlp : p < q
        · have pli : (p : Int) < (q : Int) := by omega
          have pln : (p : Int) < (n : Int) := by omega
          have hl3 : p < ls.length := by rw [HN.out]; omega
          have hc3 := hlS.cell (i := p) (by omega)
          rw [elL_at hl3] at hc3
          have HTp := Lib.hid (List.take_succ_eq_append_getElem hl3)
          obtain ⟨y, hy⟩ : ∃ y, ls[p] = y := ⟨_, rfl⟩
          rw [hy] at hc3 HTp
          have hcy : ∀ j, j < 2 → wS.cell? ⟨b1, o1 + p * 3 + j, none⟩ = (#[.int .u16 (y.p.1 : Int), .int .u32 (y.p.2 : Int)] : Array Value)[j]? := fun j hj => by
            rw [hc3 j (by omega)]
            have hj' : j = 0 ∨ j = 1 := by omega
            rcases hj' with rfl | rfl <;> rfl
          clear hc3 hy hl3
          by_cases hin : x.p ∈ (ls.take p).map (·.p)
          · have hd : decide (x.p ∉ (ls.take p).map (·.p)) = false := decide_eq_false (fun h => h hin)
            have HD2 : Hid (decide (x.p ∉ (ls.take (p + 1)).map (·.p)) = false) := Lib.hid (decide_eq_false (fun h => h (by rw [HTp.out, List.map_append]; exact List.mem_append_left _ hin)))
            rw [hd]
            clear hd hin
            go_wp2_with (first | (with_reducible refine wpl rfl (ldQ (ty := 27) rfl ?_); first | (with_reducible refine (Stp.ldor rfl agg27 size27 rfl H (by assumption) sZ (by assumption) ?_); simp only [pS]) | (with_reducible refine (Stp.ldr rfl agg27 size27 rfl H mR sZ ?_); simp only [pS]) | (with_reducible refine (Stp.ldl rfl agg27 size27 rfl H mR (by simp) ?_); simp only [pS]; simp only [List.drop_succ_cons, List.drop_zero, List.take_succ_cons, List.take_zero])))
            refine rg_begin 15 rfl (S := fun W => St _ _ W ([] : List Res)) (by kernel_rfl) (H.drew.sub sU) ?_
            replace H := H.drew
            have HS := H
            refine rg_take (i := 0) rfl kR kR kR (Yld.move rfl rfl) (H.sub sU) ?_; simp only [pS, pE]
            refine rg_take (i := 1) rfl kR kR kR (Yld.move rfl rfl) (H.sub sU) ?_; simp only [pS, pE]
            refine rg_take (i := 2) rfl kR kR kR (Yld.skip rfl) (H.sub sU) ?_; simp only [pS]
            refine rg_take (i := 3) rfl kR kR kR (Yld.skip rfl) (H.sub sU) ?_; simp only [pS]
            refine rg_take (i := 4) rfl kR kR kR (Yld.skip rfl) (H.sub sU) ?_; simp only [pS]
            refine rg_take (i := 5) rfl kR kR kR (Yld.skip rfl) (H.sub sU) ?_; simp only [pS]
            refine rg_take (i := 6) rfl kR kR kR (Yld.skip rfl) (H.sub sU) ?_; simp only [pS]
            refine rg_take (i := 7) rfl kR kR kR (Yld.skip rfl) (H.sub sU) ?_; simp only [pS]
            refine rg_take (i := 8) rfl kR kR kR (Yld.skip rfl) (H.sub sU) ?_; simp only [pS]
            refine rg_take (i := 9) rfl kR kR kR (Yld.skip rfl) (H.sub sU) ?_; simp only [pS]
            refine rg_take (i := 10) rfl kR kR kR (Yld.skip rfl) (H.sub sU) ?_; simp only [pS]
            refine rg_take (i := 11) rfl kR kR kR (Yld.skip rfl) (H.sub sU) ?_; simp only [pS]
            refine rg_take (i := 12) rfl kR kR kR (Yld.skip rfl) (H.sub sU) ?_; simp only [pS]
            refine rg_take (i := 13) rfl kR kR kR (Yld.pick rfl rfl rfl) (H.sub sU) ?_; simp only [pS, pE]
            refine rg_take (i := 14) rfl kR kR kR (Yld.assign rfl rfl) (H.sub sU) ?_; simp only [pS, pE]
            refine rg_done (by kernel_rfl) ?_
            go_wp2_with (first | (with_reducible refine wpl rfl (ldQ (ty := 27) rfl ?_); first | (with_reducible refine (Stp.ldor rfl agg27 size27 rfl H (by assumption) sZ (by assumption) ?_); simp only [pS]) | (with_reducible refine (Stp.ldr rfl agg27 size27 rfl H mR sZ ?_); simp only [pS]) | (with_reducible refine (Stp.ldl rfl agg27 size27 rfl H mR (by simp) ?_); simp only [pS]; simp only [List.drop_succ_cons, List.drop_zero, List.take_succ_cons, List.take_zero])))
            go_roundw
            case rel => exact ⟨p + 1, by omega, by go_num, by rw [HD2.out], H.sub (List.nil_sublist _)⟩
            case measure => simp [intOf]; omega
          · have hd : decide (x.p ∉ (ls.take p).map (·.p)) = true := decide_eq_true hin
            obtain ⟨bb, hbb⟩ : ∃ bb, (!decide (y.p = x.p)) = bb := ⟨_, rfl⟩
            have HB2 := Lib.hid hbb
            have HD2 : Hid (decide (x.p ∉ (ls.take (p + 1)).map (·.p)) = bb) := Lib.hid (by
              rw [HTp.out, ← hbb, ← decide_not, decide_eq_decide, List.map_append, List.mem_append]
              constructor
              · exact fun h e => h (.inr (List.mem_map.2 ⟨y, List.mem_singleton.2 rfl, e⟩))
              · exact fun h h2 => h2.elim hin (fun h3 => by
                obtain ⟨z, hz, e⟩ := List.mem_map.1 h3
                obtain rfl := List.mem_singleton.1 hz
                exact h e))
            rw [hd]
            clear hd hin hbb
            go_wp2_with (first | (with_reducible refine wpl rfl (ldQ (ty := 27) rfl ?_); first | (with_reducible refine (Stp.ldor rfl agg27 size27 rfl H (by assumption) sZ (by assumption) ?_); simp only [pS]) | (with_reducible refine (Stp.ldr rfl agg27 size27 rfl H mR sZ ?_); simp only [pS]) | (with_reducible refine (Stp.ldl rfl agg27 size27 rfl H mR (by simp) ?_); simp only [pS]; simp only [List.drop_succ_cons, List.drop_zero, List.take_succ_cons, List.take_zero])))
            refine rg_begin 15 rfl (S := fun W => St _ _ W ([] : List Res)) (by kernel_rfl) (H.drew.sub sU) ?_
            replace H := H.drew
            have HS := H
            refine rg_take (i := 0) rfl kR kR kR (Yld.move rfl rfl) (H.sub sU) ?_; simp only [pS, pE]
            refine rg_take (i := 1) rfl kR kR kR (Yld.move rfl rfl) (H.sub sU) ?_; simp only [pS, pE]
            refine rg_take (i := 2) rfl kR kR kR (Yld.move rfl rfl) (H.sub sU) ?_; simp only [pS, pE]
            refine rg_take (i := 3) rfl kR kR kR (Yld.move rfl rfl) (H.sub sU) ?_; simp only [pS, pE]
            refine rg_take (i := 4) rfl kR kR kR (Yld.o rfl) (H.sub sU) ?_; simp only [pS]
            refine rg_take (i := 5) rfl kR kR kR (Yld.o rfl) (H.sub sU) ?_; simp only [pS]
            first | (refine rg_take (i := 6) rfl kR kR kR (Yld.ldor rfl rfl agg27 size27 rfl (by assumption) sZ (by assumption)) (H.sub sU) ?_; simp only [pS]) | (refine rg_take (i := 6) rfl kR kR kR (Yld.ldr rfl rfl agg27 size27 rfl mR sZ) (H.sub sU) ?_; simp only [pS]) | (refine rg_take (i := 6) rfl kR kR kR (Yld.ldl rfl rfl agg27 size27 rfl mR (by simp)) (H.sub sU) ?_; simp only [pS]; simp only [List.drop_succ_cons, List.drop_zero, List.take_succ_cons, List.take_zero])
            refine rg_take (i := 7) rfl kR kR kR (Yld.move rfl rfl) (H.sub sU) ?_; simp only [pS, pE]
            refine rg_take (i := 8) rfl kR kR kR (Yld.move rfl rfl) (H.sub sU) ?_; simp only [pS, pE]
            refine rg_take (i := 9) rfl kR kR kR (Yld.o rfl) (H.sub sU) ?_; simp only [pS]
            refine rg_take (i := 10) rfl kR kR kR (Yld.o rfl) (H.sub sU) ?_; simp only [pS]
            first | (refine rg_take (i := 11) rfl kR kR kR (Yld.ldor rfl rfl agg27 size27 rfl (by assumption) sZ (by assumption)) (H.sub sU) ?_; simp only [pS]) | (refine rg_take (i := 11) rfl kR kR kR (Yld.ldr rfl rfl agg27 size27 rfl mR sZ) (H.sub sU) ?_; simp only [pS]) | (refine rg_take (i := 11) rfl kR kR kR (Yld.ldl rfl rfl agg27 size27 rfl mR (by simp)) (H.sub sU) ?_; simp only [pS]; simp only [List.drop_succ_cons, List.drop_zero, List.take_succ_cons, List.take_zero])
            refine rg_take (i := 12) rfl kR kR kR (Yld.nePD rfl rfl rfl rfl HB2.out) (H.sub sU) ?_; simp only [pS, pE]
            refine rg_take (i := 13) rfl kR kR kR (Yld.pick rfl rfl rfl) (H.sub sU) ?_; simp only [pS, pE]
            refine rg_take (i := 14) rfl kR kR kR (Yld.assign rfl rfl) (H.sub sU) ?_; simp only [pS, pE]
            refine rg_done (by kernel_rfl) ?_
            go_wp2_with (first | (with_reducible refine wpl rfl (ldQ (ty := 27) rfl ?_); first | (with_reducible refine (Stp.ldor rfl agg27 size27 rfl H (by assumption) sZ (by assumption) ?_); simp only [pS]) | (with_reducible refine (Stp.ldr rfl agg27 size27 rfl H mR sZ ?_); simp only [pS]) | (with_reducible refine (Stp.ldl rfl agg27 size27 rfl H mR (by simp) ?_); simp only [pS]; simp only [List.drop_succ_cons, List.drop_zero, List.take_succ_cons, List.take_zero])))
            go_roundw
            case rel => exact ⟨p + 1, by omega, by go_num, by rw [HD2.out], H.sub (List.nil_sublist _)⟩
            case measure => simp [intOf]; omega
        · obtain rfl : p = q := by omega
          clear hlp hp
          cases gs
          · have HC2 : Hid (cntF (lateM id A (telP ls)) (ls.take (p + 1)) = c) := Lib.hid (by rw [cntF_no HTk.out (.inr HGS.out), HC.out])
            go_wp2_with (first | (with_reducible refine wpl rfl (ldQ (ty := 27) rfl ?_); first | (with_reducible refine (Stp.ldor rfl agg27 size27 rfl H (by assumption) sZ (by assumption) ?_); simp only [pS]) | (with_reducible refine (Stp.ldr rfl agg27 size27 rfl H mR sZ ?_); simp only [pS]) | (with_reducible refine (Stp.ldl rfl agg27 size27 rfl H mR (by simp) ?_); simp only [pS]; simp only [List.drop_succ_cons, List.drop_zero, List.take_succ_cons, List.take_zero])))
            go_roundw
            case rel => exact ⟨p + 1, by omega, by go_num, by rw [HC2.out], H⟩
            case measure => simp [intOf]; omega
          · by_cases hin : x.p ∈ (ls.take p).map (·.p)
            · have hd : decide (x.p ∉ (ls.take p).map (·.p)) = false := decide_eq_false (fun h => h hin)
              have HC2 : Hid (cntF (lateM id A (telP ls)) (ls.take (p + 1)) = c) := Lib.hid (by rw [cntF_no HTk.out (.inl hin), HC.out])
              rw [hd]
              clear hd hin
              go_wp2_with (first | (with_reducible refine wpl rfl (ldQ (ty := 27) rfl ?_); first | (with_reducible refine (Stp.ldor rfl agg27 size27 rfl H (by assumption) sZ (by assumption) ?_); simp only [pS]) | (with_reducible refine (Stp.ldr rfl agg27 size27 rfl H mR sZ ?_); simp only [pS]) | (with_reducible refine (Stp.ldl rfl agg27 size27 rfl H mR (by simp) ?_); simp only [pS]; simp only [List.drop_succ_cons, List.drop_zero, List.take_succ_cons, List.take_zero])))
              go_roundw
              case rel => exact ⟨p + 1, by omega, by go_num, by rw [HC2.out], H⟩
              case measure => simp [intOf]; omega
            · have hd : decide (x.p ∉ (ls.take p).map (·.p)) = true := decide_eq_true hin
              have HC2 : Hid (cntF (lateM id A (telP ls)) (ls.take (p + 1)) = c + 1) := Lib.hid (by rw [cntF_yes HTk.out hin HGS.out, HC.out])
              rw [hd]
              clear hd hin
              go_wp2_with (first | (with_reducible refine wpl rfl (ldQ (ty := 27) rfl ?_); first | (with_reducible refine (Stp.ldor rfl agg27 size27 rfl H (by assumption) sZ (by assumption) ?_); simp only [pS]) | (with_reducible refine (Stp.ldr rfl agg27 size27 rfl H mR sZ ?_); simp only [pS]) | (with_reducible refine (Stp.ldl rfl agg27 size27 rfl H mR (by simp) ?_); simp only [pS]; simp only [List.drop_succ_cons, List.drop_zero, List.take_succ_cons, List.take_zero])))
              go_roundw
              case rel => exact ⟨p + 1, by omega, by go_num, by rw [HC2.out]; go_num, H⟩
              case measure => simp [intOf]; omega
    · obtain rfl : q = n := by omega
      have HLN : Hid ((lateM id A (telP ls)).length = c) := Lib.hid (by rw [late_len HND.out, ← HC.out, ← HN.out, List.take_length])
      go_wp2_with (first | (with_reducible refine wpl rfl (dQ 111 rfl ?_); with_reducible refine (Stp.lenmapF (k := 27) (e := 3) (ek := ekP) (ev := evI) (M := lateM id A (telP ls)) rfl Try.underlying54 rfl (HMP.out.grow H.below) ?_); rw [HLN.out]; simp only [pS]) | (go_at_call 10; (with_reducible refine (aw29_ok _).mono ?_); rintro e w1 ⟨v, rfl, hr⟩; obtain ⟨rfl, hb1⟩ := hr; replace H := H.grow hb1; clear hb1) | (with_reducible refine wpl rfl (ldQ (ty := 27) rfl ?_); first | (with_reducible refine (Stp.ldor rfl agg27 size27 rfl H (by assumption) sZ (by assumption) ?_); simp only [pS]) | (with_reducible refine (Stp.ldr rfl agg27 size27 rfl H mR sZ ?_); simp only [pS]) | (with_reducible refine (Stp.ldl rfl agg27 size27 rfl H mR (by simp) ?_); simp only [pS]; simp only [List.drop_succ_cons, List.drop_zero, List.take_succ_cons, List.take_zero])))
      go_ret
      exact ⟨_, rfl, rfl, HBS.out.trans (H.below.mono HBS.out.size)⟩
set_option maxRecDepth 100000 in
theorem flatLate_lifted (os : Os) (started : os.Started) (H : Type) (enc : TypeId × Value → H) :
    ReturnsInHanded {} Try.checked os 8 .any (Rows.flatLateSpec.pre6 enc Try.prog Try.f8 Rows.flatLateRow.domain false) (Rows.flatLateSpec.post enc Try.prog Try.f8 false true false false) := by
  refine law_lifted (C := Try.checked) own started (by kernel_rfl) Try.func8 laidOut rfl Try.underlying4 rfl (by kernel_rfl) (fun ds hd => ?_)
    (ChangeSpec.witness6 (enc := enc) (C := Try.checked) false ⟨#[], #[.slice none 0 0, .slice none 0 0, .int .u64 0], []⟩ 8 (by kernel_rfl) (by kernel_rfl) (by kernel_rfl) (by kernel_rfl)) ?_
  · match ds, hd with
    | [d0, d1, d2], _ => exact ⟨rfl, rfl, rfl⟩
  intro W base args ds p hval hA
  rw [Try.params8] at hA hval
  obtain ⟨v0, vs0, d0, ds0, p0, q0, hargs, rfl, rfl, h0, r0⟩ := trodAll_cons hA
  obtain ⟨v1, vs1, d1, ds1, p1, q1, rfl, rfl, rfl, h1, r1⟩ := trodAll_cons r0
  obtain ⟨v2, vs2, d2, ds2, p2, q2, rfl, rfl, rfl, h2, r2⟩ := trodAll_cons r1
  obtain ⟨rfl, rfl, rfl⟩ := trodAll_nil r2
  obtain rfl : args = #[v0, v1, v2] := by cases args; simp_all
  obtain ⟨l0, a0, c0, rfl, hc0, hs0, hw0⟩ := open_ls (hval 0 30 v0 rfl rfl) h0
  obtain ⟨l1, a1, c1, rfl, hc1, hs1, hw1⟩ := open_sns (hval 1 44 v1 rfl rfl) h1
  obtain ⟨n2, rfl, hn2⟩ := open_u64 (hval 2 37 v2 rfl rfl) h2
  exact law_flate l0 a0 c0 l1 a1 c1 n2 W hc0 hc1 hs0 hw0 hs1 hw1
theorem flatLate_over : Rows.flatLateRow.holds Try.pinned (OpenSpec.ofChange Rows.flatLateSpec) :=
  OpenClaim.holds_of_wide 8 Try.f8 rfl rfl rfl rfl rfl rfl rfl ⟨rfl, rfl, rfl, rfl, rfl⟩ rfl rfl rfl rfl rfl (by kernel_rfl) Try.func8 (by kernel_rfl)
    (of_decide_eq_true (by kernel_rfl)) (by unfold Func.isWrapper; first | (rw [if_pos (by decide +kernel)]; kernel_rfl) | (rw [if_neg (by decide +kernel)]; exact ⟨rfl, rfl⟩))
    (fun os started H enc _ => flatLate_lifted os started H enc)
theorem flatLate_holds : Rows.FlatLateSaid := flatLate_over
#print axioms flatLate_holds
end Go.Proofs.Ytbepaafgcbgmfaa
