/- The statement FlatCut of layer 29 (flat): the law's walk; the bounds stand in it. -/
import Derived.Test.YtbepaafgcbgmfaaFzFl30
namespace Go.Proofs.Ytbepaafgcbgmfaa
open Go.ChangeShapes Go.WideShapes Go.ChangeAt Go.RowKit Go.Maps Go.Deep
set_option linter.unusedVariables false
set_option linter.unusedSimpArgs false
set_option linter.unusedSectionVars false
set_option maxRecDepth 100000
set_option maxHeartbeats 4000000
theorem pick_any (b : Int) (n : Nat) (hn : 0 < n) (hn2 : n ≤ 1000000) (w : World) :
    Calls Try.prog 17 #[.int .i64 b, .int .i64 (n : Int)] w (Ret fun v w' => ∃ k : Nat, k < n ∧ v = .int .i64 (k : Int) ∧ Below w.heap.size w w') := by
  have H := St.init w
  have hr : -(n : Int) < b.tmod n ∧ b.tmod n < n := by
    have h1 := Int.emod_nonneg b (show (n : Int) ≠ 0 by omega)
    have h2 := Int.emod_lt_of_pos b (show (0 : Int) < n by omega)
    have h := Int.tmod_eq_emod (a := b) (b := (n : Int))
    rw [Int.natAbs_natCast] at h
    split at h <;> omega
  obtain ⟨e, he⟩ : ∃ e, b.tmod n = e := ⟨_, rfl⟩
  rw [he] at hr
  obtain ⟨h1, h2⟩ := hr
  have n1 : ¬ (n : Int) < 1 := by omega
  have nz : ((n : Int) == 0) = false := by simp; omega
  by_cases h0 : e < 0
  · go_enter Try.func17, Try.ntmps17
    go_wp2
    go_ret
    exact ⟨_, rfl, (e + n).toNat, by omega, congrArg (Value.int IntKind.i64) (show e + (n : Int) = _ by omega), H.below⟩
  · go_enter Try.func17, Try.ntmps17
    go_wp2
    go_ret
    exact ⟨_, rfl, e.toNat, by omega, congrArg (Value.int IntKind.i64) (show e = _ by omega), H.below⟩
section
variable {H : Type} {enc : TypeId × Value → H}
theorem open_i64 {W : World} {base : Nat} {v : Value} {d : DataW H} {p : List MemPlace} (hv : Value.okWide Try.prog W .any base 3 v) (h : DataW.Trod enc Try.prog W 0 (fun _ => true) true 3 v d p) : ∃ n : Int, v = .int .i64 n := by
  obtain ⟨k2, rfl, _, _, _⟩ := open_int Try.underlying3 hv h
  exact ⟨k2, rfl⟩
end
section
variable {P : Program} {ops : Array Oper} {a : Act} {o : Oper} {S : World → Prop}
/-- x[:k], of elements of any size. -/
theorem Yld.sltoE {ty e : TypeId} {x y : Operand} {A : Option Addr} {n c k size : Nat} {kd : IntKind} {z : Int} (hw : Region.wanted o (yielded ops a.tmps) = true) (ho : o.op = .slice ty x none (some y) none) (ht : P.underlying ty = some (.slice e)) (hs : ∀ W : World, (sizeOf e).run P W = .ok size W)
    (hx : a.eval x = .slice A n c) (hy : a.eval y = .int kd z) (hz : z = (k : Int)) (hk : k ≤ c) : YieldsIf P ops S o (.slice A k c) a := by
  subst hz
  refine .inl ⟨hw, fun W _ => ?_⟩
  unfold execOp; simp only [ho]
  have : (if c = 0 then A else A.map (·.add (0 * size))) = A := by
    split
    · rfl
    · cases A <;> simp [Addr.add]
  simp [hx, hy, Instr.sliceAt, Instr.slice, Instr.sliceBounds, Instr.sliceBound, asIntOf, run_underlying ht, hs, hk]
  intro _
  cases A <;> simp [Addr.add]
end
/-! ### One life cut -/
def cutX (x : Lv) (h : Nat) : Lv := ⟨x.p, x.l.take h, x.a, x.c⟩
def cutLs (ls : List Lv) (k h : Nat) : List Lv := ls.set k (cutX (ls.getD k lv0) h)
theorem cutLs_len (ls : List Lv) (k h : Nat) : (cutLs ls k h).length = ls.length := by unfold cutLs; rw [List.length_set]
theorem lvc_size (x : Lv) : (lvc x).size = 3 := rfl
theorem lvs_one (ls : List Lv) : ∀ u ∈ fv lvc ls, u.oneCell' = true := by
  intro u hu
  unfold fv at hu
  obtain ⟨y, _, hy⟩ := List.mem_flatMap.1 hu
  unfold lvc at hy
  simp only [List.mem_cons, List.not_mem_nil, or_false] at hy
  rcases hy with rfl | rfl | rfl <;> rfl
theorem fv_set {α : Type} {f : α → Array Value} {s : Nat} (hs : ∀ a, (f a).size = s) : ∀ (l : List α) (k j : Nat) (y y' : α) (v : Value), l[k]? = some y → j < s → (f y).toList.set j v = (f y').toList → (fv f l).set (k * s + j) v = fv f (l.set k y')
  | [], k, j, y, y', v, h, _, _ => by cases h
  | b :: l, k, j, y, y', v, h, hj, e => by
    have hb : (f b).toList.length = s := by rw [Array.length_toList, hs]
    cases k with
    | zero =>
      have : b = y := by simpa using h
      subst this
      show ((f b).toList ++ fv f l).set (0 * s + j) v = (f y').toList ++ fv f l
      rw [List.set_append, if_pos (by rw [hb]; omega), Nat.zero_mul, Nat.zero_add, e]
    | succ k =>
      show ((f b).toList ++ fv f l).set ((k + 1) * s + j) v = (f b).toList ++ fv f (l.set k y')
      rw [List.set_append, if_neg (by rw [hb, Nat.succ_mul]; omega), hb, show (k + 1) * s + j - s = k * s + j by rw [Nat.succ_mul]; omega, fv_set hs l k j y y' v (by simpa using h) hj e]
theorem own_ls {w : World} {b : Nat} {ls : List Lv} {a : Option Addr} {c n : Nat} (hn : ls.length = n) (h : w.ownsRow b 29 3 (.slice a n c) n (fv lvc ls)) (hb : n ≤ 1000000) : Sl w 3 n (.slice a n c) (elL ls) := by
  subst hn
  refine (SlG.of_own h (fun i hi j hj => ?_) (by unfold maxLen; omega)).sl
  rw [fv_get lvc_size ls i ls[i] (List.getElem?_eq_getElem hi) j hj, elL_at hi]; rfl
theorem evD_app_take (l : List Eh) (h : Nat) : evD l = evD (l.take h) ++ evD (l.drop h) := by
  unfold evD; rw [← List.map_append, List.take_append_drop]
theorem cutLs_cut {ls : List Lv} {k h : Nat} (hk : k < ls.length) : CutL ((cutLs ls k h).map plL) (ls.map plL) := by
  refine ⟨by rw [List.length_map, List.length_map, cutLs_len], fun i x' hx => ?_⟩
  rw [List.getElem?_map] at hx
  obtain ⟨y, hy, rfl⟩ := Option.map_eq_some_iff.1 hx
  unfold cutLs at hy
  rw [List.getElem?_map]
  by_cases hi : k = i
  · subst hi
    rw [List.getElem?_set_self hk] at hy
    obtain rfl := Option.some.inj hy
    refine ⟨evD (ls[k].l.drop h), ?_⟩
    rw [List.getElem?_eq_getElem hk, getD_at hk]
    show some (ls[k].p, evD ls[k].l) = some (ls[k].p, evD (ls[k].l.take h) ++ evD (ls[k].l.drop h))
    rw [← evD_app_take]
  · rw [List.getElem?_set_ne hi] at hy
    exact ⟨[], by rw [hy]; show some (plL y) = some (y.p, evD y.l ++ []); rw [List.append_nil]; rfl⟩
theorem cutX_w {w : World} {x : Lv} {h : Nat} (hx : LvW w x) (hh : h ≤ x.l.length) : LvW w (cutX x h) := by
  have hl : (x.l.take h).length = h := by rw [List.length_take]; omega
  refine ⟨?_, ?_, ?_, hx.p1, hx.p2, fun e he => hx.ev e (List.mem_of_mem_take he), fun e he => hx.wf e (List.mem_of_mem_take he), fun e he => hx.sm e (List.mem_of_mem_take he)⟩
  · have := Sl.takeE hx.l hh
    show Sl w 9 (x.l.take h).length (.slice x.a (x.l.take h).length x.c) (elE (x.l.take h))
    rw [hl] at this ⊢; exact this
  · show (x.l.take h).length ≤ x.c
    have := hx.cap; omega
  · show (x.l.take h).length ≤ 1000
    have := hx.len; omega
theorem cutLs_w {w : World} {ls : List Lv} {k h : Nat} (hk : k < ls.length) (hx : ∀ x ∈ ls, LvW w x) (hh : h ≤ ls[k].l.length) : ∀ x ∈ cutLs ls k h, LvW w x := by
  intro x hm
  rcases List.mem_or_eq_of_mem_set hm with h1 | rfl
  · exact hx x h1
  · rw [getD_at hk]; exact cutX_w (hx _ (List.getElem_mem hk)) hh
attribute [local irreducible] gF ordH tellL staysH checkP cutLs
theorem law_fcut (ls : List Lv) (la : Option Addr) (lc : Nat) (sn : List Sn) (sa : Option Addr) (sc : Nat) (who at_ : Int) (w : World) (hlc : ls.length ≤ lc) (hsc : sn.length ≤ sc) (hl : Sl w 3 ls.length (.slice la ls.length lc) (elL ls)) (hlw : ∀ x ∈ ls, LvO w x) (hs : Sl w 6 sn.length (.slice sa sn.length sc) (elN sn)) (hsw : ∀ x ∈ sn, SnW w x) :
    Calls Try.prog 4 #[.slice la ls.length lc, .slice sa sn.length sc, .int .i64 who, .int .i64 at_] w (Ret fun v w' => v = .bool true ∧ Below w.heap.size w w') := by
  have H := St.init w
  have HLW := Lib.hid hlw
  have HSW := Lib.hid hsw
  obtain ⟨n, hn⟩ : ∃ n, ls.length = n := ⟨_, rfl⟩
  obtain ⟨m, hm⟩ : ∃ m, sn.length = m := ⟨_, rfl⟩
  have HN := Lib.hid hn
  have HM := Lib.hid hm
  obtain ⟨e, he⟩ : ∃ e, gF ls m = e := ⟨_, rfl⟩
  have HG := Lib.hid he
  rw [hn] at hl hlc ⊢
  rw [hm] at hs hsc ⊢
  obtain ⟨_, _, _, hmm, _⟩ := (show ∃ a c, _ from hs)
  unfold maxLen at hmm
  clear hlw hsw
  cases e
  case true =>
    clear he hn hm
    go_enter Try.func4, Try.ntmps4
    go_wp2_with (first | (go_at_call 9; (with_reducible refine (great29_is ls la lc n HN.out sa sc m hmm _ HG.out _ (hl.grow H.below) (fun x hx => (HLW.out x hx).grow H.below)).mono ?_); rintro e w1 ⟨v, rfl, hr⟩; obtain ⟨rfl, hb1⟩ := hr; replace H := H.grow hb1; clear hb1) | (go_at_call 10; (with_reducible refine (aw29_ok _).mono ?_); rintro e w1 ⟨v, rfl, hr⟩; obtain ⟨rfl, hb1⟩ := hr; replace H := H.grow hb1; clear hb1))
    go_ret
    exact ⟨_, rfl, rfl, H.below⟩
  have hgo := gF_out he
  rw [hn] at hgo
  obtain ⟨hn12, hm60, hgx⟩ := hgo
  have hnb : n ≤ 1000 := by omega
  have hnB : n ≤ 1000000 := by omega
  have hmB : m ≤ 1000000 := by omega
  have HLE : Hid (∀ x ∈ ls, x.l.length ≤ 1000) := Lib.hid (fun x hx => by have := (hgx x hx).1; omega)
  have HLV : Hid (∀ x ∈ ls, LvW w x) := Lib.hid (fun x hx => (HLW.out x hx).w (hgx x hx).1 (hgx x hx).2)
  clear he hn hm hgx
  have HFL : Hid ((fv lvc ls).length = n * 3) := Lib.hid (by rw [fv_len lvc_size, HN.out])
  have HFG : Hid (∀ i, i < n → ∀ j, j < 3 → (fv lvc ls)[i * 3 + j]? = (elL ls i)[j]?) := Lib.hid (fun i hi j hj => by
    have hi' : i < ls.length := by rw [HN.out]; exact hi
    rw [fv_get lvc_size ls i ls[i] (List.getElem?_eq_getElem hi') j hj, elL_at hi']; rfl)
  obtain ⟨z, hz⟩ : ∃ z, checkP (ls.map plL) (sn.map psS) = z := ⟨_, rfl⟩
  have HZ := Lib.hid hz
  clear hz
  by_cases hn0 : n = 0
  · have hni : ((n : Int) == 0) = true := by simp [hn0]
    clear hn0
    go_enter Try.func4, Try.ntmps4
    go_wp2_with (first | (go_at_call 9; (with_reducible refine (great29_is ls la lc n HN.out sa sc m hmm _ HG.out _ (hl.grow H.below) (fun x hx => (HLW.out x hx).grow H.below)).mono ?_); rintro e w1 ⟨v, rfl, hr⟩; obtain ⟨rfl, hb1⟩ := hr; replace H := H.grow hb1; clear hb1) | (go_at_call 10; (with_reducible refine (aw29_ok _).mono ?_); rintro e w1 ⟨v, rfl, hr⟩; obtain ⟨rfl, hb1⟩ := hr; replace H := H.grow hb1; clear hb1))
    go_ret
    exact ⟨_, rfl, rfl, H.below⟩
  have hni : ((n : Int) == 0) = false := by simp; omega
  replace hn0 : 0 < n := by omega
  by_cases hz0 : z ≠ 0
  · have hzi : ((z : Int) != 0) = true := by simp; omega
    clear hz0
    go_enter Try.func4, Try.ntmps4
    go_wp2_with (first | (go_at_call 9; (with_reducible refine (great29_is ls la lc n HN.out sa sc m hmm _ HG.out _ (hl.grow H.below) (fun x hx => (HLW.out x hx).grow H.below)).mono ?_); rintro e w1 ⟨v, rfl, hr⟩; obtain ⟨rfl, hb1⟩ := hr; replace H := H.grow hb1; clear hb1) | (go_at_call 16; (with_reducible refine (chk_is ls la lc n HN.out sn sa sc m HM.out z HZ.out _ (hl.grow H.below) (fun x hx => (HLV.out x hx).grow H.below) hnB (hs.grow H.below) (fun x hx => (HSW.out x hx).grow H.below) hmB).mono ?_); rintro e w1 ⟨v, rfl, hr⟩; obtain ⟨rfl, hb1⟩ := hr; replace H := H.grow hb1; clear hb1) | (go_at_call 10; (with_reducible refine (aw29_ok _).mono ?_); rintro e w1 ⟨v, rfl, hr⟩; obtain ⟨rfl, hb1⟩ := hr; replace H := H.grow hb1; clear hb1))
    go_ret
    exact ⟨_, rfl, rfl, H.below⟩
  replace hz0 : z = 0 := by omega
  have HZ0 := Lib.hid hz0
  have hzi : ((z : Int) != 0) = false := by simp; omega
  clear hz0
  go_enter Try.func4, Try.ntmps4
  go_upto_region 5 with (first | (go_at_call 9; (with_reducible refine (great29_is ls la lc n HN.out sa sc m hmm _ HG.out _ (hl.grow H.below) (fun x hx => (HLW.out x hx).grow H.below)).mono ?_); rintro e w1 ⟨v, rfl, hr⟩; obtain ⟨rfl, hb1⟩ := hr; replace H := H.grow hb1; clear hb1) | (go_at_call 16; (with_reducible refine (chk_is ls la lc n HN.out sn sa sc m HM.out z HZ.out _ (hl.grow H.below) (fun x hx => (HLV.out x hx).grow H.below) hnB (hs.grow H.below) (fun x hx => (HSW.out x hx).grow H.below) hmB).mono ?_); rintro e w1 ⟨v, rfl, hr⟩; obtain ⟨rfl, hb1⟩ := hr; replace H := H.grow hb1; clear hb1) | (go_at_call 17; (with_reducible refine (pick_any who n hn0 (by omega) _).mono ?_); rintro e w1 ⟨v, rfl, hr⟩; obtain ⟨kk, hkk, rfl, hb1⟩ := hr; replace H := H.grow hb1; clear hb1) | (with_reducible refine wpl rfl (dQ 30 rfl ?_); with_reducible refine (Stp.bsl0N (e := 29) (size := 3) 30 rfl rfl (fun W => by kernel_rfl) H ?_); clear H; intro a30 c30 w1 H; simp only [pS]) | (with_reducible refine wpl rfl (dQ 32 rfl ?_); with_reducible refine (Stp.apps 32 rfl rfl Try.underlying30 info29 rfl (by decide) rfl rfl H (fun _ => uP) HFL.out ((hl.grow H.below).srcN HFG.out HFL.out (by omega)) (lvs_one ls) (by unfold maxLen; omega) (by omega) ?_); clear H; intro a32 c32 w1 H; simp only [pS]; simp only [Nat.zero_add, List.nil_append] at H ⊢))
  have hk1 : kk < ls.length := by rw [HN.out]; exact hkk
  obtain ⟨x, hx⟩ : ∃ x, ls[kk] = x := ⟨_, rfl⟩
  have HXN : Hid (x.l.length ≤ 1000) := Lib.hid (by rw [← hx]; exact HLE.out _ (List.getElem_mem hk1))
  have hxcap : x.l.length ≤ x.c := by rw [← hx]; exact (HLV.out _ (List.getElem_mem hk1)).cap
  obtain ⟨L, hL⟩ : ∃ L, x.l.length = L := ⟨_, rfl⟩
  have HL := Lib.hid hL
  have hLb : L ≤ 1000 := by rw [← hL]; exact HXN.out
  rw [hL] at hxcap
  have hxk : ls[kk]? = some x := by rw [List.getElem?_eq_getElem hk1, hx]
  have HA : Hid ((fv lvc ls)[kk * 3 + 2]? = some (.slice x.a L x.c)) := Lib.hid (by rw [fv_get lvc_size ls kk x hxk 2 (by omega), ← HL.out]; rfl)
  have HSE : Hid (∀ h, h ≤ L → (fv lvc ls).set (kk * 3 + 2) (.slice x.a h x.c) = fv lvc (cutLs ls kk h)) := Lib.hid (fun h hh => by
    have hl : (x.l.take h).length = h := by rw [List.length_take, HL.out]; omega
    unfold cutLs
    rw [getD_at hk1, hx]
    exact fv_set lvc_size ls kk 2 x (cutX x h) _ hxk (by omega) (by simp [lvc, cutX, hl]))
  have HNC : Hid (∀ h, (cutLs ls kk h).length = n) := Lib.hid (fun h => by rw [cutLs_len, HN.out])
  have HZC : Hid (∀ h, checkP ((cutLs ls kk h).map plL) (sn.map psS) = 0) := Lib.hid (fun h => check_cut (cutLs_cut hk1) _ (HZ.out.trans HZ0.out))
  have HLC : Hid (∀ h, h ≤ L → ∀ y ∈ cutLs ls kk h, LvW w y) := Lib.hid (fun h hh => cutLs_w hk1 HLV.out (by rw [hx, HL.out]; exact hh))
  have HW1 : Hid (IntKind.i64.wrap ((L : Int) + 1) = ((L + 1 : Nat) : Int)) := Lib.hid (by rw [IntKind.wrap_i64]; omega)
  have hki : (kk : Int) < (n : Int) := by omega
  clear hx hxk hk1 hL
  obtain ⟨go, rfl⟩ := H.own_addr (e := 29) mE hn0
  refine rk_begin 19 20 (fun W => St w.heap.size w W (slc 29 3 (.slice (some ⟨go, 0, none⟩) n c32) n (fv lvc ls) :: [])) rfl (by kernel_rfl) ?_
  replace H := H.drew
  have HS := H
  refine rk_free (i := 0) rfl kR kR kR kR (Yld.move rfl rfl) (fun _ => (H.sub sU)) ?_; simp only [pS, pE]
  refine rk_free (i := 1) rfl kR kR kR kR (Yld.move rfl rfl) (fun _ => (H.sub sU)) ?_; simp only [pS, pE]
  refine rk_free (i := 2) rfl kR kR kR kR (Yld.move rfl rfl) (fun _ => (H.sub sU)) ?_; simp only [pS, pE]
  refine rk_free (i := 3) rfl kR kR kR kR (Yld.move rfl rfl) (fun _ => (H.sub sU)) ?_; simp only [pS, pE]
  refine rk_free (i := 4) rfl kR kR kR kR (Yld.o rfl) (fun _ => (H.sub sU)) ?_; simp only [pS]
  refine rk_free (i := 5) rfl kR kR kR kR (Yld.o rfl) (fun _ => (H.sub sU)) ?_; simp only [pS]
  refine rk_take (i := 6) rfl kR kR kR kR kR kR (Yld.lsc rfl rfl agg22 rfl mE HA.out) (H.sub sU) ?_; simp only [pS, pE]
  refine rk_free (i := 7) rfl kR kR kR kR (Yld.move rfl rfl) (fun _ => (H.sub sU)) ?_; simp only [pS, pE]
  refine rk_free (i := 8) rfl kR kR kR kR (Yld.move rfl rfl) (fun _ => (H.sub sU)) ?_; simp only [pS, pE]
  refine rk_free (i := 9) rfl kR kR kR kR (Yld.move rfl rfl) (fun _ => (H.sub sU)) ?_; simp only [pS, pE]
  refine rk_free (i := 10) rfl kR kR kR kR (Yld.o rfl) (fun _ => (H.sub sU)) ?_; simp only [pS]
  refine rk_free (i := 11) rfl kR kR kR kR (Yld.o rfl) (fun _ => (H.sub sU)) ?_; simp only [pS]
  refine rk_take (i := 12) rfl kR kR kR kR kR kR (Yld.lsc rfl rfl agg22 rfl mE HA.out) (H.sub sU) ?_; simp only [pS, pE]
  refine rk_free (i := 13) rfl kR kR kR kR (Yld.o rfl) (fun _ => (H.sub sU)) ?_; simp only [pS]
  refine rk_free (i := 14) rfl kR kR kR kR (Yld.of (v := .int .i64 ((L + 1 : Nat) : Int)) rfl (fun W _ => by go_simp; first | done | exact HW1.out | (rw [HW1.out]))) (fun _ => (H.sub sU)) ?_; simp only [pS, pE]
  refine rk_one (i := 15) (by kernel_rfl) rfl rfl (fun K hK => ?_)
  refine wp_callf rfl ent17 (pick_any at_ (L + 1) (by omega) (by omega) _) rfl (fun v w1 hr => ?_)
  obtain ⟨hh, hhh, rfl, hb1⟩ := hr
  replace H := H.grow hb1
  clear hb1
  clear HS
  have HS := H
  refine hK.out _ _ (fun _ => (H.sub sU)) ?_
  clear hK K
  simp only [pS]
  refine rk_free (i := 16) rfl kR kR kR kR (Yld.sltoE (k := hh) rfl rfl Try.underlying22 size62 rfl rfl rfl (by omega)) (fun _ => (H.sub sU)) ?_; simp only [pS, pE]
  refine rk_free (i := 17) rfl kR kR kR kR (Yld.o rfl) (fun _ => (H.sub sU)) ?_; simp only [pS]
  refine rk_free (i := 18) rfl kR kR kR kR (Yld.o rfl) (fun _ => (H.sub sU)) ?_; simp only [pS]
  refine rk_one (i := 19) (by kernel_rfl) rfl rfl (fun K hK => ?_)
  refine Stp.wp (Stp.ssc (v := .slice x.a hh x.c) rfl size22 rfl rfl rfl rfl H uP (by omega) ?_)
  clear H
  intro w1 H
  rw [HSE.out hh (by omega)] at H
  clear HS
  have HS := H
  refine hK.out _ _ (fun h => by cases (show true = false from h)) ?_
  clear hK K
  simp only [pS]
  refine rk_done (by kernel_rfl) ?_
  go_wp2_with (first | (go_at_call 16; (with_reducible refine (chk_is (cutLs ls kk hh) _ _ n (HNC.out hh) sn sa sc m HM.out 0 (HZC.out hh) _ (own_ls (HNC.out hh) (H.getSlc (e := 29) (size := 3) (n := n) mE) hnB) (fun y hy => (HLC.out hh (by omega) y hy).grow H.below) hnB (hs.grow H.below) (fun x hx => (HSW.out x hx).grow H.below) hmB).mono ?_); rintro e w1 ⟨v, rfl, hr⟩; obtain ⟨rfl, hb1⟩ := hr; replace H := H.grow hb1; clear hb1) | (go_at_call 10; (with_reducible refine (aw29_ok _).mono ?_); rintro e w1 ⟨v, rfl, hr⟩; obtain ⟨rfl, hb1⟩ := hr; replace H := H.grow hb1; clear hb1))
  go_ret
  exact ⟨_, rfl, rfl, H.below⟩
set_option maxRecDepth 100000 in
theorem flatCut_lifted (os : Os) (started : os.Started) (H : Type) (enc : TypeId × Value → H) :
    ReturnsInHanded {} Try.checked os 4 .any (Rows.flatCutSpec.pre6 enc Try.prog Try.f4 Rows.flatCutRow.domain false) (Rows.flatCutSpec.post enc Try.prog Try.f4 false true false false) := by
  refine law_lifted (C := Try.checked) own started (by kernel_rfl) Try.func4 laidOut rfl Try.underlying4 rfl (by kernel_rfl) (fun ds hd => ?_)
    (ChangeSpec.witness6 (enc := enc) (C := Try.checked) false ⟨#[], #[.slice none 0 0, .slice none 0 0, .int .i64 0, .int .i64 0], []⟩ 8 (by kernel_rfl) (by kernel_rfl) (by kernel_rfl) (by kernel_rfl)) ?_
  · match ds, hd with
    | [d0, d1, d2, d3], _ => exact ⟨rfl, rfl, rfl⟩
  intro W base args ds p hval hA
  rw [Try.params4] at hA hval
  obtain ⟨v0, vs0, d0, ds0, p0, q0, hargs, rfl, rfl, h0, r0⟩ := trodAll_cons hA
  obtain ⟨v1, vs1, d1, ds1, p1, q1, rfl, rfl, rfl, h1, r1⟩ := trodAll_cons r0
  obtain ⟨v2, vs2, d2, ds2, p2, q2, rfl, rfl, rfl, h2, r2⟩ := trodAll_cons r1
  obtain ⟨v3, vs3, d3, ds3, p3, q3, rfl, rfl, rfl, h3, r3⟩ := trodAll_cons r2
  obtain ⟨rfl, rfl, rfl⟩ := trodAll_nil r3
  obtain rfl : args = #[v0, v1, v2, v3] := by cases args; simp_all
  obtain ⟨l0, a0, c0, rfl, hc0, hs0, hw0⟩ := open_ls (hval 0 30 v0 rfl rfl) h0
  obtain ⟨l1, a1, c1, rfl, hc1, hs1, hw1⟩ := open_sns (hval 1 44 v1 rfl rfl) h1
  obtain ⟨i2, rfl⟩ := open_i64 (hval 2 3 v2 rfl rfl) h2
  obtain ⟨i3, rfl⟩ := open_i64 (hval 3 3 v3 rfl rfl) h3
  exact law_fcut l0 a0 c0 l1 a1 c1 i2 i3 W hc0 hc1 hs0 hw0 hs1 hw1
theorem flatCut_over : Rows.flatCutRow.holds Try.pinned (OpenSpec.ofChange Rows.flatCutSpec) :=
  OpenClaim.holds_of_wide 4 Try.f4 rfl rfl rfl rfl rfl rfl rfl ⟨rfl, rfl, rfl, rfl, rfl⟩ rfl rfl rfl rfl rfl (by kernel_rfl) Try.func4 (by kernel_rfl)
    (of_decide_eq_true (by kernel_rfl)) (by unfold Func.isWrapper; first | (rw [if_pos (by decide +kernel)]; kernel_rfl) | (rw [if_neg (by decide +kernel)]; exact ⟨rfl, rfl⟩))
    (fun os started H enc _ => flatCut_lifted os started H enc)
theorem flatCut_holds : Rows.FlatCutSaid := flatCut_over
#print axioms flatCut_holds
end Go.Proofs.Ytbepaafgcbgmfaa
