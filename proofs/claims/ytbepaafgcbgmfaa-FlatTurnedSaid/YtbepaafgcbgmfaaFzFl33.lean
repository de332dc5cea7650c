/- The statement FlatTurned of layer 29 (flat): the law's walk; the bounds stand in it. -/
import Derived.Test.YtbepaafgcbgmfaaFzFl30
import Derived.Test.YtbepaafgcbgmfaaFzFl32
namespace Go.Proofs.Ytbepaafgcbgmfaa
open Go.ChangeShapes Go.WideShapes Go.ChangeAt Go.RowKit Go.Maps Go.Deep
set_option linter.unusedVariables false
set_option linter.unusedSimpArgs false
set_option linter.unusedSectionVars false
set_option maxRecDepth 100000
set_option maxHeartbeats 4000000
theorem sns_one (sn : List Sn) : ∀ u ∈ fv snc sn, u.oneCell' = true := by
  intro u hu
  unfold fv at hu
  obtain ⟨y, _, hy⟩ := List.mem_flatMap.1 hu
  exact snc_one y u hy
theorem lvx_one (x : Lv) : ∀ u ∈ (#[.int .u16 (x.p.1 : Int), .int .u32 (x.p.2 : Int), .slice x.a x.l.length x.c] : Array Value).toList, u.oneCell' = true := by
  intro u hu
  simp only [List.mem_cons, List.not_mem_nil, or_false] at hu
  rcases hu with rfl | rfl | rfl <;> rfl
theorem own_sns {w : World} {b : Nat} {sn : List Sn} {a : Option Addr} {c n : Nat} (hn : sn.length = n) (h : w.ownsRow b 64 6 (.slice a n c) n (fv snc sn)) (hb : n ≤ 1000000) : Sl w 6 n (.slice a n c) (elN sn) := by
  subst hn
  refine (SlG.of_own h (fun i hi j hj => ?_) (by unfold maxLen; omega)).sl
  rw [fv_get snc_size sn i sn[i] (List.getElem?_eq_getElem hi) j hj]; unfold elN; rw [getD_at hi]
theorem fv_sns (sn : List Sn) (i : Nat) (hi : i < sn.length) (j : Nat) (hj : j < 6) : (fv snc sn)[i * 6 + j]? = (elN sn i)[j]? := by
  rw [fv_get snc_size sn i sn[i] (List.getElem?_eq_getElem hi) j hj]; unfold elN; rw [getD_at hi]
theorem rev_snoc {ls : List Lv} {q : Nat} (h : q < ls.length) : (ls.drop (q + 1)).reverse ++ [ls[q]] = (ls.drop q).reverse := by
  rw [List.drop_eq_getElem_cons h, List.reverse_cons]
attribute [local irreducible] gF ordH tellL staysH checkP
theorem law_fturned (ls : List Lv) (la : Option Addr) (lc : Nat) (sn : List Sn) (sa : Option Addr) (sc : Nat) (more : List Sn) (ma : Option Addr) (mc : Nat) (w : World) (hlc : ls.length ≤ lc) (hsc : sn.length ≤ sc) (hl : Sl w 3 ls.length (.slice la ls.length lc) (elL ls)) (hlw : ∀ x ∈ ls, LvO w x) (hs : Sl w 6 sn.length (.slice sa sn.length sc) (elN sn)) (hsw : ∀ x ∈ sn, SnW w x) (hs2 : Sl w 6 more.length (.slice ma more.length mc) (elN more)) (hsw2 : ∀ x ∈ more, SnW w x) :
    Calls Try.prog 5 #[.slice la ls.length lc, .slice sa sn.length sc, .slice ma more.length mc] w (Ret fun v w' => v = .bool true ∧ Below w.heap.size w w') := by
  obtain ⟨m2, hm2⟩ : ∃ m2, more.length = m2 := ⟨_, rfl⟩
  have HM2 := Lib.hid hm2
  rw [hm2] at hs2 ⊢
  clear hm2
  obtain ⟨_, _, _, hmm2, _⟩ := (show ∃ a c, _ from hs2)
  unfold maxLen at hmm2
  have H := St.init w
  have HLW := Lib.hid hlw
  have HSW := Lib.hid hsw
  obtain ⟨n, hn⟩ : ∃ n, ls.length = n := ⟨_, rfl⟩
  obtain ⟨m, hm⟩ : ∃ m, sn.length = m := ⟨_, rfl⟩
  have HN := Lib.hid hn
  have HM := Lib.hid hm
  obtain ⟨e, he⟩ : ∃ e, gF ls m = e := ⟨_, rfl⟩
  have HG := Lib.hid he
  rw [hn] at hl hlc ⊢
  rw [hm] at hs hsc ⊢
  obtain ⟨_, _, _, hmm, _⟩ := (show ∃ a c, _ from hs)
  unfold maxLen at hmm
  clear hlw hsw
  cases e
  case true =>
    clear he hn hm
    go_enter Try.func5, Try.ntmps5
    go_wp2_with (first | (go_at_call 9; (with_reducible refine (great29_is ls la lc n HN.out sa sc m hmm _ HG.out _ (hl.grow H.below) (fun x hx => (HLW.out x hx).grow H.below)).mono ?_); rintro e w1 ⟨v, rfl, hr⟩; obtain ⟨rfl, hb1⟩ := hr; replace H := H.grow hb1; clear hb1) | (go_at_call 10; (with_reducible refine (aw29_ok _).mono ?_); rintro e w1 ⟨v, rfl, hr⟩; obtain ⟨rfl, hb1⟩ := hr; replace H := H.grow hb1; clear hb1) | (with_reducible refine wpl rfl (ldQ (ty := 29) rfl ?_); first | (with_reducible refine (Stp.ldor rfl agg29 size29 rfl H (by assumption) sZ (by assumption) ?_); simp only [pS]) | (with_reducible refine (Stp.ldr rfl agg29 size29 rfl H mR sZ ?_); simp only [pS]) | (with_reducible refine (Stp.ldl rfl agg29 size29 rfl H mR (by simp) ?_); simp only [pS]; simp only [List.drop_succ_cons, List.drop_zero, List.take_succ_cons, List.take_zero])))
    go_ret
    exact ⟨_, rfl, rfl, H.below⟩
  have hgo := gF_out he
  rw [hn] at hgo
  obtain ⟨hn12, hm60, hgx⟩ := hgo
  have hnb : n ≤ 1000 := by omega
  have hnB : n ≤ 1000000 := by omega
  have hmB : m ≤ 1000000 := by omega
  have HLE : Hid (∀ x ∈ ls, x.l.length ≤ 1000) := Lib.hid (fun x hx => by have := (hgx x hx).1; omega)
  have HLV : Hid (∀ x ∈ ls, LvW w x) := Lib.hid (fun x hx => (HLW.out x hx).w (hgx x hx).1 (hgx x hx).2)
  clear he hn hm hgx
  by_cases h60 : 60 < m2
  · have i60 : (60 : Int) < (m2 : Int) := by omega
    clear h60
    go_enter Try.func5, Try.ntmps5
    go_wp2_with (first | (go_at_call 9; (with_reducible refine (great29_is ls la lc n HN.out sa sc m hmm _ HG.out _ (hl.grow H.below) (fun x hx => (HLW.out x hx).grow H.below)).mono ?_); rintro e w1 ⟨v, rfl, hr⟩; obtain ⟨rfl, hb1⟩ := hr; replace H := H.grow hb1; clear hb1) | (go_at_call 10; (with_reducible refine (aw29_ok _).mono ?_); rintro e w1 ⟨v, rfl, hr⟩; obtain ⟨rfl, hb1⟩ := hr; replace H := H.grow hb1; clear hb1) | (with_reducible refine wpl rfl (ldQ (ty := 29) rfl ?_); first | (with_reducible refine (Stp.ldor rfl agg29 size29 rfl H (by assumption) sZ (by assumption) ?_); simp only [pS]) | (with_reducible refine (Stp.ldr rfl agg29 size29 rfl H mR sZ ?_); simp only [pS]) | (with_reducible refine (Stp.ldl rfl agg29 size29 rfl H mR (by simp) ?_); simp only [pS]; simp only [List.drop_succ_cons, List.drop_zero, List.take_succ_cons, List.take_zero])))
    go_ret
    exact ⟨_, rfl, rfl, H.below⟩
  have i60 : ¬ (60 : Int) < (m2 : Int) := by omega
  have HNR : Hid (ls.reverse.length = n) := Lib.hid (by rw [List.length_reverse, HN.out])
  have HMM : Hid ((sn ++ more).length = m + m2) := Lib.hid (by rw [List.length_append, HM.out, HM2.out])
  obtain ⟨xx, hxx⟩ : ∃ z, checkP (ls.map plL) (sn.map psS) = z := ⟨_, rfl⟩
  obtain ⟨yy, hyy⟩ : ∃ z, checkP (ls.map plL) ((sn ++ more).map psS) = z := ⟨_, rfl⟩
  have HCC := check_more (ls.map plL) (sn.map psS) (more.map psS)
  rw [← List.map_append, hxx, hyy] at HCC
  have HX := Lib.hid hxx
  have HY := Lib.hid hyy
  have HXR : Hid (checkP (ls.reverse.map plL) (sn.map psS) = xx) := Lib.hid (by rw [List.map_reverse, check_rev]; exact hxx)
  have HLR : Hid (∀ x ∈ ls.reverse, LvW w x) := Lib.hid (fun x hx => HLV.out x (List.mem_reverse.1 hx))
  have HSW2 : Hid (∀ x ∈ sn ++ more, SnW w x) := Lib.hid (fun x hx => (List.mem_append.1 hx).elim (HSW.out x) (hsw2 x))
  have HF1 : Hid ((fv snc sn).length = m * 6) := Lib.hid (by rw [fv_len snc_size, HM.out])
  have HG1 : Hid (∀ i, i < m → ∀ j, j < 6 → (fv snc sn)[i * 6 + j]? = (elN sn i)[j]?) := Lib.hid (fun i hi j hj => fv_sns sn i (by rw [HM.out]; exact hi) j hj)
  have HF2 : Hid ((fv snc more).length = m2 * 6) := Lib.hid (by rw [fv_len snc_size, HM2.out])
  have HG2 : Hid (∀ i, i < m2 → ∀ j, j < 6 → (fv snc more)[i * 6 + j]? = (elN more i)[j]?) := Lib.hid (fun i hi j hj => fv_sns more i (by rw [HM2.out]; exact hi) j hj)
  have HFA : Hid (fv snc sn ++ fv snc more = fv snc (sn ++ more)) := Lib.hid (by rw [fv_app])
  clear hxx hyy hsw2
  go_enter Try.func5, Try.ntmps5
  go_wp2_with (first | (go_at_call 9; (with_reducible refine (great29_is ls la lc n HN.out sa sc m hmm _ HG.out _ (hl.grow H.below) (fun x hx => (HLW.out x hx).grow H.below)).mono ?_); rintro e w1 ⟨v, rfl, hr⟩; obtain ⟨rfl, hb1⟩ := hr; replace H := H.grow hb1; clear hb1) | (with_reducible refine wpl rfl (ldQ (ty := 29) rfl ?_); first | (with_reducible refine (Stp.ldor rfl agg29 size29 rfl H (by assumption) sZ (by assumption) ?_); simp only [pS]) | (with_reducible refine (Stp.ldr rfl agg29 size29 rfl H mR sZ ?_); simp only [pS]) | (with_reducible refine (Stp.ldl rfl agg29 size29 rfl H mR (by simp) ?_); simp only [pS]; simp only [List.drop_succ_cons, List.drop_zero, List.take_succ_cons, List.take_zero])))
  have H0 : St w.heap.size w _ [slc 29 3 (.slice none 0 0) 0 (fv lvc [])] := (H.nil 29 3 :)
  clear H
  go_loopw [7, 8] (fun b i wr => ∃ (q u : Nat) (jj : Int) (ba : Option Addr) (bc : Nat), q + u = n ∧ i = .int .i64 jj ∧ jj = (q : Int) - 1 ∧ b = .slice ba u bc ∧ St w.heap.size w wr [slc 29 3 (.slice ba u bc) u (fv lvc (ls.drop q).reverse)]) (fun _ i _ => (intOf i + 1).toNat)
  case atStart => exact ⟨n, 0, (n : Int) - 1, none, 0, by omega, rfl, rfl, rfl, by rw [List.drop_eq_nil_of_le (by rw [HN.out]; exact Nat.le_refl _)]; exact H0⟩
  case round =>
    clear H0
    obtain ⟨q, u, jj, ba, bc, hqu, rfl, hjj, rfl, H⟩ := hrel
    by_cases hq0 : 0 < q
    · obtain ⟨p, rfl⟩ : ∃ p, q = p + 1 := ⟨q - 1, by omega⟩
      obtain rfl : jj = (p : Int) := by omega
      have hi0 : (0 : Int) ≤ (p : Int) := by omega
      have hi1 : (p : Int) < (n : Int) := by omega
      have hl1 : p < ls.length := by rw [HN.out]; omega
      obtain ⟨b1, o1, rfl, hb1⟩ := hl.addr (by omega)
      have hc1 := hl.cell (i := p) (by omega)
      rw [elL_at hl1] at hc1
      have hrs := rev_snoc hl1
      obtain ⟨x, hx⟩ : ∃ x, ls[p] = x := ⟨_, rfl⟩
      rw [hx] at hc1 hrs
      have HRS : Hid (fv lvc (ls.drop (p + 1)).reverse ++ (#[.int .u16 (x.p.1 : Int), .int .u32 (x.p.2 : Int), .slice x.a x.l.length x.c] : Array Value).toList = fv lvc (ls.drop p).reverse) := Lib.hid (by rw [← hrs, fv_app, fv_one]; rfl)
      clear hx hrs hl1 hjj HCC
      go_wp2_with (first | (with_reducible refine wpl rfl (dQ 32 rfl ?_); with_reducible refine (Stp.bsl (e := 29) (cs := #[.int .u16 (x.p.1 : Int), .int .u32 (x.p.2 : Int), .slice x.a x.l.length x.c]) 32 rfl rfl (fun W => by kernel_rfl) H ?_); clear H; intro g32 w1 H; simp only [pS]) | (with_reducible refine wpl rfl (dQ 33 rfl ?_); with_reducible refine (Stp.app 33 rfl rfl Try.underlying30 info29 rfl (by decide) rfl rfl H (fun _ => uP) (show ((#[.int .u16 (x.p.1 : Int), .int .u32 (x.p.2 : Int), .slice x.a x.l.length x.c] : Array Value).toList).length = 1 * 3 from rfl) (newN (H.gr 29)) (lvx_one x) (by unfold maxLen; omega) (by omega) ?_); clear H; intro a33 c33 w1 H; simp only [pS]) | (with_reducible refine wpl rfl (ldQ (ty := 29) rfl ?_); first | (with_reducible refine (Stp.ldor rfl agg29 size29 rfl H (by assumption) sZ (by assumption) ?_); simp only [pS]) | (with_reducible refine (Stp.ldr rfl agg29 size29 rfl H mR sZ ?_); simp only [pS]) | (with_reducible refine (Stp.ldl rfl agg29 size29 rfl H mR (by simp) ?_); simp only [pS]; simp only [List.drop_succ_cons, List.drop_zero, List.take_succ_cons, List.take_zero])))
      go_roundw
      case rel =>
        rw [HRS.out] at H
        exact ⟨p, u + 1, (p : Int) - 1, a33, c33, by omega, by go_num, rfl, rfl, (H.pull (r := slc 29 3 (.slice a33 (u + 1) c33) _ _) pU).sub sU⟩
      case measure => simp [intOf] <;> omega
    · obtain rfl : n = u := by omega
      obtain rfl : q = 0 := by omega
      obtain rfl : jj = -1 := by omega
      rw [List.drop_zero] at H
      clear hjj hqu hq0
      rcases HCC with e | ⟨e1, e2 | e2⟩ | ⟨e1, e2⟩
      · have i1 : ((yy : Int) == (xx : Int)) = true := by simp [e]
        clear e
        go_wp2_with (first | (go_at_call 16; (with_reducible refine (chk_is ls la lc n HN.out sn sa sc m HM.out xx HX.out _ (hl.grow H.below) (fun x hx => (HLV.out x hx).grow H.below) hnB (hs.grow H.below) (fun x hx => (HSW.out x hx).grow H.below) hmB).mono ?_); rintro e w1 ⟨v, rfl, hr⟩; obtain ⟨rfl, hb1⟩ := hr; replace H := H.grow hb1; clear hb1) | (with_reducible refine wpl rfl (dQ 38 rfl ?_); with_reducible refine (Stp.bsl0N (e := 64) (size := 6) 38 rfl rfl (fun W => by kernel_rfl) H ?_); clear H; intro a38 c38 w1 H; simp only [pS]) | (with_reducible refine wpl rfl (dQ 40 rfl ?_); with_reducible refine (Stp.apps 40 rfl rfl Try.underlying44 info64 rfl (by decide) rfl rfl H (fun _ => uP) HF1.out ((hs.grow H.below).srcN HG1.out HF1.out (by omega)) (sns_one sn) (by unfold maxLen; omega) (by omega) ?_); clear H; intro a40 c40 w1 H; simp only [pS]; simp only [Nat.zero_add, List.nil_append] at H ⊢) | (with_reducible refine wpl rfl (dQ 42 rfl ?_); with_reducible refine (Stp.apps 42 rfl rfl Try.underlying44 info64 rfl (by decide) rfl rfl H (fun _ => uP) HF2.out ((hs2.grow H.below).srcN HG2.out HF2.out (by omega)) (sns_one more) (by unfold maxLen; omega) (by omega) ?_); clear H; intro a42 c42 w1 H; simp only [pS]; rw [HFA.out] at H) | (go_at_call 16; (with_reducible refine (chk_is ls la lc n HN.out (sn ++ more) _ _ (m + m2) HMM.out yy HY.out _ (hl.grow H.below) (fun x hx => (HLV.out x hx).grow H.below) hnB (own_sns HMM.out (H.getSlc (e := 64) (size := 6) (n := m + m2) mE) (by omega)) (fun x hx => (HSW2.out x hx).grow H.below) (by omega)).mono ?_); rintro e w1 ⟨v, rfl, hr⟩; obtain ⟨rfl, hb1⟩ := hr; replace H := H.grow hb1; clear hb1) | (go_at_call 16; (with_reducible refine (chk_is ls.reverse _ _ n HNR.out sn sa sc m HM.out xx HXR.out _ (own_ls HNR.out (H.getSlc (e := 29) (size := 3) (n := n) mE) hnB) (fun x hx => (HLR.out x hx).grow H.below) hnB (hs.grow H.below) (fun x hx => (HSW.out x hx).grow H.below) hmB).mono ?_); rintro e w1 ⟨v, rfl, hr⟩; obtain ⟨rfl, hb1⟩ := hr; replace H := H.grow hb1; clear hb1) | (go_at_call 10; (with_reducible refine (aw29_ok _).mono ?_); rintro e w1 ⟨v, rfl, hr⟩; obtain ⟨rfl, hb1⟩ := hr; replace H := H.grow hb1; clear hb1) | (with_reducible refine wpl rfl (ldQ (ty := 29) rfl ?_); first | (with_reducible refine (Stp.ldor rfl agg29 size29 rfl H (by assumption) sZ (by assumption) ?_); simp only [pS]) | (with_reducible refine (Stp.ldr rfl agg29 size29 rfl H mR sZ ?_); simp only [pS]) | (with_reducible refine (Stp.ldl rfl agg29 size29 rfl H mR (by simp) ?_); simp only [pS]; simp only [List.drop_succ_cons, List.drop_zero, List.take_succ_cons, List.take_zero])))
        go_ret
        exact ⟨_, rfl, rfl, H.below⟩
      · have i1 : ((yy : Int) == (xx : Int)) = false := by simp; omega
        have i2 : ((xx : Int) == 5) = true := by simp; omega
        have i3 : ((yy : Int) == 0) = true := by simp; omega
        clear e1 e2
        go_wp2_with (first | (go_at_call 16; (with_reducible refine (chk_is ls la lc n HN.out sn sa sc m HM.out xx HX.out _ (hl.grow H.below) (fun x hx => (HLV.out x hx).grow H.below) hnB (hs.grow H.below) (fun x hx => (HSW.out x hx).grow H.below) hmB).mono ?_); rintro e w1 ⟨v, rfl, hr⟩; obtain ⟨rfl, hb1⟩ := hr; replace H := H.grow hb1; clear hb1) | (with_reducible refine wpl rfl (dQ 38 rfl ?_); with_reducible refine (Stp.bsl0N (e := 64) (size := 6) 38 rfl rfl (fun W => by kernel_rfl) H ?_); clear H; intro a38 c38 w1 H; simp only [pS]) | (with_reducible refine wpl rfl (dQ 40 rfl ?_); with_reducible refine (Stp.apps 40 rfl rfl Try.underlying44 info64 rfl (by decide) rfl rfl H (fun _ => uP) HF1.out ((hs.grow H.below).srcN HG1.out HF1.out (by omega)) (sns_one sn) (by unfold maxLen; omega) (by omega) ?_); clear H; intro a40 c40 w1 H; simp only [pS]; simp only [Nat.zero_add, List.nil_append] at H ⊢) | (with_reducible refine wpl rfl (dQ 42 rfl ?_); with_reducible refine (Stp.apps 42 rfl rfl Try.underlying44 info64 rfl (by decide) rfl rfl H (fun _ => uP) HF2.out ((hs2.grow H.below).srcN HG2.out HF2.out (by omega)) (sns_one more) (by unfold maxLen; omega) (by omega) ?_); clear H; intro a42 c42 w1 H; simp only [pS]; rw [HFA.out] at H) | (go_at_call 16; (with_reducible refine (chk_is ls la lc n HN.out (sn ++ more) _ _ (m + m2) HMM.out yy HY.out _ (hl.grow H.below) (fun x hx => (HLV.out x hx).grow H.below) hnB (own_sns HMM.out (H.getSlc (e := 64) (size := 6) (n := m + m2) mE) (by omega)) (fun x hx => (HSW2.out x hx).grow H.below) (by omega)).mono ?_); rintro e w1 ⟨v, rfl, hr⟩; obtain ⟨rfl, hb1⟩ := hr; replace H := H.grow hb1; clear hb1) | (go_at_call 16; (with_reducible refine (chk_is ls.reverse _ _ n HNR.out sn sa sc m HM.out xx HXR.out _ (own_ls HNR.out (H.getSlc (e := 29) (size := 3) (n := n) mE) hnB) (fun x hx => (HLR.out x hx).grow H.below) hnB (hs.grow H.below) (fun x hx => (HSW.out x hx).grow H.below) hmB).mono ?_); rintro e w1 ⟨v, rfl, hr⟩; obtain ⟨rfl, hb1⟩ := hr; replace H := H.grow hb1; clear hb1) | (go_at_call 10; (with_reducible refine (aw29_ok _).mono ?_); rintro e w1 ⟨v, rfl, hr⟩; obtain ⟨rfl, hb1⟩ := hr; replace H := H.grow hb1; clear hb1) | (with_reducible refine wpl rfl (ldQ (ty := 29) rfl ?_); first | (with_reducible refine (Stp.ldor rfl agg29 size29 rfl H (by assumption) sZ (by assumption) ?_); simp only [pS]) | (with_reducible refine (Stp.ldr rfl agg29 size29 rfl H mR sZ ?_); simp only [pS]) | (with_reducible refine (Stp.ldl rfl agg29 size29 rfl H mR (by simp) ?_); simp only [pS]; simp only [List.drop_succ_cons, List.drop_zero, List.take_succ_cons, List.take_zero])))
        go_ret
        exact ⟨_, rfl, rfl, H.below⟩
      · have i1 : ((yy : Int) == (xx : Int)) = false := by simp; omega
        have i2 : ((xx : Int) == 5) = true := by simp; omega
        have i3 : ((yy : Int) == 0) = false := by simp; omega
        have i4 : (5 : Int) < (yy : Int) := by omega
        clear e1 e2
        go_wp2_with (first | (go_at_call 16; (with_reducible refine (chk_is ls la lc n HN.out sn sa sc m HM.out xx HX.out _ (hl.grow H.below) (fun x hx => (HLV.out x hx).grow H.below) hnB (hs.grow H.below) (fun x hx => (HSW.out x hx).grow H.below) hmB).mono ?_); rintro e w1 ⟨v, rfl, hr⟩; obtain ⟨rfl, hb1⟩ := hr; replace H := H.grow hb1; clear hb1) | (with_reducible refine wpl rfl (dQ 38 rfl ?_); with_reducible refine (Stp.bsl0N (e := 64) (size := 6) 38 rfl rfl (fun W => by kernel_rfl) H ?_); clear H; intro a38 c38 w1 H; simp only [pS]) | (with_reducible refine wpl rfl (dQ 40 rfl ?_); with_reducible refine (Stp.apps 40 rfl rfl Try.underlying44 info64 rfl (by decide) rfl rfl H (fun _ => uP) HF1.out ((hs.grow H.below).srcN HG1.out HF1.out (by omega)) (sns_one sn) (by unfold maxLen; omega) (by omega) ?_); clear H; intro a40 c40 w1 H; simp only [pS]; simp only [Nat.zero_add, List.nil_append] at H ⊢) | (with_reducible refine wpl rfl (dQ 42 rfl ?_); with_reducible refine (Stp.apps 42 rfl rfl Try.underlying44 info64 rfl (by decide) rfl rfl H (fun _ => uP) HF2.out ((hs2.grow H.below).srcN HG2.out HF2.out (by omega)) (sns_one more) (by unfold maxLen; omega) (by omega) ?_); clear H; intro a42 c42 w1 H; simp only [pS]; rw [HFA.out] at H) | (go_at_call 16; (with_reducible refine (chk_is ls la lc n HN.out (sn ++ more) _ _ (m + m2) HMM.out yy HY.out _ (hl.grow H.below) (fun x hx => (HLV.out x hx).grow H.below) hnB (own_sns HMM.out (H.getSlc (e := 64) (size := 6) (n := m + m2) mE) (by omega)) (fun x hx => (HSW2.out x hx).grow H.below) (by omega)).mono ?_); rintro e w1 ⟨v, rfl, hr⟩; obtain ⟨rfl, hb1⟩ := hr; replace H := H.grow hb1; clear hb1) | (go_at_call 16; (with_reducible refine (chk_is ls.reverse _ _ n HNR.out sn sa sc m HM.out xx HXR.out _ (own_ls HNR.out (H.getSlc (e := 29) (size := 3) (n := n) mE) hnB) (fun x hx => (HLR.out x hx).grow H.below) hnB (hs.grow H.below) (fun x hx => (HSW.out x hx).grow H.below) hmB).mono ?_); rintro e w1 ⟨v, rfl, hr⟩; obtain ⟨rfl, hb1⟩ := hr; replace H := H.grow hb1; clear hb1) | (go_at_call 10; (with_reducible refine (aw29_ok _).mono ?_); rintro e w1 ⟨v, rfl, hr⟩; obtain ⟨rfl, hb1⟩ := hr; replace H := H.grow hb1; clear hb1) | (with_reducible refine wpl rfl (ldQ (ty := 29) rfl ?_); first | (with_reducible refine (Stp.ldor rfl agg29 size29 rfl H (by assumption) sZ (by assumption) ?_); simp only [pS]) | (with_reducible refine (Stp.ldr rfl agg29 size29 rfl H mR sZ ?_); simp only [pS]) | (with_reducible refine (Stp.ldl rfl agg29 size29 rfl H mR (by simp) ?_); simp only [pS]; simp only [List.drop_succ_cons, List.drop_zero, List.take_succ_cons, List.take_zero])))
        go_ret
        exact ⟨_, rfl, rfl, H.below⟩
      · have i1 : ((yy : Int) == (xx : Int)) = false := by simp; omega
        have i2 : ((xx : Int) == 5) = false := by simp; omega
        have i3 : ((yy : Int) == 0) = true := by simp; omega
        have i5 : ((xx : Int) == 10) = true := by simp; omega
        clear e1 e2
        go_wp2_with (first | (go_at_call 16; (with_reducible refine (chk_is ls la lc n HN.out sn sa sc m HM.out xx HX.out _ (hl.grow H.below) (fun x hx => (HLV.out x hx).grow H.below) hnB (hs.grow H.below) (fun x hx => (HSW.out x hx).grow H.below) hmB).mono ?_); rintro e w1 ⟨v, rfl, hr⟩; obtain ⟨rfl, hb1⟩ := hr; replace H := H.grow hb1; clear hb1) | (with_reducible refine wpl rfl (dQ 38 rfl ?_); with_reducible refine (Stp.bsl0N (e := 64) (size := 6) 38 rfl rfl (fun W => by kernel_rfl) H ?_); clear H; intro a38 c38 w1 H; simp only [pS]) | (with_reducible refine wpl rfl (dQ 40 rfl ?_); with_reducible refine (Stp.apps 40 rfl rfl Try.underlying44 info64 rfl (by decide) rfl rfl H (fun _ => uP) HF1.out ((hs.grow H.below).srcN HG1.out HF1.out (by omega)) (sns_one sn) (by unfold maxLen; omega) (by omega) ?_); clear H; intro a40 c40 w1 H; simp only [pS]; simp only [Nat.zero_add, List.nil_append] at H ⊢) | (with_reducible refine wpl rfl (dQ 42 rfl ?_); with_reducible refine (Stp.apps 42 rfl rfl Try.underlying44 info64 rfl (by decide) rfl rfl H (fun _ => uP) HF2.out ((hs2.grow H.below).srcN HG2.out HF2.out (by omega)) (sns_one more) (by unfold maxLen; omega) (by omega) ?_); clear H; intro a42 c42 w1 H; simp only [pS]; rw [HFA.out] at H) | (go_at_call 16; (with_reducible refine (chk_is ls la lc n HN.out (sn ++ more) _ _ (m + m2) HMM.out yy HY.out _ (hl.grow H.below) (fun x hx => (HLV.out x hx).grow H.below) hnB (own_sns HMM.out (H.getSlc (e := 64) (size := 6) (n := m + m2) mE) (by omega)) (fun x hx => (HSW2.out x hx).grow H.below) (by omega)).mono ?_); rintro e w1 ⟨v, rfl, hr⟩; obtain ⟨rfl, hb1⟩ := hr; replace H := H.grow hb1; clear hb1) | (go_at_call 16; (with_reducible refine (chk_is ls.reverse _ _ n HNR.out sn sa sc m HM.out xx HXR.out _ (own_ls HNR.out (H.getSlc (e := 29) (size := 3) (n := n) mE) hnB) (fun x hx => (HLR.out x hx).grow H.below) hnB (hs.grow H.below) (fun x hx => (HSW.out x hx).grow H.below) hmB).mono ?_); rintro e w1 ⟨v, rfl, hr⟩; obtain ⟨rfl, hb1⟩ := hr; replace H := H.grow hb1; clear hb1) | (go_at_call 10; (with_reducible refine (aw29_ok _).mono ?_); rintro e w1 ⟨v, rfl, hr⟩; obtain ⟨rfl, hb1⟩ := hr; replace H := H.grow hb1; clear hb1) | (with_reducible refine wpl rfl (ldQ (ty := 29) rfl ?_); first | (with_reducible refine (Stp.ldor rfl agg29 size29 rfl H (by assumption) sZ (by assumption) ?_); simp only [pS]) | (with_reducible refine (Stp.ldr rfl agg29 size29 rfl H mR sZ ?_); simp only [pS]) | (with_reducible refine (Stp.ldl rfl agg29 size29 rfl H mR (by simp) ?_); simp only [pS]; simp only [List.drop_succ_cons, List.drop_zero, List.take_succ_cons, List.take_zero])))
        go_ret
        exact ⟨_, rfl, rfl, H.below⟩
set_option maxRecDepth 100000 in
theorem flatTurned_lifted (os : Os) (started : os.Started) (H : Type) (enc : TypeId × Value → H) :
    ReturnsInHanded {} Try.checked os 5 .any (Rows.flatTurnedSpec.pre6 enc Try.prog Try.f5 Rows.flatTurnedRow.domain false) (Rows.flatTurnedSpec.post enc Try.prog Try.f5 false true false false) := by
  refine law_lifted (C := Try.checked) own started (by kernel_rfl) Try.func5 laidOut rfl Try.underlying4 rfl (by kernel_rfl) (fun ds hd => ?_)
    (ChangeSpec.witness6 (enc := enc) (C := Try.checked) false ⟨#[], #[.slice none 0 0, .slice none 0 0, .slice none 0 0], []⟩ 8 (by kernel_rfl) (by kernel_rfl) (by kernel_rfl) (by kernel_rfl)) ?_
  · match ds, hd with
    | [d0, d1, d2], _ => exact ⟨rfl, rfl, rfl⟩
  intro W base args ds p hval hA
  rw [Try.params5] at hA hval
  obtain ⟨v0, vs0, d0, ds0, p0, q0, hargs, rfl, rfl, h0, r0⟩ := trodAll_cons hA
  obtain ⟨v1, vs1, d1, ds1, p1, q1, rfl, rfl, rfl, h1, r1⟩ := trodAll_cons r0
  obtain ⟨v2, vs2, d2, ds2, p2, q2, rfl, rfl, rfl, h2, r2⟩ := trodAll_cons r1
  obtain ⟨rfl, rfl, rfl⟩ := trodAll_nil r2
  obtain rfl : args = #[v0, v1, v2] := by cases args; simp_all
  obtain ⟨l0, a0, c0, rfl, hc0, hs0, hw0⟩ := open_ls (hval 0 30 v0 rfl rfl) h0
  obtain ⟨l1, a1, c1, rfl, hc1, hs1, hw1⟩ := open_sns (hval 1 44 v1 rfl rfl) h1
  obtain ⟨l2, a2, c2, rfl, hc2, hs2, hw2⟩ := open_sns (hval 2 44 v2 rfl rfl) h2
  exact law_fturned l0 a0 c0 l1 a1 c1 l2 a2 c2 W hc0 hc1 hs0 hw0 hs1 hw1 hs2 hw2
theorem flatTurned_over : Rows.flatTurnedRow.holds Try.pinned (OpenSpec.ofChange Rows.flatTurnedSpec) :=
  OpenClaim.holds_of_wide 5 Try.f5 rfl rfl rfl rfl rfl rfl rfl ⟨rfl, rfl, rfl, rfl, rfl⟩ rfl rfl rfl rfl rfl (by kernel_rfl) Try.func5 (by kernel_rfl)
    (of_decide_eq_true (by kernel_rfl)) (by unfold Func.isWrapper; first | (rw [if_pos (by decide +kernel)]; kernel_rfl) | (rw [if_neg (by decide +kernel)]; exact ⟨rfl, rfl⟩))
    (fun os started H enc _ => flatTurned_lifted os started H enc)
theorem flatTurned_holds : Rows.FlatTurnedSaid := flatTurned_over
#print axioms flatTurned_holds
end Go.Proofs.Ytbepaafgcbgmfaa
