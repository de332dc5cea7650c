/- Layer 8's places (view) and its reference's (choragusref08), whatever is wrong; the bounds stand in each. How great what is read of bytes may be; no condition. What view.Get's walk wants: contracts at literals, a leaf more, a view of what was read; the bounds stand in each. -/
import Derived.Test.YtmokecicjmjkbaaGz7
import Derived.Test.YtmokecicjmjkbaaGz14
namespace Go.Proofs.Ytmokecicjmjkbaa
open Go.ChangeShapes Go.WideShapes Go.ChangeAt Go.RowKit Go.Deep
set_option linter.unusedVariables false
set_option linter.unusedSimpArgs false
set_option linter.unusedSectionVars false
set_option maxRecDepth 100000
set_option maxHeartbeats 4000000
theorem rfail5_ok {B : Nat} {w0 : World} {M : List Res} (g : Nat) (s : Value) (e : Nat) (he : e = 0) (w : World) (H : St B w0 w (row 144 g #[s, .int .i64 (e : Int)] :: M)) :
    Calls Try.prog 93 #[.pointer (some ⟨g, 0, none⟩), .int .i64 5] w (Ret fun v w' => v = .tuple #[] ∧ St B w0 w' (row 144 g #[s, .int .i64 ((5 : Nat) : Int)] :: M)) := rfail_ok g s e 5 he w H
theorem rstop3_ok {B : Nat} {w0 : World} {M : List Res} (g : Nat) (s : Value) (e : Nat) (he : e = 0) (w : World) (H : St B w0 w (row 144 g #[s, .int .i64 (e : Int)] :: M)) :
    Calls Try.prog 68 #[.pointer (some ⟨g, 0, none⟩), .int .i64 3] w (Ret fun v w' => v = .tuple #[] ∧ St B w0 w' (row 144 g #[s, .int .i64 ((3 : Nat) : Int)] :: M)) := by
  go_enter Try.func68, Try.ntmps68
  go_wp2_with (first | (go_at_call 93; (with_reducible refine (rfail3_ok g _ e he _ H).mono ?_); rintro e w1 ⟨v, rfl, hr⟩; obtain ⟨rfl, H2⟩ := hr; clear H; have H := H2; clear H2))
  go_end0
  exact ⟨_, rfl, rfl, H⟩
theorem rstop5_ok {B : Nat} {w0 : World} {M : List Res} (g : Nat) (s : Value) (e : Nat) (he : e = 0) (w : World) (H : St B w0 w (row 144 g #[s, .int .i64 (e : Int)] :: M)) :
    Calls Try.prog 68 #[.pointer (some ⟨g, 0, none⟩), .int .i64 5] w (Ret fun v w' => v = .tuple #[] ∧ St B w0 w' (row 144 g #[s, .int .i64 ((5 : Nat) : Int)] :: M)) := by
  go_enter Try.func68, Try.ntmps68
  go_wp2_with (first | (go_at_call 93; (with_reducible refine (rfail5_ok g _ e he _ H).mono ?_); rintro e w1 ⟨v, rfl, hr⟩; obtain ⟨rfl, H2⟩ := hr; clear H; have H := H2; clear H2))
  go_end0
  exact ⟨_, rfl, rfl, H⟩
theorem mNumG24_ok {B : Nat} {w0 : World} {L M : List Res} (g : Nat) (s : Value) (l : List Nat) (e : Nat) (hb : Byt B w0 L s l) (w : World) (H : St B w0 w (row 144 g #[s, .int .i64 (e : Int)] :: M)) (hML : L.Sublist M) :
    Calls Try.prog 67 #[.pointer (some ⟨g, 0, none⟩), .int .u64 24] w (Ret fun v w' => v = .int .u64 ((numF 24 (l, e)).1 : Int) ∧ ∃ s', Byt B w0 L s' (numF 24 (l, e)).2.1 ∧ St B w0 w' (row 144 g #[s', .int .i64 ((numF 24 (l, e)).2.2 : Int)] :: M)) := mNumG_ok g s l e 24 hb hML w H
theorem rrNum24_ok {B : Nat} {w0 : World} {L M : List Res} (g : Nat) (s : Value) (l : List Nat) (e : Nat) (hb : Byt B w0 L s l) (w : World) (H : St B w0 w (row 129 g #[s, .int .i64 (e : Int)] :: M)) (hML : L.Sublist M) :
    Calls Try.prog 72 #[.pointer (some ⟨g, 0, none⟩), .int .u64 24] w (Ret fun v w' => v = .int .u64 ((numF 24 (l, e)).1 : Int) ∧ ∃ s', Byt B w0 L s' (numF 24 (l, e)).2.1 ∧ St B w0 w' (row 129 g #[s', .int .i64 ((numF 24 (l, e)).2.2 : Int)] :: M)) := rrNum_ok g s l e 24 hb hML w H
theorem mNumG3_ok {B : Nat} {w0 : World} {L M : List Res} (g : Nat) (s : Value) (l : List Nat) (e : Nat) (hb : Byt B w0 L s l) (w : World) (H : St B w0 w (row 144 g #[s, .int .i64 (e : Int)] :: M)) (hML : L.Sublist M) :
    Calls Try.prog 67 #[.pointer (some ⟨g, 0, none⟩), .int .u64 3] w (Ret fun v w' => v = .int .u64 ((numF 3 (l, e)).1 : Int) ∧ ∃ s', Byt B w0 L s' (numF 3 (l, e)).2.1 ∧ St B w0 w' (row 144 g #[s', .int .i64 ((numF 3 (l, e)).2.2 : Int)] :: M)) := mNumG_ok g s l e 3 hb hML w H
theorem rrNum3_ok {B : Nat} {w0 : World} {L M : List Res} (g : Nat) (s : Value) (l : List Nat) (e : Nat) (hb : Byt B w0 L s l) (w : World) (H : St B w0 w (row 129 g #[s, .int .i64 (e : Int)] :: M)) (hML : L.Sublist M) :
    Calls Try.prog 72 #[.pointer (some ⟨g, 0, none⟩), .int .u64 3] w (Ret fun v w' => v = .int .u64 ((numF 3 (l, e)).1 : Int) ∧ ∃ s', Byt B w0 L s' (numF 3 (l, e)).2.1 ∧ St B w0 w' (row 129 g #[s', .int .i64 ((numF 3 (l, e)).2.2 : Int)] :: M)) := rrNum_ok g s l e 3 hb hML w H
theorem mNumG64_ok {B : Nat} {w0 : World} {L M : List Res} (g : Nat) (s : Value) (l : List Nat) (e : Nat) (hb : Byt B w0 L s l) (w : World) (H : St B w0 w (row 144 g #[s, .int .i64 (e : Int)] :: M)) (hML : L.Sublist M) :
    Calls Try.prog 67 #[.pointer (some ⟨g, 0, none⟩), .int .u64 64] w (Ret fun v w' => v = .int .u64 ((numF 64 (l, e)).1 : Int) ∧ ∃ s', Byt B w0 L s' (numF 64 (l, e)).2.1 ∧ St B w0 w' (row 144 g #[s', .int .i64 ((numF 64 (l, e)).2.2 : Int)] :: M)) := mNumG_ok g s l e 64 hb hML w H
theorem rrNum64_ok {B : Nat} {w0 : World} {L M : List Res} (g : Nat) (s : Value) (l : List Nat) (e : Nat) (hb : Byt B w0 L s l) (w : World) (H : St B w0 w (row 129 g #[s, .int .i64 (e : Int)] :: M)) (hML : L.Sublist M) :
    Calls Try.prog 72 #[.pointer (some ⟨g, 0, none⟩), .int .u64 64] w (Ret fun v w' => v = .int .u64 ((numF 64 (l, e)).1 : Int) ∧ ∃ s', Byt B w0 L s' (numF 64 (l, e)).2.1 ∧ St B w0 w' (row 129 g #[s', .int .i64 ((numF 64 (l, e)).2.2 : Int)] :: M)) := rrNum_ok g s l e 64 hb hML w H
theorem mNumG4611686018427387904_ok {B : Nat} {w0 : World} {L M : List Res} (g : Nat) (s : Value) (l : List Nat) (e : Nat) (hb : Byt B w0 L s l) (w : World) (H : St B w0 w (row 144 g #[s, .int .i64 (e : Int)] :: M)) (hML : L.Sublist M) :
    Calls Try.prog 67 #[.pointer (some ⟨g, 0, none⟩), .int .u64 4611686018427387904] w (Ret fun v w' => v = .int .u64 ((numF 4611686018427387904 (l, e)).1 : Int) ∧ ∃ s', Byt B w0 L s' (numF 4611686018427387904 (l, e)).2.1 ∧ St B w0 w' (row 144 g #[s', .int .i64 ((numF 4611686018427387904 (l, e)).2.2 : Int)] :: M)) := mNumG_ok g s l e 4611686018427387904 hb hML w H
theorem rrNum4611686018427387904_ok {B : Nat} {w0 : World} {L M : List Res} (g : Nat) (s : Value) (l : List Nat) (e : Nat) (hb : Byt B w0 L s l) (w : World) (H : St B w0 w (row 129 g #[s, .int .i64 (e : Int)] :: M)) (hML : L.Sublist M) :
    Calls Try.prog 72 #[.pointer (some ⟨g, 0, none⟩), .int .u64 4611686018427387904] w (Ret fun v w' => v = .int .u64 ((numF 4611686018427387904 (l, e)).1 : Int) ∧ ∃ s', Byt B w0 L s' (numF 4611686018427387904 (l, e)).2.1 ∧ St B w0 w' (row 129 g #[s', .int .i64 ((numF 4611686018427387904 (l, e)).2.2 : Int)] :: M)) := rrNum_ok g s l e 4611686018427387904 hb hML w H

theorem places_ok {B : Nat} {w0 : World} {L M : List Res} (g : Nat) (s : Value) (l : List Nat) (e : Nat) (m : List Pr) (ma : Option Addr) (mc : Nat) (hm1 : m.length ≤ 1000) (hm : Rd B w0 M fun W => Sl W 2 m.length (.slice ma m.length mc) (elQ m)) (hb : Byt B w0 L s l) (hML : L.Sublist M) (w : World) (H : St B w0 w (row 144 g #[s, .int .i64 (e : Int)] :: M)) :
    Calls Try.prog 126 #[.pointer (some ⟨g, 0, none⟩), .slice ma m.length mc] w (Ret fun v w' => ∃ s' l' e' ab cb d, v = .slice ab d.length cb ∧ Hid (plcF m (l, e) = (d, (l', e'))) ∧ Byt B w0 L s' l' ∧ St B w0 w' (row 144 g #[s', .int .i64 (e' : Int)] :: slc 30 2 (.slice ab d.length cb) d.length (pv d) :: M)) := by
  obtain ⟨mn, hmn⟩ : ∃ mn, m.length = mn := ⟨_, rfl⟩
  have HMN := Lib.hid hmn
  simp only [hmn] at hm hm1 ⊢
  clear hmn
  go_enter Try.func126, Try.ntmps126
  go_upto_region 3 with (first | (go_at_call 67; (with_reducible refine (mNumG24_ok g _ l e hb _ H hML).mono ?_); rintro e w1 ⟨v, rfl, hr⟩; obtain ⟨rfl, s2, hb2, H2⟩ := hr; clear H; have H := H2; clear H2) | (with_reducible refine wpl rfl (ldQ (ty := 30) rfl ?_); first | (with_reducible refine (Stp.ldor rfl agg30 size30 rfl H (by assumption) sZ (by assumption) ?_); simp only [pS]) | (with_reducible refine (Stp.ldr rfl agg30 size30 rfl H mR sZ ?_); simp only [pS]) | (with_reducible refine (Stp.ldl rfl agg30 size30 rfl H mR (by simp) ?_); simp only [pS]; simp only [List.drop_succ_cons, List.drop_zero, List.take_succ_cons, List.take_zero])))
  have hz2 := numF_most (most := 24) (s := (l, e))
  have hpf : plcF m (l, e) = plcL m (numF 24 (l, e)).1 ([], (numF 24 (l, e)).2) := rfl
  obtain ⟨⟨n, l1, e1⟩, hz⟩ : ∃ z, numF 24 (l, e) = z := ⟨_, rfl⟩
  rw [hz] at hb2 H hz2 hpf ⊢
  simp only at hb2 H hz2 hpf ⊢
  clear hz
  have HPF := Lib.hid hpf
  replace H := H.nil 30 2
  clear hpf
  go_wp2_with (first | (with_reducible refine wpl rfl (ldQ (ty := 30) rfl ?_); first | (with_reducible refine (Stp.ldor rfl agg30 size30 rfl H (by assumption) sZ (by assumption) ?_); simp only [pS]) | (with_reducible refine (Stp.ldr rfl agg30 size30 rfl H mR sZ ?_); simp only [pS]) | (with_reducible refine (Stp.ldl rfl agg30 size30 rfl H mR (by simp) ?_); simp only [pS]; simp only [List.drop_succ_cons, List.drop_zero, List.take_succ_cons, List.take_zero])))
  go_loopw [7, 5] (fun i o wr => ∃ (k : Nat) (s : Value) (l2 : List Nat) (e2 : Nat) (acc : List Pr) (a : Option Addr) (c : Nat), k ≤ n ∧ i = .int .u64 (k : Int) ∧ o = .slice a k c ∧ Hid (acc.length = k) ∧ Hid (m = [] → k = 0) ∧ Hid (plcL m (n - k) (acc, (l2, e2)) = plcL m n ([], (l1, e1))) ∧ Byt B w0 L s l2 ∧ St B w0 wr (row 144 g #[s, .int .i64 (e2 : Int)] :: slc 30 2 (.slice a k c) k (pv acc) :: M)) (fun i _ _ => n - (intOf i).toNat)
  case atStart => exact ⟨0, s2, l1, e1, [], none, 0, Nat.zero_le _, rfl, rfl, Lib.hid rfl, Lib.hid (fun _ => rfl), Lib.hid rfl, hb2, H.perm (.swap _ _ _)⟩
  case round =>
    clear H hb2
    obtain ⟨k, s3, l2, e2, acc, a, c, hk, rfl, rfl, HA, HK, HP, hb3, H⟩ := hrel
    by_cases hgo : k < n ∧ e2 = 0
    · obtain ⟨hlt, rfl⟩ := hgo
      have kli : (k : Int) < (n : Int) := by omega
      have hei : (((0 : Nat) : Int) == 0) = true := by simp
      by_cases h0 : mn = 0
      · have hm0 : m = [] := List.eq_nil_of_length_eq_zero (by rw [HMN.out]; exact h0)
        have hk0 := HK.out hm0
        subst hk0
        have hacc : acc = [] := List.eq_nil_of_length_eq_zero HA.out
        have HV : Hid (plcF m (l, e) = ([], (l2, 3))) := Lib.hid (by
          rw [HPF.out, ← HP.out, hacc, show n - 0 = (n - 1) + 1 by omega]
          show (if (0 : Nat) ≠ 0 then _ else if m = [] then _ else _) = _
          rw [if_neg (by simp), if_pos hm0])
        subst h0
        have hmi : (((0 : Nat) : Int) == 0) = true := by simp
        clear hm0 hlt hk
        go_wp2_with (first | (go_at_call 69; (with_reducible refine (rerr_ok _ _ _ _ (H.getHeap mE)).mono ?_); rintro e w1 ⟨v, rfl, hr⟩; obtain ⟨rfl, hb1⟩ := hr; replace H := H.grow hb1; clear hb1) | (go_at_call 68; (with_reducible refine (rstop3_ok g _ 0 rfl _ H).mono ?_); rintro e w1 ⟨v, rfl, hr⟩; obtain ⟨rfl, H2⟩ := hr; clear H; have H := H2; clear H2) | (with_reducible refine wpl rfl (ldQ (ty := 30) rfl ?_); first | (with_reducible refine (Stp.ldor rfl agg30 size30 rfl H (by assumption) sZ (by assumption) ?_); simp only [pS]) | (with_reducible refine (Stp.ldr rfl agg30 size30 rfl H mR sZ ?_); simp only [pS]) | (with_reducible refine (Stp.ldl rfl agg30 size30 rfl H mR (by simp) ?_); simp only [pS]; simp only [List.drop_succ_cons, List.drop_zero, List.take_succ_cons, List.take_zero])))
        go_ret
        subst hacc
        exact ⟨_, rfl, s3, l2, 3, a, c, [], rfl, HV, hb3, H⟩
      · have hmi : ((mn : Int) == 0) = false := by simp; omega
        obtain ⟨q, hq⟩ : ∃ q, mn - 1 = q := ⟨_, rfl⟩
        have wmn : IntKind.u64.wrap (mn : Int) = (mn : Int) := wrap_u64_in _ (by omega) (by omega)
        have wq : IntKind.u64.wrap ((mn : Int) - 1) = (q : Int) := by rw [wrap_u64_in _ (by omega) (by omega)]; omega
        have hqi : (mn : Int) - 1 = (q : Int) := by omega
        obtain ⟨b, off, rfl, hbb⟩ := (hm.at H (by repeat (first | exact List.Sublist.refl _ | apply List.Sublist.cons))).addr (by omega)
        have hne : m ≠ [] := by intro h; rw [h] at HMN; exact h0 HMN.out.symm
        have hkq := numF_most (most := q) (s := (l2, 0))
        have hp2 : plcL m (n - (k + 1)) (acc ++ [m.getD (numF q (l2, 0)).1 (0, 0)], (numF q (l2, 0)).2) = plcL m n ([], (l1, e1)) := by
          rw [← HP.out, show n - k = (n - (k + 1)) + 1 by omega, ← hq, ← HMN.out]
          show _ = (if (0 : Nat) ≠ 0 then _ else if m = [] then _ else _)
          rw [if_neg (by simp), if_neg hne]
        obtain ⟨⟨r, l4, e4⟩, hz⟩ : ∃ z, numF q (l2, 0) = z := ⟨_, rfl⟩
        have HZ := Lib.hid hz
        rw [hz] at hp2 hkq
        simp only at hp2 hkq
        have hkm : r < mn := by omega
        have hki : (r : Int) < (mn : Int) := by omega
        obtain ⟨⟨x, y⟩, hxy⟩ : ∃ z, m.getD r (0, 0) = z := ⟨_, rfl⟩
        have HEL : Hid (elQ m r = #[.int .u16 (x : Int), .int .u32 (y : Int)]) := Lib.hid (by unfold elQ; rw [hxy])
        rw [hxy] at hp2
        have HP2 := Lib.hid hp2
        have HSN := Lib.hid (pv_snG acc (x, y))
        have HNE := Lib.hid hne
        clear hz hp2 hxy hne hq h0
        go_wp2_with (first | (go_at_call 69; (with_reducible refine (rerr_ok _ _ _ _ (H.getHeap mE)).mono ?_); rintro e w1 ⟨v, rfl, hr⟩; obtain ⟨rfl, hb1⟩ := hr; replace H := H.grow hb1; clear hb1) | (go_at_call 67; (with_reducible refine (mNumG_ok g s3 l2 0 q hb3 (by repeat (first | exact hML | apply List.Sublist.cons)) _ H).mono ?_); rintro e w1 ⟨v, rfl, hr⟩; obtain ⟨rfl, s4, hb4, H2⟩ := hr; clear H; have H := H2; clear H2; rw [HZ.out] at hb4 H ⊢; simp only at hb4 H ⊢) | (with_reducible refine wpl rfl (Stp.ldq (cs := #[.int .u16 (x : Int), .int .u32 (y : Int)]) rfl agg30 size30 rfl (by rw [← HEL.out]; exact (hm.at H (by repeat (first | exact List.Sublist.refl _ | apply List.Sublist.cons))).cell hkm) rfl ?_); simp only [pS]) | (with_reducible refine wpl rfl (dQ 37 rfl ?_); with_reducible refine (Stp.bsl (e := 30) (cs := #[.int .u16 (x : Int), .int .u32 (y : Int)]) 37 rfl rfl (fun W => by kernel_rfl) H ?_); clear H; intro g37 w1 H; simp only [pS]) | (with_reducible refine wpl rfl (dQ 38 rfl ?_); with_reducible refine (Stp.app 38 rfl rfl Try.underlying31 info30 rfl (by decide) rfl rfl H (fun _ => uP) rfl (newN (H.getRow (t := 30) mE)) (by simp [Value.oneCell']) (by unfold maxLen; omega) (by omega) ?_); clear H; intro a26 c26 w1 H; simp only [pS]; simp only [List.toList_toArray] at H; rw [← HSN.out] at H) | (with_reducible refine wpl rfl (ldQ (ty := 30) rfl ?_); first | (with_reducible refine (Stp.ldor rfl agg30 size30 rfl H (by assumption) sZ (by assumption) ?_); simp only [pS]) | (with_reducible refine (Stp.ldr rfl agg30 size30 rfl H mR sZ ?_); simp only [pS]) | (with_reducible refine (Stp.ldl rfl agg30 size30 rfl H mR (by simp) ?_); simp only [pS]; simp only [List.drop_succ_cons, List.drop_zero, List.take_succ_cons, List.take_zero])))
        go_roundw
        case rel => exact ⟨k + 1, s4, l4, e4, acc ++ [(x, y)], a26, c26, by omega, by go_num, rfl, Lib.hid (by rw [List.length_append, HA.out]; rfl), Lib.hid (fun h => absurd h HNE.out), HP2, hb4, (((H.pull (r := slc 30 2 _ (k + 1) _) pU).pull (r := row 144 g #[s4, .int .i64 (e4 : Int)]) pU)).sub sU⟩
        case measure => simp [intOf]; omega
    · have HV : Hid (plcF m (l, e) = (acc, (l2, e2))) := Lib.hid (by
        rw [HPF.out, ← HP.out]
        by_cases he2 : e2 ≠ 0
        · cases hn9 : n - k with
          | zero => rfl
          | succ j => exact if_pos he2
        · have : k = n := by
            rcases Nat.lt_or_ge k n with h | h
            · exact absurd ⟨h, by omega⟩ hgo
            · omega
          subst this
          rw [Nat.sub_self]; rfl)
      by_cases hlt : k < n
      · have kli : (k : Int) < (n : Int) := by omega
        have hei : ((e2 : Int) == 0) = false := by
          have : e2 ≠ 0 := fun h => hgo ⟨hlt, h⟩
          simp; omega
        clear hgo hlt
        go_wp2_with (first | (go_at_call 69; (with_reducible refine (rerr_ok _ _ _ _ (H.getHeap mE)).mono ?_); rintro e w1 ⟨v, rfl, hr⟩; obtain ⟨rfl, hb1⟩ := hr; replace H := H.grow hb1; clear hb1) | (with_reducible refine wpl rfl (ldQ (ty := 30) rfl ?_); first | (with_reducible refine (Stp.ldor rfl agg30 size30 rfl H (by assumption) sZ (by assumption) ?_); simp only [pS]) | (with_reducible refine (Stp.ldr rfl agg30 size30 rfl H mR sZ ?_); simp only [pS]) | (with_reducible refine (Stp.ldl rfl agg30 size30 rfl H mR (by simp) ?_); simp only [pS]; simp only [List.drop_succ_cons, List.drop_zero, List.take_succ_cons, List.take_zero])))
        go_ret
        refine ⟨_, rfl, s3, l2, e2, a, c, acc, ?_, HV, hb3, ?_⟩
        · rw [HA.out]; rfl
        · rw [HA.out]; exact H
      · have kli : ¬ (k : Int) < (n : Int) := by omega
        clear hgo hlt
        go_wp2_with (first | (go_at_call 69; (with_reducible refine (rerr_ok _ _ _ _ (H.getHeap mE)).mono ?_); rintro e w1 ⟨v, rfl, hr⟩; obtain ⟨rfl, hb1⟩ := hr; replace H := H.grow hb1; clear hb1) | (with_reducible refine wpl rfl (ldQ (ty := 30) rfl ?_); first | (with_reducible refine (Stp.ldor rfl agg30 size30 rfl H (by assumption) sZ (by assumption) ?_); simp only [pS]) | (with_reducible refine (Stp.ldr rfl agg30 size30 rfl H mR sZ ?_); simp only [pS]) | (with_reducible refine (Stp.ldl rfl agg30 size30 rfl H mR (by simp) ?_); simp only [pS]; simp only [List.drop_succ_cons, List.drop_zero, List.take_succ_cons, List.take_zero])))
        go_ret
        refine ⟨_, rfl, s3, l2, e2, a, c, acc, ?_, HV, hb3, ?_⟩
        · rw [HA.out]; rfl
        · rw [HA.out]; exact H

theorem rplaces_ok {B : Nat} {w0 : World} {L M : List Res} (g : Nat) (s : Value) (l : List Nat) (e : Nat) (m : List Pr) (ma : Option Addr) (mc : Nat) (hm1 : m.length ≤ 1000) (hm : Rd B w0 M fun W => Sl W 2 m.length (.slice ma m.length mc) (elQ m)) (hb : Byt B w0 L s l) (hML : L.Sublist M) (w : World) (H : St B w0 w (row 129 g #[s, .int .i64 (e : Int)] :: M)) :
    Calls Try.prog 129 #[.pointer (some ⟨g, 0, none⟩), .slice ma m.length mc] w (Ret fun v w' => ∃ s' l' e' ab cb d, v = .slice ab d.length cb ∧ Hid (plcF m (l, e) = (d, (l', e'))) ∧ Byt B w0 L s' l' ∧ St B w0 w' (row 129 g #[s', .int .i64 (e' : Int)] :: slc 30 2 (.slice ab d.length cb) d.length (pv d) :: M)) := by
  obtain ⟨mn, hmn⟩ : ∃ mn, m.length = mn := ⟨_, rfl⟩
  have HMN := Lib.hid hmn
  simp only [hmn] at hm hm1 ⊢
  clear hmn
  go_enter Try.func129, Try.ntmps129
  go_upto_region 3 with (first | (go_at_call 72; (with_reducible refine (rrNum24_ok g _ l e hb _ H hML).mono ?_); rintro e w1 ⟨v, rfl, hr⟩; obtain ⟨rfl, s2, hb2, H2⟩ := hr; clear H; have H := H2; clear H2) | (with_reducible refine wpl rfl (ldQ (ty := 3) rfl ?_); first | (with_reducible refine (Stp.ldo rfl agg3 rfl H (by assumption) (by assumption) ?_); simp only [pS]) | (with_reducible refine (Stp.ldc rfl agg3 rfl H mR cE ?_); simp only [pS])) | (with_reducible refine wpl rfl (stQ (ty := 3) rfl ?_); first | (with_reducible refine (Stp.stc rfl size3 rfl rfl rfl rfl H uP (by first | omega | (simp; done) | (simp; omega)) ?_); clear H; intro w1 H; simp only [pS]; simp only [pE, nC, pS] at H)) | (with_reducible refine wpl rfl (ldQ (ty := 30) rfl ?_); first | (with_reducible refine (Stp.ldor rfl agg30 size30 rfl H (by assumption) sZ (by assumption) ?_); simp only [pS]) | (with_reducible refine (Stp.ldr rfl agg30 size30 rfl H mR sZ ?_); simp only [pS]) | (with_reducible refine (Stp.ldl rfl agg30 size30 rfl H mR (by simp) ?_); simp only [pS]; simp only [List.drop_succ_cons, List.drop_zero, List.take_succ_cons, List.take_zero])))
  have hz2 := numF_most (most := 24) (s := (l, e))
  have hpf : plcF m (l, e) = plcL m (numF 24 (l, e)).1 ([], (numF 24 (l, e)).2) := rfl
  obtain ⟨⟨n, l1, e1⟩, hz⟩ : ∃ z, numF 24 (l, e) = z := ⟨_, rfl⟩
  rw [hz] at hb2 H hz2 hpf ⊢
  simp only at hb2 H hz2 hpf ⊢
  clear hz
  have HPF := Lib.hid hpf
  replace H := H.nil 30 2
  clear hpf
  go_wp2_with (first | (with_reducible refine wpl rfl (ldQ (ty := 3) rfl ?_); first | (with_reducible refine (Stp.ldo rfl agg3 rfl H (by assumption) (by assumption) ?_); simp only [pS]) | (with_reducible refine (Stp.ldc rfl agg3 rfl H mR cE ?_); simp only [pS])) | (with_reducible refine wpl rfl (stQ (ty := 3) rfl ?_); first | (with_reducible refine (Stp.stc rfl size3 rfl rfl rfl rfl H uP (by first | omega | (simp; done) | (simp; omega)) ?_); clear H; intro w1 H; simp only [pS]; simp only [pE, nC, pS] at H)) | (with_reducible refine wpl rfl (ldQ (ty := 30) rfl ?_); first | (with_reducible refine (Stp.ldor rfl agg30 size30 rfl H (by assumption) sZ (by assumption) ?_); simp only [pS]) | (with_reducible refine (Stp.ldr rfl agg30 size30 rfl H mR sZ ?_); simp only [pS]) | (with_reducible refine (Stp.ldl rfl agg30 size30 rfl H mR (by simp) ?_); simp only [pS]; simp only [List.drop_succ_cons, List.drop_zero, List.take_succ_cons, List.take_zero])))
  go_loopw [7, 6] (fun i o wr => ∃ (k : Nat) (s : Value) (l2 : List Nat) (e2 : Nat) (acc : List Pr) (a : Option Addr) (c : Nat), k ≤ n ∧ i = .int .u64 (k : Int) ∧ o = .slice a k c ∧ Hid (acc.length = k) ∧ Hid (m = [] → k = 0) ∧ Hid (plcL m (n - k) (acc, (l2, e2)) = plcL m n ([], (l1, e1))) ∧ Byt B w0 L s l2 ∧ St B w0 wr (row 129 g #[s, .int .i64 (e2 : Int)] :: slc 30 2 (.slice a k c) k (pv acc) :: M)) (fun i _ _ => n - (intOf i).toNat)
  case atStart => exact ⟨0, s2, l1, e1, [], none, 0, Nat.zero_le _, rfl, rfl, Lib.hid rfl, Lib.hid (fun _ => rfl), Lib.hid rfl, hb2, H.perm (.swap _ _ _)⟩
  case round =>
    clear H hb2
    obtain ⟨k, s3, l2, e2, acc, a, c, hk, rfl, rfl, HA, HK, HP, hb3, H⟩ := hrel
    by_cases hgo : k < n ∧ e2 = 0
    · obtain ⟨hlt, rfl⟩ := hgo
      have kli : (k : Int) < (n : Int) := by omega
      have hei : (((0 : Nat) : Int) == 0) = true := by simp
      by_cases h0 : mn = 0
      · have hm0 : m = [] := List.eq_nil_of_length_eq_zero (by rw [HMN.out]; exact h0)
        have hk0 := HK.out hm0
        subst hk0
        have hacc : acc = [] := List.eq_nil_of_length_eq_zero HA.out
        have HV : Hid (plcF m (l, e) = ([], (l2, 3))) := Lib.hid (by
          rw [HPF.out, ← HP.out, hacc, show n - 0 = (n - 1) + 1 by omega]
          show (if (0 : Nat) ≠ 0 then _ else if m = [] then _ else _) = _
          rw [if_neg (by simp), if_pos hm0])
        subst h0
        have hmi : (((0 : Nat) : Int) == 0) = true := by simp
        clear hm0 hlt hk
        go_wp2_with (first | (with_reducible refine wpl rfl (ldQ (ty := 3) rfl ?_); first | (with_reducible refine (Stp.ldo rfl agg3 rfl H (by assumption) (by assumption) ?_); simp only [pS]) | (with_reducible refine (Stp.ldc rfl agg3 rfl H mR cE ?_); simp only [pS])) | (with_reducible refine wpl rfl (stQ (ty := 3) rfl ?_); first | (with_reducible refine (Stp.stc rfl size3 rfl rfl rfl rfl H uP (by first | omega | (simp; done) | (simp; omega)) ?_); clear H; intro w1 H; simp only [pS]; simp only [pE, nC, pS] at H)) | (with_reducible refine wpl rfl (ldQ (ty := 30) rfl ?_); first | (with_reducible refine (Stp.ldor rfl agg30 size30 rfl H (by assumption) sZ (by assumption) ?_); simp only [pS]) | (with_reducible refine (Stp.ldr rfl agg30 size30 rfl H mR sZ ?_); simp only [pS]) | (with_reducible refine (Stp.ldl rfl agg30 size30 rfl H mR (by simp) ?_); simp only [pS]; simp only [List.drop_succ_cons, List.drop_zero, List.take_succ_cons, List.take_zero])))
        go_ret
        subst hacc
        have H5 : St B w0 _ (row 129 g #[s3, .int .i64 3] :: slc 30 2 (.slice none 0 0) 0 [] :: M) := (((H.nil 30 2).pull (r := row 129 g #[s3, .int .i64 3]) pU)).sub sU
        exact ⟨_, rfl, s3, l2, 3, none, 0, [], rfl, HV, hb3, H5⟩
      · have hmi : ((mn : Int) == 0) = false := by simp; omega
        obtain ⟨q, hq⟩ : ∃ q, mn - 1 = q := ⟨_, rfl⟩
        have wmn : IntKind.u64.wrap (mn : Int) = (mn : Int) := wrap_u64_in _ (by omega) (by omega)
        have wq : IntKind.u64.wrap ((mn : Int) - 1) = (q : Int) := by rw [wrap_u64_in _ (by omega) (by omega)]; omega
        have hqi : (mn : Int) - 1 = (q : Int) := by omega
        obtain ⟨b, off, rfl, hbb⟩ := (hm.at H (by repeat (first | exact List.Sublist.refl _ | apply List.Sublist.cons))).addr (by omega)
        have hne : m ≠ [] := by intro h; rw [h] at HMN; exact h0 HMN.out.symm
        have hkq := numF_most (most := q) (s := (l2, 0))
        have hp2 : plcL m (n - (k + 1)) (acc ++ [m.getD (numF q (l2, 0)).1 (0, 0)], (numF q (l2, 0)).2) = plcL m n ([], (l1, e1)) := by
          rw [← HP.out, show n - k = (n - (k + 1)) + 1 by omega, ← hq, ← HMN.out]
          show _ = (if (0 : Nat) ≠ 0 then _ else if m = [] then _ else _)
          rw [if_neg (by simp), if_neg hne]
        obtain ⟨⟨r, l4, e4⟩, hz⟩ : ∃ z, numF q (l2, 0) = z := ⟨_, rfl⟩
        have HZ := Lib.hid hz
        rw [hz] at hp2 hkq
        simp only at hp2 hkq
        have hkm : r < mn := by omega
        have hki : (r : Int) < (mn : Int) := by omega
        obtain ⟨⟨x, y⟩, hxy⟩ : ∃ z, m.getD r (0, 0) = z := ⟨_, rfl⟩
        have HEL : Hid (elQ m r = #[.int .u16 (x : Int), .int .u32 (y : Int)]) := Lib.hid (by unfold elQ; rw [hxy])
        rw [hxy] at hp2
        have HP2 := Lib.hid hp2
        have HSN := Lib.hid (pv_snG acc (x, y))
        have HNE := Lib.hid hne
        clear hz hp2 hxy hne hq h0
        go_wp2_with (first | (go_at_call 72; (with_reducible refine (rrNum_ok g s3 l2 0 q hb3 (by repeat (first | exact hML | apply List.Sublist.cons)) _ H).mono ?_); rintro e w1 ⟨v, rfl, hr⟩; obtain ⟨rfl, s4, hb4, H2⟩ := hr; clear H; have H := H2; clear H2; rw [HZ.out] at hb4 H ⊢; simp only at hb4 H ⊢) | (with_reducible refine wpl rfl (Stp.ldq (cs := #[.int .u16 (x : Int), .int .u32 (y : Int)]) rfl agg30 size30 rfl (by rw [← HEL.out]; exact (hm.at H (by repeat (first | exact List.Sublist.refl _ | apply List.Sublist.cons))).cell hkm) rfl ?_); simp only [pS]) | (with_reducible refine wpl rfl (dQ 40 rfl ?_); with_reducible refine (Stp.bsl (e := 30) (cs := #[.int .u16 (x : Int), .int .u32 (y : Int)]) 40 rfl rfl (fun W => by kernel_rfl) H ?_); clear H; intro g40 w1 H; simp only [pS]) | (with_reducible refine wpl rfl (dQ 41 rfl ?_); with_reducible refine (Stp.app 41 rfl rfl Try.underlying31 info30 rfl (by decide) rfl rfl H (fun _ => uP) rfl (newN (H.getRow (t := 30) mE)) (by simp [Value.oneCell']) (by unfold maxLen; omega) (by omega) ?_); clear H; intro a26 c26 w1 H; simp only [pS]; simp only [List.toList_toArray] at H; rw [← HSN.out] at H) | (with_reducible refine wpl rfl (ldQ (ty := 3) rfl ?_); first | (with_reducible refine (Stp.ldo rfl agg3 rfl H (by assumption) (by assumption) ?_); simp only [pS]) | (with_reducible refine (Stp.ldc rfl agg3 rfl H mR cE ?_); simp only [pS])) | (with_reducible refine wpl rfl (stQ (ty := 3) rfl ?_); first | (with_reducible refine (Stp.stc rfl size3 rfl rfl rfl rfl H uP (by first | omega | (simp; done) | (simp; omega)) ?_); clear H; intro w1 H; simp only [pS]; simp only [pE, nC, pS] at H)) | (with_reducible refine wpl rfl (ldQ (ty := 30) rfl ?_); first | (with_reducible refine (Stp.ldor rfl agg30 size30 rfl H (by assumption) sZ (by assumption) ?_); simp only [pS]) | (with_reducible refine (Stp.ldr rfl agg30 size30 rfl H mR sZ ?_); simp only [pS]) | (with_reducible refine (Stp.ldl rfl agg30 size30 rfl H mR (by simp) ?_); simp only [pS]; simp only [List.drop_succ_cons, List.drop_zero, List.take_succ_cons, List.take_zero])))
        go_roundw
        case rel => exact ⟨k + 1, s4, l4, e4, acc ++ [(x, y)], a26, c26, by omega, by go_num, rfl, Lib.hid (by rw [List.length_append, HA.out]; rfl), Lib.hid (fun h => absurd h HNE.out), HP2, hb4, (((H.pull (r := slc 30 2 _ (k + 1) _) pU).pull (r := row 129 g #[s4, .int .i64 (e4 : Int)]) pU)).sub sU⟩
        case measure => simp [intOf]; omega
    · have HV : Hid (plcF m (l, e) = (acc, (l2, e2))) := Lib.hid (by
        rw [HPF.out, ← HP.out]
        by_cases he2 : e2 ≠ 0
        · cases hn9 : n - k with
          | zero => rfl
          | succ j => exact if_pos he2
        · have : k = n := by
            rcases Nat.lt_or_ge k n with h | h
            · exact absurd ⟨h, by omega⟩ hgo
            · omega
          subst this
          rw [Nat.sub_self]; rfl)
      by_cases hlt : k < n
      · have kli : (k : Int) < (n : Int) := by omega
        have hei : ((e2 : Int) == 0) = false := by
          have : e2 ≠ 0 := fun h => hgo ⟨hlt, h⟩
          simp; omega
        clear hgo hlt
        go_wp2_with (first | (with_reducible refine wpl rfl (ldQ (ty := 3) rfl ?_); first | (with_reducible refine (Stp.ldo rfl agg3 rfl H (by assumption) (by assumption) ?_); simp only [pS]) | (with_reducible refine (Stp.ldc rfl agg3 rfl H mR cE ?_); simp only [pS])) | (with_reducible refine wpl rfl (stQ (ty := 3) rfl ?_); first | (with_reducible refine (Stp.stc rfl size3 rfl rfl rfl rfl H uP (by first | omega | (simp; done) | (simp; omega)) ?_); clear H; intro w1 H; simp only [pS]; simp only [pE, nC, pS] at H)) | (with_reducible refine wpl rfl (ldQ (ty := 30) rfl ?_); first | (with_reducible refine (Stp.ldor rfl agg30 size30 rfl H (by assumption) sZ (by assumption) ?_); simp only [pS]) | (with_reducible refine (Stp.ldr rfl agg30 size30 rfl H mR sZ ?_); simp only [pS]) | (with_reducible refine (Stp.ldl rfl agg30 size30 rfl H mR (by simp) ?_); simp only [pS]; simp only [List.drop_succ_cons, List.drop_zero, List.take_succ_cons, List.take_zero])))
        go_ret
        refine ⟨_, rfl, s3, l2, e2, a, c, acc, ?_, HV, hb3, ?_⟩
        · rw [HA.out]; rfl
        · rw [HA.out]; exact H
      · have kli : ¬ (k : Int) < (n : Int) := by omega
        clear hgo hlt
        go_wp2_with (first | (with_reducible refine wpl rfl (ldQ (ty := 3) rfl ?_); first | (with_reducible refine (Stp.ldo rfl agg3 rfl H (by assumption) (by assumption) ?_); simp only [pS]) | (with_reducible refine (Stp.ldc rfl agg3 rfl H mR cE ?_); simp only [pS])) | (with_reducible refine wpl rfl (stQ (ty := 3) rfl ?_); first | (with_reducible refine (Stp.stc rfl size3 rfl rfl rfl rfl H uP (by first | omega | (simp; done) | (simp; omega)) ?_); clear H; intro w1 H; simp only [pS]; simp only [pE, nC, pS] at H)) | (with_reducible refine wpl rfl (ldQ (ty := 30) rfl ?_); first | (with_reducible refine (Stp.ldor rfl agg30 size30 rfl H (by assumption) sZ (by assumption) ?_); simp only [pS]) | (with_reducible refine (Stp.ldr rfl agg30 size30 rfl H mR sZ ?_); simp only [pS]) | (with_reducible refine (Stp.ldl rfl agg30 size30 rfl H mR (by simp) ?_); simp only [pS]; simp only [List.drop_succ_cons, List.drop_zero, List.take_succ_cons, List.take_zero])))
        go_ret
        refine ⟨_, rfl, s3, l2, e2, a, c, acc, ?_, HV, hb3, ?_⟩
        · rw [HA.out]; rfl
        · rw [HA.out]; exact H

end Go.Proofs.Ytmokecicjmjkbaa
namespace Go.Proofs.Ytmokecicjmjkbaa
set_option linter.unusedVariables false
set_option linter.unusedSimpArgs false
theorem okPids_snoc {l : List Pr} {p : Pr} (h : okPids l) (h1 : p.1 < 65536) (h2 : p.2 < 4294967296) : okPids (l ++ [p]) := by
  intro q hq
  rcases List.mem_append.1 hq with hq | hq
  · exact h q hq
  · obtain rfl := List.mem_singleton.1 hq; exact ⟨h1, h2⟩
theorem pidsL_sm : ∀ (n : Nat) (a : List Pr × Rs), okPids a.1 → (pidsL n a).1.length ≤ a.1.length + n ∧ okPids (pidsL n a).1
  | 0, a, h => ⟨Nat.le_refl _, h⟩
  | n + 1, a, h => by
    unfold pidsL
    split
    · exact ⟨by omega, h⟩
    · have := pidsL_sm n (a.1 ++ [(pidF a.2).1], (pidF a.2).2) (okPids_snoc h pidF_lt.1 pidF_lt.2)
      simp only [List.length_append, List.length_singleton] at this
      exact ⟨by omega, this.2⟩
theorem okPids_nil : okPids [] := fun p hp => by cases hp
theorem pidsF_sm {most : Nat} {s : Rs} : (pidsF most s).1.length ≤ most ∧ okPids (pidsF most s).1 := by
  unfold pidsF
  split
  · exact ⟨Nat.zero_le _, okPids_nil⟩
  · split
    · exact ⟨Nat.zero_le _, okPids_nil⟩
    · have h1 := pidsL_sm (numF most s).1 ([], (numF most s).2) okPids_nil
      have h2 := numF_most (most := most) (s := s)
      simp only [List.length_nil] at h1
      exact ⟨by omega, h1.2⟩
theorem okPids_getD {m : List Pr} (h : okPids m) (k : Nat) : (m.getD k (0, 0)).1 < 65536 ∧ (m.getD k (0, 0)).2 < 4294967296 := by
  by_cases hk : k < m.length
  · have : m.getD k (0, 0) = m[k] := by simp [List.getD, hk]
    rw [this]; exact h _ (List.getElem_mem hk)
  · have : m.getD k (0, 0) = (0, 0) := by rw [List.getD, List.getElem?_eq_none (by omega)]; rfl
    rw [this]; exact ⟨by decide, by decide⟩
theorem plcL_sm {m : List Pr} (hm : okPids m) : ∀ (n : Nat) (a : List Pr × Rs), okPids a.1 → (plcL m n a).1.length ≤ a.1.length + n ∧ okPids (plcL m n a).1
  | 0, a, h => ⟨Nat.le_refl _, h⟩
  | n + 1, a, h => by
    unfold plcL
    split
    · exact ⟨by omega, h⟩
    · split
      · exact ⟨by show a.1.length ≤ _; omega, h⟩
      · have := plcL_sm hm n (a.1 ++ [m.getD (numF (m.length - 1) a.2).1 (0, 0)], (numF (m.length - 1) a.2).2) (okPids_snoc h (okPids_getD hm _).1 (okPids_getD hm _).2)
        simp only [List.length_append, List.length_singleton] at this
        exact ⟨by omega, this.2⟩
theorem plcF_sm {m : List Pr} (hm : okPids m) {s : Rs} : (plcF m s).1.length ≤ 24 ∧ okPids (plcF m s).1 := by
  unfold plcF
  have h1 := plcL_sm hm (numF 24 s).1 ([], (numF 24 s).2) okPids_nil
  have h2 := numF_most (most := 24) (s := s)
  simp only [List.length_nil] at h1
  exact ⟨by omega, h1.2⟩
theorem lvsL_sm {m : List Pr} (hm : okPids m) : ∀ (n : Nat) (a : List (List Pr) × Rs), (∀ l ∈ a.1, l.length ≤ 24 ∧ okPids l) → (lvsL m n a).1.length ≤ a.1.length + n ∧ ∀ l ∈ (lvsL m n a).1, l.length ≤ 24 ∧ okPids l
  | 0, a, h => ⟨Nat.le_refl _, h⟩
  | n + 1, a, h => by
    unfold lvsL
    split
    · exact ⟨by omega, h⟩
    · have := lvsL_sm hm n (a.1 ++ [(plcF m a.2).1], (plcF m a.2).2) (by
        intro l hl
        rcases List.mem_append.1 hl with hl | hl
        · exact h l hl
        · obtain rfl := List.mem_singleton.1 hl; exact plcF_sm hm)
      simp only [List.length_append, List.length_singleton] at this
      exact ⟨by omega, this.2⟩
theorem vwR_sm (s : Rs) : smV (vwR s).1 ∧ wfV (vwR s).1 ∧ (vwR s).1.mem.length ≤ 24 ∧ (vwR s).1.lvs.length ≤ 24 := by
  unfold vwR
  simp only
  obtain ⟨h1, h2⟩ := pidsF_sm (most := 24) (s := (numF 4611686018427387904 s).2)
  have h3 := numF_most (most := 4611686018427387904) (s := s)
  obtain ⟨h4, h5⟩ := lvsL_sm h2 (numF 24 (pidsF 24 (numF 4611686018427387904 s).2).2).1 ([], (numF 24 (pidsF 24 (numF 4611686018427387904 s).2).2).2) (by intro l hl; cases hl)
  have h6 := numF_most (most := 24) (s := (pidsF 24 (numF 4611686018427387904 s).2).2)
  simp only [List.length_nil] at h4
  obtain ⟨h7, h8⟩ := plcF_sm h2 (s := (lvsL (pidsF 24 (numF 4611686018427387904 s).2).1 (numF 24 (pidsF 24 (numF 4611686018427387904 s).2).2).1 ([], (numF 24 (pidsF 24 (numF 4611686018427387904 s).2).2).2)).2)
  have h9 := Nat.le_trans h4 (show 0 + _ ≤ 24 by omega)
  exact ⟨⟨Nat.le_trans h1 (by decide), Nat.le_trans h9 (by decide), fun l hl => Nat.le_trans (h5 l hl).1 (by decide), Nat.le_trans h7 (by decide)⟩,
    ⟨Nat.lt_of_le_of_lt h3 (by decide), h2, fun l hl => (h5 l hl).2, h8⟩, h1, h9⟩
theorem vw0_sm : smV vw0 ∧ wfV vw0 :=
  ⟨⟨Nat.zero_le _, Nat.zero_le _, fun l hl => absurd hl List.not_mem_nil, Nat.zero_le _⟩, ⟨by show (0 : Nat) < _; decide, okPids_nil, fun l hl => absurd hl List.not_mem_nil, okPids_nil⟩⟩
theorem vwF_sm (s : Rs) : smV (vwF s).1 ∧ wfV (vwF s).1 := by
  unfold vwF
  simp only
  split
  · exact vw0_sm
  · exact ⟨(vwR_sm s).1, (vwR_sm s).2.1⟩
theorem bytesF_data {most : Nat} {s : Rs} (h : bt s) : (bytesF most s).1.length ≤ most ∧ ∀ x ∈ (bytesF most s).1, x < 256 := by
  unfold bytesF
  split
  · exact ⟨Nat.zero_le _, fun x hx => by cases hx⟩
  · split
    · exact ⟨Nat.zero_le _, fun x hx => by cases hx⟩
    · split
      · exact ⟨Nat.zero_le _, fun x hx => by cases hx⟩
      · refine ⟨?_, fun x hx => numF_bt (most := most) h x (List.mem_of_mem_take hx)⟩
        rw [List.length_take]
        exact Nat.le_trans (Nat.min_le_left _ _) numF_most
attribute [local irreducible] numF bytesF pidF vwF
theorem cmR_sm {s : Rs} (h : bt s) : smC (cmR s).1 ∧ wfC (cmR s).1 := by
  unfold cmR
  simp only
  split
  · have h1 : bt (numF 4611686018427387904 (numF 4611686018427387904 (pidF (numF 3 s).2).2).2).2 := numF_bt (numF_bt (pidF_bt (numF_bt h)))
    obtain ⟨h2, h3⟩ := bytesF_data (most := 200) h1
    have h4 := pidF_lt (s := (numF 3 s).2)
    exact ⟨⟨Nat.le_trans h2 (by decide), vw0_sm.1⟩, ⟨h4.1, h4.2, Nat.lt_of_le_of_lt numF_most (by decide), Nat.lt_of_le_of_lt numF_most (by decide), h3, vw0_sm.2⟩⟩
  · split
    · have h5 := vwF_sm (numF 3 s).2
      exact ⟨⟨Nat.zero_le _, h5.1⟩, ⟨(show (0 : Nat) < 65536 from by decide), (show (0 : Nat) < 4294967296 from by decide), (show (0 : Nat) < 18446744073709551616 from by decide), (show (0 : Nat) < 18446744073709551616 from by decide), (fun x hx => by cases hx), h5.2⟩⟩
    · exact ⟨⟨Nat.zero_le _, vw0_sm.1⟩, ⟨(show (0 : Nat) < 65536 from by decide), (show (0 : Nat) < 4294967296 from by decide), (show (0 : Nat) < 18446744073709551616 from by decide), (show (0 : Nat) < 18446744073709551616 from by decide), (fun x hx => by cases hx), vw0_sm.2⟩⟩
theorem cm0_sw : smC cm0 ∧ wfC cm0 := by
  refine ⟨⟨Nat.zero_le _, vw0_sm.1⟩, ⟨(show (0 : Nat) < 65536 from by decide), (show (0 : Nat) < 4294967296 from by decide), (show (0 : Nat) < 18446744073709551616 from by decide), (show (0 : Nat) < 18446744073709551616 from by decide), (fun x hx => by cases hx), vw0_sm.2⟩⟩
theorem cmF_sm {s : Rs} (h : bt s) : smC (cmF s).1 ∧ wfC (cmF s).1 := by
  unfold cmF
  simp only
  split
  · exact cm0_sw
  · exact cmR_sm h
end Go.Proofs.Ytmokecicjmjkbaa
namespace Go.Proofs.Ytmokecicjmjkbaa
open Go.ChangeShapes Go.WideShapes Go.ChangeAt Go.RowKit Go.Deep
set_option linter.unusedVariables false
set_option linter.unusedSimpArgs false
set_option linter.unusedSectionVars false
set_option maxRecDepth 100000
set_option maxHeartbeats 4000000
theorem mPidsG24_ok {B : Nat} {w0 : World} {L M : List Res} (g : Nat) (s : Value) (l : List Nat) (e : Nat) (hb : Byt B w0 L s l) (w : World) (H : St B w0 w (row 144 g #[s, .int .i64 (e : Int)] :: M)) (hML : L.Sublist M) :
    Calls Try.prog 125 #[.pointer (some ⟨g, 0, none⟩), .int .i64 24] w (Ret fun v w' => ∃ s' l' e' ab cb d, v = .slice ab d.length cb ∧ Hid (pidsF 24 (l, e) = (d, (l', e'))) ∧ Byt B w0 L s' l' ∧ St B w0 w' (row 144 g #[s', .int .i64 (e' : Int)] :: slc 30 2 (.slice ab d.length cb) d.length (pv d) :: M)) := mPidsG_ok g s l e 24 hb (by omega) hML w H
theorem rrPids24_ok {B : Nat} {w0 : World} {L M : List Res} (g : Nat) (s : Value) (l : List Nat) (e : Nat) (hb : Byt B w0 L s l) (w : World) (H : St B w0 w (row 129 g #[s, .int .i64 (e : Int)] :: M)) (hML : L.Sublist M) :
    Calls Try.prog 128 #[.pointer (some ⟨g, 0, none⟩), .int .i64 24] w (Ret fun v w' => ∃ s' l' e' ab cb d, v = .slice ab d.length cb ∧ Hid (pidsF 24 (l, e) = (d, (l', e'))) ∧ Byt B w0 L s' l' ∧ St B w0 w' (row 129 g #[s', .int .i64 (e' : Int)] :: slc 30 2 (.slice ab d.length cb) d.length (pv d) :: M)) := rrPids_ok g s l e 24 hb (by omega) hML w H
theorem places2_ok {B : Nat} {w0 : World} {L M : List Res} (g : Nat) (s : Value) (l : List Nat) (e : Nat) (m : List Pr) (ma : Option Addr) (mc : Nat) (hm1 : m.length ≤ 1000) (hb : Byt B w0 L s l) (w : World) (H : St B w0 w (row 144 g #[s, .int .i64 (e : Int)] :: M)) (hML : L.Sublist M) (hq : slc 30 2 (.slice ma m.length mc) m.length (pv m) ∈ M) :
    Calls Try.prog 126 #[.pointer (some ⟨g, 0, none⟩), .slice ma m.length mc] w (Ret fun v w' => ∃ s' l' e' ab cb d, v = .slice ab d.length cb ∧ Hid (plcF m (l, e) = (d, (l', e'))) ∧ Byt B w0 L s' l' ∧ St B w0 w' (row 144 g #[s', .int .i64 (e' : Int)] :: slc 30 2 (.slice ab d.length cb) d.length (pv d) :: M)) :=
  places_ok g s l e m ma mc hm1 (fun W _ q => own_pvk (q _ hq) rfl (by omega)) hb hML w H
theorem rplaces2_ok {B : Nat} {w0 : World} {L M : List Res} (g : Nat) (s : Value) (l : List Nat) (e : Nat) (m : List Pr) (ma : Option Addr) (mc : Nat) (hm1 : m.length ≤ 1000) (hb : Byt B w0 L s l) (w : World) (H : St B w0 w (row 129 g #[s, .int .i64 (e : Int)] :: M)) (hML : L.Sublist M) (hq : slc 30 2 (.slice ma m.length mc) m.length (pv m) ∈ M) :
    Calls Try.prog 129 #[.pointer (some ⟨g, 0, none⟩), .slice ma m.length mc] w (Ret fun v w' => ∃ s' l' e' ab cb d, v = .slice ab d.length cb ∧ Hid (plcF m (l, e) = (d, (l', e'))) ∧ Byt B w0 L s' l' ∧ St B w0 w' (row 129 g #[s', .int .i64 (e' : Int)] :: slc 30 2 (.slice ab d.length cb) d.length (pv d) :: M)) :=
  rplaces_ok g s l e m ma mc hm1 (fun W _ q => own_pvk (q _ hq) rfl (by omega)) hb hML w H

/-- One leaf more is read. -/
theorem St.leafA {B : Nat} {w0 w : World} {L : List Res} {G : Nat → Prop} {hd : Nat → Value} {acc : List (List Pr)} {k : Nat} {a : Option Addr} {c : Nat} {l : List Pr} (H : St B w0 w (slc 30 2 (.slice a l.length c) l.length (pv l) :: lvr G hd acc k :: L)) (hk : acc.length = k) (hm : l.length ≤ 100000) :
    ∃ G', St B w0 w (lvr G' (fun i => if i = k then .slice a l.length c else hd i) (acc ++ [l]) (k + 1) :: L) := by
  refine ⟨fun g => (Value.slice a l.length c).ownBlock = some g ∨ G g, H.join.conv (fun g h => h) (fun hS => ⟨?_, hS.lt, lvr_loc _ _ _ _⟩)⟩
  intro i hi
  obtain ⟨h1, h2⟩ := hS.here
  by_cases hik : i = k
  · subst hik
    simp only [if_true]
    have e : (acc ++ [l]).getD i [] = l := by simp [List.getD, ← hk]
    rw [e]
    exact (SlG.of_pv (b := 0) h1 hm).mono (fun g h => .inl h)
  · show SlG _ w 2 _ (if i = k then _ else hd i) _
    rw [if_neg hik]
    have e : (acc ++ [l]).getD i [] = acc.getD i [] := by
      have : i < acc.length := by omega
      rw [List.getD, List.getD, List.getElem?_append_left this]
    rw [e]
    exact (h2 i (by omega)).mono (fun g h => .inr h)
/-- What was read, as a view that is no longer written. -/
theorem St.vwrOf {B : Nat} {w0 w : World} {L : List Res} {G : Nat → Prop} {hd : Nat → Value} (x : Vw) {k ml dl : Nat} {am av al : Option Addr} {cm cv cl : Nat} (H : St B w0 w (slc 30 2 (.slice am ml cm) ml (pv x.mem) :: slc 31 1 (.slice av k cv) k (hdv hd k) :: lvr G hd x.lvs k :: slc 30 2 (.slice al dl cl) dl (pv x.ldr) :: L))
    (h1 : x.mem.length = ml) (h2 : x.lvs.length = k) (h3 : x.ldr.length = dl) (b1 : ml ≤ 1000) (b2 : k ≤ 1000) (b3 : dl ≤ 1000) : ∃ G', St B w0 w (vwr G' (.slice am x.mem.length cm) (.slice av x.lvs.length cv) (.slice al x.ldr.length cl) x :: L) := by
  subst h1 h2 h3
  have H2 := H.join.join.join
  refine ⟨_, H2.conv (r' := vwr _ (.slice am x.mem.length cm) (.slice av x.lvs.length cv) (.slice al x.ldr.length cl) x) (fun g h => h) (fun hS => ⟨?_, hS.lt, fun _ _ hb h1 => VwG.loc hb h1⟩)⟩
  obtain ⟨⟨⟨a1, a2⟩, a3⟩, a4⟩ := hS.here
  refine ⟨(SlG.of_pv (b := 0) a1 (by omega)).mono (fun g h => .inl (.inl (.inl h))), ⟨hd, ?_, fun i hi => (a3 i hi).mono (fun g h => .inl (.inr h))⟩, (SlG.of_pv (b := 0) a4 (by omega)).mono (fun g h => .inr h)⟩
  exact (SlG.of_own (b := 0) (e := 31) (size := 1) (v := .slice av x.lvs.length cv) (n := x.lvs.length) (xs := hdv hd x.lvs.length) a2 (fun i hi j hj => by
    obtain rfl : j = 0 := by omega
    rw [Nat.mul_one, Nat.add_zero, hdv_get hd x.lvs.length i hi]; rfl) (by unfold maxLen; omega)).mono (fun g h => .inl (.inl (.inr h)))
end Go.Proofs.Ytmokecicjmjkbaa
