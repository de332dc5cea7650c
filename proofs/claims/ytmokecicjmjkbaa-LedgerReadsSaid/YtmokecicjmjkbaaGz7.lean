/- Layer 7's Reader (body), whatever is wrong: Pids; the bounds stand in it. Layer 7's reference's Reader (choragusref07), whatever is wrong: Num, Bytes, End; the bounds stand in each. Layer 7's reference's Reader (choragusref07), whatever is wrong: Pid, Pids; the bounds stand in each. -/
import Derived.Deep.Cut
import Derived.Test.YtmokecicjmjkbaaGz3
import Derived.Test.YtmokecicjmjkbaaGz4
import Derived.Test.YtmokecicjmjkbaaGz6
namespace Go.Proofs.Ytmokecicjmjkbaa
open Go.ChangeShapes Go.WideShapes Go.ChangeAt Go.RowKit Go.Deep
set_option linter.unusedVariables false
set_option linter.unusedSimpArgs false
set_option linter.unusedSectionVars false
set_option maxRecDepth 100000
set_option maxHeartbeats 2000000
theorem pv_snG (l : List Pr) (p : Pr) : pv (l ++ [p]) = pv l ++ [.int .u16 (p.1 : Int), .int .u32 (p.2 : Int)] := by
  unfold pv; rw [List.flatMap_append]; simp
theorem pids_permG {B : Nat} {w0 w : World} {M : List Res} {a b c d e : Res} (H : St B w0 w (e :: a :: b :: c :: d :: M)) : St B w0 w (a :: b :: c :: d :: e :: M) := bytes_permG H
theorem pidscG_ok {B : Nat} {w0 : World} {L M : List Res} (g rb mb nb : Nat) (s : Value) (l : List Nat) (most : Nat) (hb : Byt B w0 L s l) (hmo2 : most ≤ 100000) (hML : L.Sublist M) (w : World)
    (H : St B w0 w (row 144 g #[s, .int .i64 ((0 : Nat) : Int)] :: row 121 rb #[.pointer (some ⟨g, 0, none⟩)] :: row 3 mb #[.int .i64 (most : Int)] :: row 31 nb #[.slice none 0 0] :: M)) :
    Calls Try.prog 141 #[.pointer (some ⟨rb, 0, none⟩), .pointer (some ⟨mb, 0, none⟩), .pointer (some ⟨nb, 0, none⟩)] w (Ret fun v w' => v = .tuple #[] ∧ ∃ s' l' e' ab cb d, Hid (pidsL (numF most (l, 0)).1 ([], (numF most (l, 0)).2) = (d, (l', e'))) ∧ Byt B w0 L s' l' ∧ St B w0 w' (row 144 g #[s', .int .i64 (e' : Int)] :: row 121 rb #[.pointer (some ⟨g, 0, none⟩)] :: row 3 mb #[.int .i64 (most : Int)] :: row 31 nb #[.slice ab d.length cb] :: slc 30 2 (.slice ab d.length cb) d.length (pv d) :: M)) := by
  have wm : IntKind.u64.wrap (most : Int) = (most : Int) := wrap_u64_in _ (by omega) (by omega)
  have mm : (if (most : Int) ≥ 0 then (most : Int) else 0) = (most : Int) := if_pos (by omega)
  go_enter Try.func141, Try.ntmps141
  go_wp2_with (first | (with_reducible refine wpl rfl (ldQ (ty := 121) rfl ?_); first | (with_reducible refine (Stp.ldo rfl agg121 rfl H (by assumption) (by assumption) ?_); simp only [pS]) | (with_reducible refine (Stp.ldc rfl agg121 rfl H mR cE ?_); simp only [pS])) | (with_reducible refine wpl rfl (ldQ (ty := 3) rfl ?_); first | (with_reducible refine (Stp.ldo rfl agg3 rfl H (by assumption) (by assumption) ?_); simp only [pS]) | (with_reducible refine (Stp.ldc rfl agg3 rfl H mR cE ?_); simp only [pS])))
  refine (numG_ok g s l 0 most hb (.cons _ (.cons _ (.cons _ hML))) _ H).mono ?_
  rintro e w1 ⟨v, rfl, rfl, s2, hb2, H2⟩
  clear H
  have hz2 := numF_most (most := most) (s := (l, 0))
  obtain ⟨⟨n, l1, e1⟩, hz⟩ : ∃ z, numF most (l, 0) = z := ⟨_, rfl⟩
  have HN0 := Lib.hid hz
  rw [hz] at H2 hb2 hz2 ⊢
  clear hz
  simp only at H2 hb2 hz2 ⊢
  have H := pids_permG (H2.nil 30 2)
  clear H2 hb
  go_wp2_with fail
  go_loopw [4] (fun i wr => ∃ (k : Nat) (s : Value) (l2 : List Nat) (e2 : Nat) (acc : List Pr) (a : Option Addr) (c : Nat), k ≤ n ∧ i = .int .u64 (k : Int) ∧ Hid (acc.length = k) ∧ Hid (pidsL (n - k) (acc, (l2, e2)) = pidsL n ([], (l1, e1))) ∧ Byt B w0 L s l2 ∧ St B w0 wr (row 144 g #[s, .int .i64 (e2 : Int)] :: row 121 rb #[.pointer (some ⟨g, 0, none⟩)] :: row 3 mb #[.int .i64 (most : Int)] :: row 31 nb #[.slice a k c] :: slc 30 2 (.slice a k c) k (pv acc) :: M)) (fun i _ => n - (intOf i).toNat)
  case atStart => exact ⟨0, s2, l1, e1, [], none, 0, Nat.zero_le _, rfl, Lib.hid rfl, Lib.hid rfl, hb2, H⟩
  case round =>
    clear H hb2
    obtain ⟨k, s3, l2, e2, acc, a, c, hk, rfl, HA, HP, hb3, H⟩ := hrel
    by_cases hlt : k < n
    · have kli : (k : Int) < (n : Int) := by omega
      by_cases he2 : e2 ≠ 0
      · have hei : ((e2 : Int) == 0) = false := by simp; omega
        have HR : Hid (pidsL n ([], (l1, e1)) = (acc, (l2, e2))) := Lib.hid (by rw [← HP.out]; exact pidsL_stop he2)
        clear he2
        go_wp2_with (first | (with_reducible refine wpl rfl (ldQ (ty := 121) rfl ?_); first | (with_reducible refine (Stp.ldo rfl agg121 rfl H (by assumption) (by assumption) ?_); simp only [pS]) | (with_reducible refine (Stp.ldc rfl agg121 rfl H mR cE ?_); simp only [pS])) | (with_reducible refine wpl rfl (ldQ (ty := 37) rfl ?_); first | (with_reducible refine (Stp.ldo rfl agg37 rfl H (by assumption) (by assumption) ?_); simp only [pS]) | (with_reducible refine (Stp.ldc rfl agg37 rfl H mR cE ?_); simp only [pS])))
        go_end0
        refine ⟨_, rfl, rfl, s3, l2, e2, a, c, acc, Lib.hid (by rw [HN0.out]; exact HR.out), hb3, ?_⟩
        rw [HA.out]; exact H
      · obtain rfl : e2 = 0 := by omega
        have hei : (((0 : Nat) : Int) == 0) = true := by simp
        have HP2 : Hid (pidsL (n - (k + 1)) (acc ++ [(pidF (l2, 0)).1], (pidF (l2, 0)).2) = pidsL n ([], (l1, e1))) := Lib.hid (by
          rw [← HP.out, show n - k = (n - (k + 1)) + 1 by omega]
          exact (if_neg (by simp)).symm)
        have HSN := Lib.hid (pv_snG acc (pidF (l2, 0)).1)
        obtain ⟨⟨⟨x, y⟩, l4, e4⟩, hz⟩ : ∃ z, pidF (l2, 0) = z := ⟨_, rfl⟩
        have HZ := Lib.hid hz
        rw [hz] at HP2 HSN
        simp only at HP2 HSN
        clear hz he2
        go_wp2_with (first | (with_reducible refine wpl rfl (ldQ (ty := 121) rfl ?_); first | (with_reducible refine (Stp.ldo rfl agg121 rfl H (by assumption) (by assumption) ?_); simp only [pS]) | (with_reducible refine (Stp.ldc rfl agg121 rfl H mR cE ?_); simp only [pS])) | (with_reducible refine wpl rfl (ldQ (ty := 37) rfl ?_); first | (with_reducible refine (Stp.ldo rfl agg37 rfl H (by assumption) (by assumption) ?_); simp only [pS]) | (with_reducible refine (Stp.ldc rfl agg37 rfl H mR cE ?_); simp only [pS])))
        refine rk_begin 5 6 (fun W => St B w0 W [row 121 rb #[.pointer (some ⟨g, 0, none⟩)], row 31 nb #[.slice a k c]]) rfl (by kernel_rfl) ?_
        replace H := H.drew
        have HS := H
        first | (refine rk_take (i := 0) rfl kR kR kR kR kR kR (Yld.ldc rfl rfl agg31 rfl mR cE) (H.sub sU) ?_; simp only [pS]) | (refine rk_take (i := 0) rfl kR kR kR kR kR kR (Yld.ldo rfl rfl agg31 rfl (by assumption) (by assumption)) (H.sub sU) ?_; simp only [pS])
        first | (refine rk_take (i := 1) rfl kR kR kR kR kR kR (Yld.ldc rfl rfl agg121 rfl mR cE) (H.sub sU) ?_; simp only [pS]) | (refine rk_take (i := 1) rfl kR kR kR kR kR kR (Yld.ldo rfl rfl agg121 rfl (by assumption) (by assumption)) (H.sub sU) ?_; simp only [pS])
        refine rk_one (i := 2) (by kernel_rfl) rfl rfl (fun K hK => ?_)
        refine wp_callf rfl ent123 (rpidG_ok g s3 l2 0 hb3 (by repeat (first | exact hML | apply List.Sublist.cons)) _ H) rfl (fun v w1 hr => ?_)
        obtain ⟨rfl, s4, hb4, H2⟩ := hr
        clear H
        have H := H2
        clear H2
        rw [HZ.out] at hb4 H ⊢
        simp only at hb4 H ⊢
        clear HS
        have HS := H
        refine hK.out _ _ (fun _ => (H.sub sU)) ?_
        clear hK K
        simp only [pS]
        refine rk_one (i := 3) (by kernel_rfl) rfl rfl (fun K hK => ?_)
        refine Stp.wp (Stp.bsl (e := 30) (cs := #[.int .u16 (x : Int), .int .u32 (y : Int)]) 25 rfl rfl (fun W => by kernel_rfl) H ?_)
        clear H
        intro g25 w1 H
        clear HS
        have HS := H
        refine hK.out _ _ (fun _ => (H.sub sU)) ?_
        clear hK K
        simp only [pS]
        refine rk_one (i := 4) (by kernel_rfl) rfl rfl (fun K hK => ?_)
        refine Stp.wp (Stp.app 26 rfl rfl Try.underlying31 info30 rfl (by decide) rfl rfl H (fun _ => uP) rfl (newN (H.getRow (t := 30) mE)) (by simp [Value.oneCell']) (by unfold maxLen; omega) (by omega) ?_)
        clear H
        intro a26 c26 w1 H
        simp only [List.toList_toArray] at H
        rw [← HSN.out] at H
        clear HS
        have HS := H
        refine hK.out _ _ (fun _ => (H.sub sU)) ?_
        clear hK K
        simp only [pS]
        refine rk_one (i := 5) (by kernel_rfl) rfl rfl (fun K hK => ?_)
        refine Stp.wp (Stp.stc rfl size31 rfl rfl rfl rfl H uP (by simp) ?_)
        clear H
        intro w1 H
        simp only [pE, nC, pS] at H
        clear HS
        have HS := H
        refine hK.out _ _ (fun h => by cases (show true = false from h)) ?_
        clear hK K
        simp only [pS]
        refine rk_done (by kernel_rfl) ?_
        go_wp2_with fail
        go_roundw
        case rel => exact ⟨k + 1, s4, l4, e4, acc ++ [(x, y)], a26, c26, by omega, by go_num, Lib.hid (by rw [List.length_append, HA.out]; rfl), HP2, hb4, H.sub sU⟩
        case measure => simp [intOf]; omega
    · obtain rfl : k = n := by omega
      have HR : Hid (pidsL k ([], (l1, e1)) = (acc, (l2, e2))) := Lib.hid (by rw [← HP.out, Nat.sub_self]; rfl)
      go_wp2_with fail
      go_end0
      refine ⟨_, rfl, rfl, s3, l2, e2, a, c, acc, Lib.hid (by rw [HN0.out]; exact HR.out), hb3, ?_⟩
      rw [HA.out]; exact H
theorem mPidsG_ok {B : Nat} {w0 : World} {L M : List Res} (g : Nat) (s : Value) (l : List Nat) (e most : Nat) (hb : Byt B w0 L s l) (hmo2 : most ≤ 100000) (hML : L.Sublist M) (w : World) (H : St B w0 w (row 144 g #[s, .int .i64 (e : Int)] :: M)) :
    Calls Try.prog 125 #[.pointer (some ⟨g, 0, none⟩), .int .i64 (most : Int)] w (Ret fun v w' => ∃ s' l' e' ab cb d, v = .slice ab d.length cb ∧ Hid (pidsF most (l, e) = (d, (l', e'))) ∧ Byt B w0 L s' l' ∧ St B w0 w' (row 144 g #[s', .int .i64 (e' : Int)] :: slc 30 2 (.slice ab d.length cb) d.length (pv d) :: M)) := by
  have hmf : ∀ (fn : Fn) (first cap : Array Value) (w : World), (Instr.makeFunc fn first cap).run Try.prog w = .ok (.func fn first cap) w := fun _ _ _ _ => rfl
  by_cases he : e ≠ 0
  · have HE := Lib.hid he
    have HBF : Hid (pidsF most (l, e) = ([], (l, e))) := Lib.hid (if_pos he)
    have hei : ((e : Int) != 0) = true := by simp; omega
    clear he
    go_enter Try.func125, Try.ntmps125
    go_wp2_with (first | (go_at_call 90; (with_reducible refine (wholeGPids_bad g e _ _ HE.out _ (H.getHeap mE)).mono ?_); rintro e w1 ⟨v, rfl, hr⟩; obtain ⟨rfl, hb1⟩ := hr; replace H := H.grow hb1; clear hb1) | (go_at_call 69; (with_reducible refine (rerr_ok _ _ _ _ (H.getHeap mE)).mono ?_); rintro e w1 ⟨v, rfl, hr⟩; obtain ⟨rfl, hb1⟩ := hr; replace H := H.grow hb1; clear hb1) | (with_reducible refine wpl rfl (dQ 2 rfl ?_); with_reducible refine (Stp.box 2 rfl rfl rfl H ?_); clear H; intro g2 w1 H; simp only [pS]; simp only [pE, nC, pS] at H) | (with_reducible refine wpl rfl (dQ 3 rfl ?_); with_reducible refine (Stp.box 3 rfl rfl rfl H ?_); clear H; intro g3 w1 H; simp only [pS]; simp only [pE, nC, pS] at H) | (with_reducible refine wpl rfl (dQ 4 rfl ?_); with_reducible refine (Stp.alloc 4 rfl rfl zero31 H ?_); clear H; intro g4 w1 H; simp only [pS]; simp only [nC] at H) | (with_reducible refine wpl rfl (ldQ (ty := 121) rfl ?_); first | (with_reducible refine (Stp.ldo rfl agg121 rfl H (by assumption) (by assumption) ?_); simp only [pS]) | (with_reducible refine (Stp.ldc rfl agg121 rfl H mR cE ?_); simp only [pS])) | (with_reducible refine wpl rfl (stQ (ty := 31) rfl ?_); first | (with_reducible refine (Stp.stc rfl size31 rfl rfl rfl rfl H uP (by first | omega | (simp; done) | (simp; omega)) ?_); clear H; intro w1 H; simp only [pS]; simp only [pE, nC, pS] at H)))
    have H5 : St B w0 _ (row 144 g #[s, .int .i64 (e : Int)] :: slc 30 2 (.slice none 0 0) 0 [] :: M) := (((H.nil 30 2).pull (r := row 144 g #[s, .int .i64 (e : Int)]) pU)).sub sU
    exact post_cellG rfl agg31 rfl H mE rfl ⟨_, rfl, s, l, e, none, 0, [], rfl, HBF, hb, H5⟩
  obtain rfl : e = 0 := by omega
  obtain ⟨A, m9, c9, rfl, e1, e2, e3, e4, e5⟩ := hb
  have HB : Hid (Byt B w0 L (.slice A m9 c9) l) := Lib.hid ⟨A, m9, c9, rfl, e1, e2, e3, e4, e5⟩
  clear e1 e2 e3 e4 e5 he
  go_enter Try.func125, Try.ntmps125
  go_wp2_with (first | (with_reducible refine wpl rfl (dQ 2 rfl ?_); with_reducible refine (Stp.box 2 rfl rfl rfl H ?_); clear H; intro g2 w1 H; simp only [pS]; simp only [pE, nC, pS] at H) | (with_reducible refine wpl rfl (dQ 3 rfl ?_); with_reducible refine (Stp.box 3 rfl rfl rfl H ?_); clear H; intro g3 w1 H; simp only [pS]; simp only [pE, nC, pS] at H) | (with_reducible refine wpl rfl (dQ 4 rfl ?_); with_reducible refine (Stp.alloc 4 rfl rfl zero31 H ?_); clear H; intro g4 w1 H; simp only [pS]; simp only [nC] at H) | (with_reducible refine wpl rfl (ldQ (ty := 121) rfl ?_); first | (with_reducible refine (Stp.ldo rfl agg121 rfl H (by assumption) (by assumption) ?_); simp only [pS]) | (with_reducible refine (Stp.ldc rfl agg121 rfl H mR cE ?_); simp only [pS])))
  refine (wholeGPids_ok g A m9 c9 #[.pointer (some ⟨g2, 0, none⟩), .pointer (some ⟨g3, 0, none⟩), .pointer (some ⟨g4, 0, none⟩)] (fun s' e' Z => ∃ l' ab cb d, Hid (pidsL (numF most (l, 0)).1 ([], (numF most (l, 0)).2) = (d, (l', e'))) ∧ Byt B w0 L s' l' ∧ Z = row 121 g2 #[.pointer (some ⟨g, 0, none⟩)] :: row 3 g3 #[.int .i64 (most : Int)] :: row 31 g4 #[.slice ab d.length cb] :: slc 30 2 (.slice ab d.length cb) d.length (pv d) :: M) (fun M' w1 H1 => ?_) _ (rev4G H)).mono ?_
  · refine (pidscG_ok g g2 g3 g4 _ l most HB.out hmo2 (hML.trans (List.sublist_append_left M M')) w1 H1).mono ?_
    rintro e w2 ⟨v, rfl, rfl, s2, l', e', ab, cb, d, h1, h2, H2⟩
    exact ⟨_, rfl, rfl, s2, e', _, ⟨l', ab, cb, d, h1, h2, rfl⟩, H2⟩
  rintro e w1 ⟨v, rfl, rfl, s3, e', Z, ⟨l', ab, cb, d, h1, h2, rfl⟩, hor⟩
  clear H
  have hpf : pidsF most (l, 0) = if e' ≠ 0 then ([], (l, e')) else (d, (l', e')) := by
    unfold pidsF
    rw [if_neg (by simp), h1.out]
  rcases hor with ⟨rfl, H⟩ | ⟨he, H⟩
  · have HPF : Hid (pidsF most (l, 0) = (d, (l', 0))) := Lib.hid (by rw [hpf, if_neg (by simp)])
    clear hpf
    go_wp2_with (first | (go_at_call 69; (with_reducible refine (rerr_ok _ _ _ _ (H.getHeap mE)).mono ?_); rintro e w1 ⟨v, rfl, hr⟩; obtain ⟨rfl, hb1⟩ := hr; replace H := H.grow hb1; clear hb1) | (with_reducible refine wpl rfl (ldQ (ty := 121) rfl ?_); first | (with_reducible refine (Stp.ldo rfl agg121 rfl H (by assumption) (by assumption) ?_); simp only [pS]) | (with_reducible refine (Stp.ldc rfl agg121 rfl H mR cE ?_); simp only [pS])) | (with_reducible refine wpl rfl (stQ (ty := 31) rfl ?_); first | (with_reducible refine (Stp.stc rfl size31 rfl rfl rfl rfl H uP (by first | omega | (simp; done) | (simp; omega)) ?_); clear H; intro w1 H; simp only [pS]; simp only [pE, nC, pS] at H)) | (with_reducible refine wpl rfl (ldQ (ty := 31) rfl ?_); first | (with_reducible refine (Stp.ldo rfl agg31 rfl H (by assumption) (by assumption) ?_); simp only [pS]) | (with_reducible refine (Stp.ldc rfl agg31 rfl H mR cE ?_); simp only [pS])))
    exact post_cellG rfl agg31 rfl H mE rfl ⟨_, rfl, s3, l', 0, ab, cb, d, rfl, HPF, h2, H.sub sU⟩
  · have HPF : Hid (pidsF most (l, 0) = ([], (l, e'))) := Lib.hid (by rw [hpf, if_pos he])
    have hei : ((e' : Int) != 0) = true := by simp; omega
    clear hpf h2 he
    go_wp2_with (first | (go_at_call 69; (with_reducible refine (rerr_ok _ _ _ _ (H.getHeap mE)).mono ?_); rintro e w1 ⟨v, rfl, hr⟩; obtain ⟨rfl, hb1⟩ := hr; replace H := H.grow hb1; clear hb1) | (with_reducible refine wpl rfl (ldQ (ty := 121) rfl ?_); first | (with_reducible refine (Stp.ldo rfl agg121 rfl H (by assumption) (by assumption) ?_); simp only [pS]) | (with_reducible refine (Stp.ldc rfl agg121 rfl H mR cE ?_); simp only [pS])) | (with_reducible refine wpl rfl (stQ (ty := 31) rfl ?_); first | (with_reducible refine (Stp.stc rfl size31 rfl rfl rfl rfl H uP (by first | omega | (simp; done) | (simp; omega)) ?_); clear H; intro w1 H; simp only [pS]; simp only [pE, nC, pS] at H)))
    have H5 : St B w0 _ (row 144 g #[.slice A m9 c9, .int .i64 (e' : Int)] :: slc 30 2 (.slice none 0 0) 0 [] :: M) := (((H.nil 30 2).pull (r := row 144 g #[.slice A m9 c9, .int .i64 (e' : Int)]) pU)).sub sU
    exact post_cellG rfl agg31 rfl H mE rfl ⟨_, rfl, _, l, e', none, 0, [], rfl, HPF, HB.out, H5⟩
end Go.Proofs.Ytmokecicjmjkbaa
namespace Go.Proofs.Ytmokecicjmjkbaa
open Go.ChangeShapes Go.WideShapes Go.ChangeAt Go.RowKit Go.Deep
set_option linter.unusedVariables false
set_option linter.unusedSimpArgs false
set_option linter.unusedSectionVars false
set_option maxRecDepth 100000
set_option maxHeartbeats 2000000
section
variable {P : Program} {ops : Array Oper} {a : Act} {o : Oper} {w : World} {N : Act → World → Prop}
theorem Stp.sltoG {ty e : TypeId} {x y : Operand} {A : Option Addr} {n c k : Nat} {kd : IntKind} {z : Int} (d : Tmp) (hd : o.dst = some d) (ho : o.op = .slice ty x none (some y) none) (ht : P.underlying ty = some (.slice e)) (hs : ∀ W : World, (sizeOf e).run P W = .ok 1 W)
    (hx : a.eval x = .slice A n c) (hy : a.eval y = .int kd z) (hz : z = (k : Int)) (hk : k ≤ c) (h : N (a.put (some d) (.slice A k c)) w) : Stp P o a w N := by
  rw [← hd] at h
  subst hz
  refine ⟨w, .inl ⟨_, ?_, h⟩⟩
  unfold execOp; simp only [ho]
  simp [hx, hy, Instr.sliceAt, run_underlying ht, run_toG ht hs hk]
end
theorem rrNum_ok {B : Nat} {w0 : World} {L M : List Res} (g : Nat) (s : Value) (l : List Nat) (e most : Nat) (hb : Byt B w0 L s l) (hML : L.Sublist M) (w : World) (H : St B w0 w (row 129 g #[s, .int .i64 (e : Int)] :: M)) :
    Calls Try.prog 72 #[.pointer (some ⟨g, 0, none⟩), .int .u64 (most : Int)] w (Ret fun v w' => v = .int .u64 ((numF most (l, e)).1 : Int) ∧ ∃ s', Byt B w0 L s' (numF most (l, e)).2.1 ∧ St B w0 w' (row 129 g #[s', .int .i64 ((numF most (l, e)).2.2 : Int)] :: M)) := by
  by_cases he : e ≠ 0
  · have hei : ((e : Int) != 0) = true := by simp; omega
    rw [numF_bad he]
    clear he
    go_enter Try.func72, Try.ntmps72
    go_wp2_with (first | (with_reducible refine wpl rfl (ldQ (ty := 3) rfl ?_); first | (with_reducible refine (Stp.ldo rfl agg3 rfl H (by assumption) (by assumption) ?_); simp only [pS]) | (with_reducible refine (Stp.ldc rfl agg3 rfl H mR cE ?_); simp only [pS])) | (with_reducible refine wpl rfl (ldQ (ty := 22) rfl ?_); first | (with_reducible refine (Stp.ldo rfl agg22 rfl H (by assumption) (by assumption) ?_); simp only [pS]) | (with_reducible refine (Stp.ldc rfl agg22 rfl H mR cE ?_); simp only [pS])) | (with_reducible refine wpl rfl (stQ (ty := 3) rfl ?_); first | (with_reducible refine (Stp.stc rfl size3 rfl rfl rfl rfl H uP (by first | omega | (simp; done) | (simp; omega)) ?_); clear H; intro w1 H; simp only [pS]; simp only [pE, nC, pS] at H)) | (with_reducible refine wpl rfl (stQ (ty := 22) rfl ?_); first | (with_reducible refine (Stp.stc rfl size22 rfl rfl rfl rfl H uP (by first | omega | (simp; done) | (simp; omega)) ?_); clear H; intro w1 H; simp only [pS]; simp only [pE, nC, pS] at H)))
    go_ret
    exact ⟨_, rfl, rfl, s, hb, H⟩
  obtain rfl : e = 0 := by omega
  have hei : (((0 : Nat) : Int) != 0) = false := by simp
  clear he
  obtain ⟨a, b, c, hg⟩ : ∃ a b c, gs l 10 0 0 = (a, b, c) := ⟨_, _, _, rfl⟩
  have hb0 := hb
  obtain ⟨A, m, cc, rfl, hlm, hmc, hx, hm1, hrd⟩ := hb
  have hle := gs_le l 10 0 0 a b c hg
  have HG := Lib.hid hg
  have HX := Lib.hid hx
  have HL := Lib.hid hlm
  clear hx hlm
  by_cases hc : c ≠ 0
  · have hci : ((c : Int) != 0) = true := by simp; omega
    have hci2 : ((c : Int) == 0) = false := by simp; omega
    rw [numF_err hg hc]
    clear hc hle hg
    go_enter Try.func72, Try.ntmps72
    go_wp2_with (first | (go_at_call 97; (with_reducible refine (rgetshort_ok _ l (by have := HL.out; omega) HX.out _ (hrd.at H (.cons _ hML)) a b c HG.out).mono ?_); rintro e w1 ⟨v, rfl, hr⟩; obtain ⟨rfl, hb1⟩ := hr; replace H := H.grow hb1; clear hb1) | (with_reducible refine wpl rfl (ldQ (ty := 3) rfl ?_); first | (with_reducible refine (Stp.ldo rfl agg3 rfl H (by assumption) (by assumption) ?_); simp only [pS]) | (with_reducible refine (Stp.ldc rfl agg3 rfl H mR cE ?_); simp only [pS])) | (with_reducible refine wpl rfl (ldQ (ty := 22) rfl ?_); first | (with_reducible refine (Stp.ldo rfl agg22 rfl H (by assumption) (by assumption) ?_); simp only [pS]) | (with_reducible refine (Stp.ldc rfl agg22 rfl H mR cE ?_); simp only [pS])) | (with_reducible refine wpl rfl (stQ (ty := 3) rfl ?_); first | (with_reducible refine (Stp.stc rfl size3 rfl rfl rfl rfl H uP (by first | omega | (simp; done) | (simp; omega)) ?_); clear H; intro w1 H; simp only [pS]; simp only [pE, nC, pS] at H)) | (with_reducible refine wpl rfl (stQ (ty := 22) rfl ?_); first | (with_reducible refine (Stp.stc rfl size22 rfl rfl rfl rfl H uP (by first | omega | (simp; done) | (simp; omega)) ?_); clear H; intro w1 H; simp only [pS]; simp only [pE, nC, pS] at H)))
    go_ret
    exact ⟨_, rfl, rfl, _, hb0, H⟩
  obtain rfl : c = 0 := by omega
  have hci : (((0 : Nat) : Int) != 0) = false := by simp
  have hci2 : (((0 : Nat) : Int) == 0) = true := by simp
  by_cases hm : most < a
  · have hmi : (most : Int) < (a : Int) := by omega
    rw [numF_long hg hm]
    clear hc hle hg hm
    go_enter Try.func72, Try.ntmps72
    go_wp2_with (first | (go_at_call 97; (with_reducible refine (rgetshort_ok _ l (by have := HL.out; omega) HX.out _ (hrd.at H (.cons _ hML)) a b 0 HG.out).mono ?_); rintro e w1 ⟨v, rfl, hr⟩; obtain ⟨rfl, hb1⟩ := hr; replace H := H.grow hb1; clear hb1) | (with_reducible refine wpl rfl (ldQ (ty := 3) rfl ?_); first | (with_reducible refine (Stp.ldo rfl agg3 rfl H (by assumption) (by assumption) ?_); simp only [pS]) | (with_reducible refine (Stp.ldc rfl agg3 rfl H mR cE ?_); simp only [pS])) | (with_reducible refine wpl rfl (ldQ (ty := 22) rfl ?_); first | (with_reducible refine (Stp.ldo rfl agg22 rfl H (by assumption) (by assumption) ?_); simp only [pS]) | (with_reducible refine (Stp.ldc rfl agg22 rfl H mR cE ?_); simp only [pS])) | (with_reducible refine wpl rfl (stQ (ty := 3) rfl ?_); first | (with_reducible refine (Stp.stc rfl size3 rfl rfl rfl rfl H uP (by first | omega | (simp; done) | (simp; omega)) ?_); clear H; intro w1 H; simp only [pS]; simp only [pE, nC, pS] at H)) | (with_reducible refine wpl rfl (stQ (ty := 22) rfl ?_); first | (with_reducible refine (Stp.stc rfl size22 rfl rfl rfl rfl H uP (by first | omega | (simp; done) | (simp; omega)) ?_); clear H; intro w1 H; simp only [pS]; simp only [pE, nC, pS] at H)))
    go_ret
    exact ⟨_, rfl, rfl, _, hb0, H⟩
  · have hmi : ¬ (most : Int) < (a : Int) := by omega
    have hbm : b ≤ m := by have := (hle.2 rfl).2; have := HL.out; omega
    rw [numF_ok hg hm]
    clear hc hle hg hm
    go_enter Try.func72, Try.ntmps72
    go_wp2_with (first | (go_at_call 97; (with_reducible refine (rgetshort_ok _ l (by have := HL.out; omega) HX.out _ (hrd.at H (.cons _ hML)) a b 0 HG.out).mono ?_); rintro e w1 ⟨v, rfl, hr⟩; obtain ⟨rfl, hb1⟩ := hr; replace H := H.grow hb1; clear hb1) | (with_reducible refine wpl rfl (dQ 41 rfl ?_); with_reducible refine (Stp.slfrom (k := b) 41 rfl rfl Try.underlying22 size5 rfl rfl (by omega) (by omega) ?_); intro A8 hA8; have H8 := Lib.hid hA8; clear hA8; simp only [pS]) | (with_reducible refine wpl rfl (ldQ (ty := 3) rfl ?_); first | (with_reducible refine (Stp.ldo rfl agg3 rfl H (by assumption) (by assumption) ?_); simp only [pS]) | (with_reducible refine (Stp.ldc rfl agg3 rfl H mR cE ?_); simp only [pS])) | (with_reducible refine wpl rfl (ldQ (ty := 22) rfl ?_); first | (with_reducible refine (Stp.ldo rfl agg22 rfl H (by assumption) (by assumption) ?_); simp only [pS]) | (with_reducible refine (Stp.ldc rfl agg22 rfl H mR cE ?_); simp only [pS])) | (with_reducible refine wpl rfl (stQ (ty := 3) rfl ?_); first | (with_reducible refine (Stp.stc rfl size3 rfl rfl rfl rfl H uP (by first | omega | (simp; done) | (simp; omega)) ?_); clear H; intro w1 H; simp only [pS]; simp only [pE, nC, pS] at H)) | (with_reducible refine wpl rfl (stQ (ty := 22) rfl ?_); first | (with_reducible refine (Stp.stc rfl size22 rfl rfl rfl rfl H uP (by first | omega | (simp; done) | (simp; omega)) ?_); clear H; intro w1 H; simp only [pS]; simp only [pE, nC, pS] at H)))
    go_ret
    exact ⟨_, rfl, rfl, _, Byt.drop HL.out hmc HX.out hm1 hrd hbm H8.out rfl, H⟩
theorem rrEnd_ok {B : Nat} {w0 : World} {L M : List Res} (g : Nat) (s : Value) (l : List Nat) (e : Nat) (hb : Byt B w0 L s l) (w : World) (H : St B w0 w (row 129 g #[s, .int .i64 (e : Int)] :: M)) :
    Calls Try.prog 74 #[.pointer (some ⟨g, 0, none⟩)] w (Ret fun v w' => v = .int .i64 (endF (l, e) : Int) ∧ St B w0 w' (row 129 g #[s, .int .i64 (e : Int)] :: M)) := by
  obtain ⟨A, m, cc, rfl, hlm, hmc, hx, hm1, hrd⟩ := hb
  by_cases he : e ≠ 0
  · have hei : ((e : Int) == 0) = false := by simp; omega
    have HV : Hid (endF (l, e) = e) := Lib.hid (if_pos he)
    clear he hlm hx hrd
    go_enter Try.func74, Try.ntmps74
    go_wp2_with (first | (with_reducible refine wpl rfl (ldQ (ty := 3) rfl ?_); first | (with_reducible refine (Stp.ldo rfl agg3 rfl H (by assumption) (by assumption) ?_); simp only [pS]) | (with_reducible refine (Stp.ldc rfl agg3 rfl H mR cE ?_); simp only [pS])) | (with_reducible refine wpl rfl (ldQ (ty := 22) rfl ?_); first | (with_reducible refine (Stp.ldo rfl agg22 rfl H (by assumption) (by assumption) ?_); simp only [pS]) | (with_reducible refine (Stp.ldc rfl agg22 rfl H mR cE ?_); simp only [pS])))
    go_ret
    exact ⟨_, rfl, by rw [HV.out]; rfl, H⟩
  obtain rfl : e = 0 := by omega
  have hei : (((0 : Nat) : Int) == 0) = true := by simp
  by_cases hm : 0 < m
  · have hmi : (0 : Int) < (m : Int) := by omega
    have HV : Hid (endF (l, 0) = 5) := Lib.hid (by unfold endF; rw [if_neg (by simp), if_pos (by rw [hlm]; exact hm)])
    clear he hlm hx hrd hm
    go_enter Try.func74, Try.ntmps74
    go_wp2_with (first | (with_reducible refine wpl rfl (ldQ (ty := 3) rfl ?_); first | (with_reducible refine (Stp.ldo rfl agg3 rfl H (by assumption) (by assumption) ?_); simp only [pS]) | (with_reducible refine (Stp.ldc rfl agg3 rfl H mR cE ?_); simp only [pS])) | (with_reducible refine wpl rfl (ldQ (ty := 22) rfl ?_); first | (with_reducible refine (Stp.ldo rfl agg22 rfl H (by assumption) (by assumption) ?_); simp only [pS]) | (with_reducible refine (Stp.ldc rfl agg22 rfl H mR cE ?_); simp only [pS])))
    go_ret
    exact ⟨_, rfl, by rw [HV.out]; rfl, H⟩
  · have hmi : ¬ (0 : Int) < (m : Int) := by omega
    have HV : Hid (endF (l, 0) = 0) := Lib.hid (by unfold endF; rw [if_neg (by simp), if_neg (by rw [hlm]; exact hm)])
    clear he hlm hx hrd hm
    go_enter Try.func74, Try.ntmps74
    go_wp2_with (first | (with_reducible refine wpl rfl (ldQ (ty := 3) rfl ?_); first | (with_reducible refine (Stp.ldo rfl agg3 rfl H (by assumption) (by assumption) ?_); simp only [pS]) | (with_reducible refine (Stp.ldc rfl agg3 rfl H mR cE ?_); simp only [pS])) | (with_reducible refine wpl rfl (ldQ (ty := 22) rfl ?_); first | (with_reducible refine (Stp.ldo rfl agg22 rfl H (by assumption) (by assumption) ?_); simp only [pS]) | (with_reducible refine (Stp.ldc rfl agg22 rfl H mR cE ?_); simp only [pS])))
    go_ret
    exact ⟨_, rfl, by rw [HV.out]; rfl, H⟩
theorem rrBytes_ok {B : Nat} {w0 : World} {L M : List Res} (g : Nat) (s : Value) (l : List Nat) (e most : Nat) (hb : Byt B w0 L s l) (hmo2 : most ≤ 100000) (hML : L.Sublist M) (w : World) (H : St B w0 w (row 129 g #[s, .int .i64 (e : Int)] :: M)) :
    Calls Try.prog 99 #[.pointer (some ⟨g, 0, none⟩), .int .i64 (most : Int)] w (Ret fun v w' => ∃ s' ab cb d e', v = .slice ab d.length cb ∧ bytesF most (l, e) = (d, ((bytesF most (l, e)).2.1, e')) ∧ Byt B w0 L s' (bytesF most (l, e)).2.1 ∧ St B w0 w' (row 129 g #[s', .int .i64 (e' : Int)] :: slc 5 1 (.slice ab d.length cb) d.length (bv d) :: M)) := by
  have wm : IntKind.u64.wrap (most : Int) = (most : Int) := wrap_u64_in _ (by omega) (by omega)
  have mm : (if (most : Int) ≥ 0 then (most : Int) else 0) = (most : Int) := if_pos (by omega)
  have HB := Lib.hid hb
  obtain ⟨A0, m0, cc0, rfl, _⟩ := hb
  go_enter Try.func99, Try.ntmps99
  go_upto_region 3 with (first | (go_at_call 72; (with_reducible refine (rrNum_ok g _ l e most HB.out hML _ H).mono ?_); rintro e w1 ⟨v, rfl, hr⟩; obtain ⟨rfl, s2, hb2, H2⟩ := hr; clear H; have H := H2; clear H2) | (with_reducible refine wpl rfl (ldQ (ty := 22) rfl ?_); first | (with_reducible refine (Stp.ldo rfl agg22 rfl H (by assumption) (by assumption) ?_); simp only [pS]) | (with_reducible refine (Stp.ldc rfl agg22 rfl H mR cE ?_); simp only [pS])) | (with_reducible refine wpl rfl (ldQ (ty := 3) rfl ?_); first | (with_reducible refine (Stp.ldo rfl agg3 rfl H (by assumption) (by assumption) ?_); simp only [pS]) | (with_reducible refine (Stp.ldc rfl agg3 rfl H mR cE ?_); simp only [pS])) | (with_reducible refine wpl rfl (stQ (ty := 3) rfl ?_); first | (with_reducible refine (Stp.stc rfl size3 rfl rfl rfl rfl H uP (by first | omega | (simp; done) | (simp; omega)) ?_); clear H; intro w1 H; simp only [pS]; simp only [pE, nC, pS] at H)) | (with_reducible refine wpl rfl (stQ (ty := 22) rfl ?_); first | (with_reducible refine (Stp.stc rfl size22 rfl rfl rfl rfl H uP (by first | omega | (simp; done) | (simp; omega)) ?_); clear H; intro w1 H; simp only [pS]; simp only [pE, nC, pS] at H)))
  have hz1 := numF_zero (most := most) (s := (l, e))
  have hz2 := numF_most (most := most) (s := (l, e))
  have hBF : bytesF most (l, e) = if (numF most (l, e)).2.2 ≠ 0 then ([], (l, (numF most (l, e)).2.2)) else if (numF most (l, e)).2.1.length < (numF most (l, e)).1 then ([], (l, 2)) else ((numF most (l, e)).2.1.take (numF most (l, e)).1, ((numF most (l, e)).2.1.drop (numF most (l, e)).1, 0)) := by
    by_cases he : e ≠ 0
    · rw [numF_bad he]
      unfold bytesF
      rw [if_pos he, if_pos he]
    · unfold bytesF
      rw [if_neg he]
  obtain ⟨⟨n1, l1, e1⟩, hz⟩ : ∃ z, numF most (l, e) = z := ⟨_, rfl⟩
  rw [hz] at hz1 hz2 hBF hb2 H ⊢
  simp only at hz1 hz2 hBF hb2 H ⊢
  clear hz
  obtain ⟨A, m, c, rfl, hlm, hmc, hx, hm1, hrd⟩ := hb2
  have wm2 : IntKind.u64.wrap (m : Int) = (m : Int) := wrap_u64_in _ (by omega) (by omega)
  by_cases he1 : e1 ≠ 0
  · have hn0 := hz1 he1
    subst hn0
    rw [if_pos he1] at hBF
    have HBF := Lib.hid hBF
    have hei : ((e1 : Int) == 0) = false := by simp; omega
    have hei2 : ((e1 : Int) != 0) = true := by simp; omega
    clear hz1 hz2 hBF he1 hlm hx hrd
    go_wp2_with (first | (with_reducible refine wpl rfl (ldQ (ty := 22) rfl ?_); first | (with_reducible refine (Stp.ldo rfl agg22 rfl H (by assumption) (by assumption) ?_); simp only [pS]) | (with_reducible refine (Stp.ldc rfl agg22 rfl H mR cE ?_); simp only [pS])) | (with_reducible refine wpl rfl (ldQ (ty := 3) rfl ?_); first | (with_reducible refine (Stp.ldo rfl agg3 rfl H (by assumption) (by assumption) ?_); simp only [pS]) | (with_reducible refine (Stp.ldc rfl agg3 rfl H mR cE ?_); simp only [pS])) | (with_reducible refine wpl rfl (stQ (ty := 3) rfl ?_); first | (with_reducible refine (Stp.stc rfl size3 rfl rfl rfl rfl H uP (by first | omega | (simp; done) | (simp; omega)) ?_); clear H; intro w1 H; simp only [pS]; simp only [pE, nC, pS] at H)) | (with_reducible refine wpl rfl (stQ (ty := 22) rfl ?_); first | (with_reducible refine (Stp.stc rfl size22 rfl rfl rfl rfl H uP (by first | omega | (simp; done) | (simp; omega)) ?_); clear H; intro w1 H; simp only [pS]; simp only [pE, nC, pS] at H)))
    go_ret
    exact ⟨_, rfl, _, none, 0, [], e1, rfl, by rw [HBF.out], by rw [HBF.out]; exact HB.out, (H.nil 5 1).perm (.swap _ _ _)⟩
  obtain rfl : e1 = 0 := by omega
  rw [if_neg (by simp)] at hBF
  clear hz1 he1
  by_cases hlt : l1.length < n1
  · rw [if_pos hlt] at hBF
    have HBF := Lib.hid hBF
    rw [hlm] at hlt
    have hdm : (m : Int) < (n1 : Int) := by omega
    clear hBF hlt hlm hx hrd hz2
    go_wp2_with (first | (with_reducible refine wpl rfl (ldQ (ty := 22) rfl ?_); first | (with_reducible refine (Stp.ldo rfl agg22 rfl H (by assumption) (by assumption) ?_); simp only [pS]) | (with_reducible refine (Stp.ldc rfl agg22 rfl H mR cE ?_); simp only [pS])) | (with_reducible refine wpl rfl (ldQ (ty := 3) rfl ?_); first | (with_reducible refine (Stp.ldo rfl agg3 rfl H (by assumption) (by assumption) ?_); simp only [pS]) | (with_reducible refine (Stp.ldc rfl agg3 rfl H mR cE ?_); simp only [pS])) | (with_reducible refine wpl rfl (stQ (ty := 3) rfl ?_); first | (with_reducible refine (Stp.stc rfl size3 rfl rfl rfl rfl H uP (by first | omega | (simp; done) | (simp; omega)) ?_); clear H; intro w1 H; simp only [pS]; simp only [pE, nC, pS] at H)) | (with_reducible refine wpl rfl (stQ (ty := 22) rfl ?_); first | (with_reducible refine (Stp.stc rfl size22 rfl rfl rfl rfl H uP (by first | omega | (simp; done) | (simp; omega)) ?_); clear H; intro w1 H; simp only [pS]; simp only [pE, nC, pS] at H)))
    go_ret
    exact ⟨_, rfl, _, none, 0, [], 2, rfl, by rw [HBF.out], by rw [HBF.out]; exact HB.out, (H.nil 5 1).perm (.swap _ _ _)⟩
  · rw [if_neg hlt] at hBF
    have HBF := Lib.hid hBF
    have hkm : n1 ≤ m := by omega
    obtain ⟨d, hd⟩ : ∃ d, l1.take n1 = d := ⟨_, rfl⟩
    have hdl : d.length = n1 := by rw [← hd, List.length_take]; omega
    have hdm : ¬ (m : Int) < (n1 : Int) := by omega
    have HX := Lib.hid hx
    have HL := Lib.hid hlm
    have HD := Lib.hid hd
    subst hdl
    clear hx hlm hd hBF hlt
    go_upto_region 8 with (first | (with_reducible refine wpl rfl (ldQ (ty := 22) rfl ?_); first | (with_reducible refine (Stp.ldo rfl agg22 rfl H (by assumption) (by assumption) ?_); simp only [pS]) | (with_reducible refine (Stp.ldc rfl agg22 rfl H mR cE ?_); simp only [pS])) | (with_reducible refine wpl rfl (ldQ (ty := 3) rfl ?_); first | (with_reducible refine (Stp.ldo rfl agg3 rfl H (by assumption) (by assumption) ?_); simp only [pS]) | (with_reducible refine (Stp.ldc rfl agg3 rfl H mR cE ?_); simp only [pS])) | (with_reducible refine wpl rfl (stQ (ty := 3) rfl ?_); first | (with_reducible refine (Stp.stc rfl size3 rfl rfl rfl rfl H uP (by first | omega | (simp; done) | (simp; omega)) ?_); clear H; intro w1 H; simp only [pS]; simp only [pE, nC, pS] at H)) | (with_reducible refine wpl rfl (stQ (ty := 22) rfl ?_); first | (with_reducible refine (Stp.stc rfl size22 rfl rfl rfl rfl H uP (by first | omega | (simp; done) | (simp; omega)) ?_); clear H; intro w1 H; simp only [pS]; simp only [pE, nC, pS] at H)))
    have hrt := hrd.takeG HL.out hkm HD.out
    have HRT := Lib.hid hrt
    have HRD := Lib.hid hrd
    clear hrt hrd
    go_wp2_with (first | (with_reducible refine wpl rfl (dQ 44 rfl ?_); with_reducible refine (Stp.bsl0N (e := 5) (size := 1) 44 rfl rfl (fun W => by kernel_rfl) H ?_); clear H; intro a44 c44 w1 H; simp only [pS]) | (with_reducible refine wpl rfl (dQ 50 rfl ?_); with_reducible refine (Stp.sltoG (A := A) (k := d.length) 50 rfl rfl Try.underlying22 size5 rfl rfl rfl hkm ?_); simp only [pS]) | (with_reducible refine wpl rfl (dQ 51 rfl ?_); with_reducible refine (Stp.apps 51 rfl rfl Try.underlying22 info5 rfl (by decide) rfl rfl H (fun _ => uP) ((bv_len d).trans (Nat.mul_one _).symm) (Sl.src (HRT.out.at H (by repeat (first | exact hML | apply List.Sublist.cons)))) (bv_one d) (by unfold maxLen; omega) (by omega) ?_); clear H; intro a51 c51 w1 H; simp only [pS]; simp only [Nat.zero_add, List.nil_append] at H ⊢) | (with_reducible refine wpl rfl (dQ 58 rfl ?_); with_reducible refine (Stp.slfrom (k := d.length) 58 rfl rfl Try.underlying22 size5 rfl rfl (by omega) (by omega) ?_); intro A8 hA8; have H8 := Lib.hid hA8; clear hA8; simp only [pS]) | (with_reducible refine wpl rfl (ldQ (ty := 22) rfl ?_); first | (with_reducible refine (Stp.ldo rfl agg22 rfl H (by assumption) (by assumption) ?_); simp only [pS]) | (with_reducible refine (Stp.ldc rfl agg22 rfl H mR cE ?_); simp only [pS])) | (with_reducible refine wpl rfl (ldQ (ty := 3) rfl ?_); first | (with_reducible refine (Stp.ldo rfl agg3 rfl H (by assumption) (by assumption) ?_); simp only [pS]) | (with_reducible refine (Stp.ldc rfl agg3 rfl H mR cE ?_); simp only [pS])) | (with_reducible refine wpl rfl (stQ (ty := 3) rfl ?_); first | (with_reducible refine (Stp.stc rfl size3 rfl rfl rfl rfl H uP (by first | omega | (simp; done) | (simp; omega)) ?_); clear H; intro w1 H; simp only [pS]; simp only [pE, nC, pS] at H)) | (with_reducible refine wpl rfl (stQ (ty := 22) rfl ?_); first | (with_reducible refine (Stp.stc rfl size22 rfl rfl rfl rfl H uP (by first | omega | (simp; done) | (simp; omega)) ?_); clear H; intro w1 H; simp only [pS]; simp only [pE, nC, pS] at H)))
    go_ret
    exact ⟨_, rfl, _, _, _, d, rfl, 0, by rw [HBF.out, HD.out], by rw [HBF.out]; exact Byt.drop HL.out hmc HX.out hm1 HRD.out hkm H8.out rfl, H.perm (.swap _ _ _)⟩
end Go.Proofs.Ytmokecicjmjkbaa
namespace Go.Proofs.Ytmokecicjmjkbaa
open Go.ChangeShapes Go.WideShapes Go.ChangeAt Go.RowKit Go.Deep
set_option linter.unusedVariables false
set_option linter.unusedSimpArgs false
set_option linter.unusedSectionVars false
set_option maxRecDepth 100000
set_option maxHeartbeats 2000000
theorem rrPid_ok {B : Nat} {w0 : World} {L M : List Res} (g : Nat) (s : Value) (l : List Nat) (e : Nat) (hb : Byt B w0 L s l) (hML : L.Sublist M) (w : World) (H : St B w0 w (row 129 g #[s, .int .i64 (e : Int)] :: M)) :
    Calls Try.prog 98 #[.pointer (some ⟨g, 0, none⟩)] w (Ret fun v w' => v = .agg #[.int .u16 ((pidF (l, e)).1.1 : Int), .int .u32 ((pidF (l, e)).1.2 : Int)] ∧ ∃ s', Byt B w0 L s' (pidF (l, e)).2.1 ∧ St B w0 w' (row 129 g #[s', .int .i64 ((pidF (l, e)).2.2 : Int)] :: M)) := by
  by_cases he : e ≠ 0
  · have hei : ((e : Int) != 0) = true := by simp; omega
    rw [pidF_bad he]
    clear he
    go_enter Try.func98, Try.ntmps98
    go_wp2_with (first | (with_reducible refine wpl rfl (dQ 2 rfl ?_); with_reducible refine (Stp.alloc 2 rfl rfl zero30 H ?_); clear H; intro g2 w1 H; simp only [pS]; simp only [nC] at H) | (with_reducible refine wpl rfl (ldQ (ty := 3) rfl ?_); first | (with_reducible refine (Stp.ldo rfl agg3 rfl H (by assumption) (by assumption) ?_); simp only [pS]) | (with_reducible refine (Stp.ldc rfl agg3 rfl H mR cE ?_); simp only [pS])) | (with_reducible refine wpl rfl (stQ (ty := 30) rfl ?_); first | (with_reducible refine (Stp.str rfl size30 rfl rfl (by first | rfl | (simp [Value.oneCell']; done) | assumption) H uP sZ sZ ?_); clear H; intro w1 H; simp only [pS]) | (with_reducible refine (Stp.stl rfl size30 rfl rfl rfl rfl H uP (by simp) ?_); clear H; intro w1 H; simp only [pS]; simp only [List.drop_succ_cons, List.drop_zero, List.take_succ_cons, List.take_zero, List.nil_append, List.cons_append, Nat.reduceAdd] at H)) | (with_reducible refine wpl rfl (ldQ (ty := 22) rfl ?_); first | (with_reducible refine (Stp.ldo rfl agg22 rfl H (by assumption) (by assumption) ?_); simp only [pS]) | (with_reducible refine (Stp.ldc rfl agg22 rfl H mR cE ?_); simp only [pS])) | (with_reducible refine wpl rfl (dQ 3 rfl ?_); with_reducible refine (Stp.alloc 3 rfl rfl zero30 H ?_); clear H; intro g3 w1 H; simp only [pS]; simp only [nC] at H) | (with_reducible refine wpl rfl (stQ (ty := 3) rfl ?_); first | (with_reducible refine (Stp.stc rfl size3 rfl rfl rfl rfl H uP (by first | omega | (simp; done) | (simp; omega)) ?_); clear H; intro w1 H; simp only [pS]; simp only [pE, nC, pS] at H)) | (with_reducible refine wpl rfl (stQ (ty := 22) rfl ?_); first | (with_reducible refine (Stp.stc rfl size22 rfl rfl rfl rfl H uP (by first | omega | (simp; done) | (simp; omega)) ?_); clear H; intro w1 H; simp only [pS]; simp only [pE, nC, pS] at H)) | (with_reducible refine wpl rfl (ldQ (ty := 30) rfl ?_); first | (with_reducible refine (Stp.ldor rfl agg30 size30 rfl H (by assumption) sZ (by assumption) ?_); simp only [pS]) | (with_reducible refine (Stp.ldr rfl agg30 size30 rfl H mR sZ ?_); simp only [pS]) | (with_reducible refine (Stp.ldl rfl agg30 size30 rfl H mR (by simp) ?_); simp only [pS]; simp only [List.drop_succ_cons, List.drop_zero, List.take_succ_cons, List.take_zero])))
    refine post_row rfl agg30 size30 rfl H mE rfl rfl ⟨_, rfl, rfl, s, hb, H.sub sU⟩
  obtain rfl : e = 0 := by omega
  have hei : (((0 : Nat) : Int) != 0) = false := by simp
  clear he
  have hb0 := hb
  obtain ⟨A, m, cc, rfl, hlm, hmc, hx, hm1, hrd⟩ := hb
  obtain ⟨i, c, k, f, hg⟩ : ∃ i c k f, getP l = (i, c, k, f) := ⟨_, _, _, _, rfl⟩
  have HG := Lib.hid hg
  have HX := Lib.hid hx
  have HL := Lib.hid hlm
  clear hx hlm
  by_cases hf : f ≠ 0
  · have hfi : ((f : Int) != 0) = true := by simp; omega
    rw [pidF_err hg hf]
    clear hf hg
    go_enter Try.func98, Try.ntmps98
    go_wp2_with (first | (go_at_call 127; (with_reducible refine (rpget_ok A m cc l HL.out hmc (by have := HL.out; omega) HX.out _ (hrd.at H (by repeat (first | exact hML | apply List.Sublist.cons))) i c k f HG.out).mono ?_); rintro e w1 ⟨v, rfl, hr⟩; obtain ⟨rfl, hb1⟩ := hr; replace H := H.grow hb1; clear hb1) | (with_reducible refine wpl rfl (dQ 2 rfl ?_); with_reducible refine (Stp.alloc 2 rfl rfl zero30 H ?_); clear H; intro g2 w1 H; simp only [pS]; simp only [nC] at H) | (with_reducible refine wpl rfl (ldQ (ty := 3) rfl ?_); first | (with_reducible refine (Stp.ldo rfl agg3 rfl H (by assumption) (by assumption) ?_); simp only [pS]) | (with_reducible refine (Stp.ldc rfl agg3 rfl H mR cE ?_); simp only [pS])) | (with_reducible refine wpl rfl (stQ (ty := 30) rfl ?_); first | (with_reducible refine (Stp.str rfl size30 rfl rfl (by first | rfl | (simp [Value.oneCell']; done) | assumption) H uP sZ sZ ?_); clear H; intro w1 H; simp only [pS]) | (with_reducible refine (Stp.stl rfl size30 rfl rfl rfl rfl H uP (by simp) ?_); clear H; intro w1 H; simp only [pS]; simp only [List.drop_succ_cons, List.drop_zero, List.take_succ_cons, List.take_zero, List.nil_append, List.cons_append, Nat.reduceAdd] at H)) | (with_reducible refine wpl rfl (ldQ (ty := 22) rfl ?_); first | (with_reducible refine (Stp.ldo rfl agg22 rfl H (by assumption) (by assumption) ?_); simp only [pS]) | (with_reducible refine (Stp.ldc rfl agg22 rfl H mR cE ?_); simp only [pS])) | (with_reducible refine wpl rfl (dQ 3 rfl ?_); with_reducible refine (Stp.alloc 3 rfl rfl zero30 H ?_); clear H; intro g3 w1 H; simp only [pS]; simp only [nC] at H) | (with_reducible refine wpl rfl (stQ (ty := 3) rfl ?_); first | (with_reducible refine (Stp.stc rfl size3 rfl rfl rfl rfl H uP (by first | omega | (simp; done) | (simp; omega)) ?_); clear H; intro w1 H; simp only [pS]; simp only [pE, nC, pS] at H)) | (with_reducible refine wpl rfl (stQ (ty := 22) rfl ?_); first | (with_reducible refine (Stp.stc rfl size22 rfl rfl rfl rfl H uP (by first | omega | (simp; done) | (simp; omega)) ?_); clear H; intro w1 H; simp only [pS]; simp only [pE, nC, pS] at H)) | (with_reducible refine wpl rfl (ldQ (ty := 30) rfl ?_); first | (with_reducible refine (Stp.ldor rfl agg30 size30 rfl H (by assumption) sZ (by assumption) ?_); simp only [pS]) | (with_reducible refine (Stp.ldr rfl agg30 size30 rfl H mR sZ ?_); simp only [pS]) | (with_reducible refine (Stp.ldl rfl agg30 size30 rfl H mR (by simp) ?_); simp only [pS]; simp only [List.drop_succ_cons, List.drop_zero, List.take_succ_cons, List.take_zero])))
    refine post_row rfl agg30 size30 rfl H mE rfl rfl ⟨_, rfl, rfl, _, hb0, H.sub sU⟩
  · obtain rfl : f = 0 := by omega
    have hfi : (((0 : Nat) : Int) != 0) = false := by simp
    have hkm : k ≤ m := by have := (getP_le hg).1; have := HL.out; omega
    rw [pidF_ok hg]
    clear hf hg hb0
    go_enter Try.func98, Try.ntmps98
    go_wp2_with (first | (go_at_call 127; (with_reducible refine (rpget_ok A m cc l HL.out hmc (by have := HL.out; omega) HX.out _ (hrd.at H (by repeat (first | exact hML | apply List.Sublist.cons))) i c k 0 HG.out).mono ?_); rintro e w1 ⟨v, rfl, hr⟩; obtain ⟨rfl, hb1⟩ := hr; replace H := H.grow hb1; clear hb1) | (with_reducible refine wpl rfl (dQ 34 rfl ?_); with_reducible refine (Stp.slfrom (k := k) 34 rfl rfl Try.underlying22 size5 rfl rfl (by omega) (by omega) ?_); intro A8 hA8; have H8 := Lib.hid hA8; clear hA8; simp only [pS]) | (with_reducible refine wpl rfl (dQ 2 rfl ?_); with_reducible refine (Stp.alloc 2 rfl rfl zero30 H ?_); clear H; intro g2 w1 H; simp only [pS]; simp only [nC] at H) | (with_reducible refine wpl rfl (ldQ (ty := 3) rfl ?_); first | (with_reducible refine (Stp.ldo rfl agg3 rfl H (by assumption) (by assumption) ?_); simp only [pS]) | (with_reducible refine (Stp.ldc rfl agg3 rfl H mR cE ?_); simp only [pS])) | (with_reducible refine wpl rfl (stQ (ty := 30) rfl ?_); first | (with_reducible refine (Stp.str rfl size30 rfl rfl (by first | rfl | (simp [Value.oneCell']; done) | assumption) H uP sZ sZ ?_); clear H; intro w1 H; simp only [pS]) | (with_reducible refine (Stp.stl rfl size30 rfl rfl rfl rfl H uP (by simp) ?_); clear H; intro w1 H; simp only [pS]; simp only [List.drop_succ_cons, List.drop_zero, List.take_succ_cons, List.take_zero, List.nil_append, List.cons_append, Nat.reduceAdd] at H)) | (with_reducible refine wpl rfl (ldQ (ty := 22) rfl ?_); first | (with_reducible refine (Stp.ldo rfl agg22 rfl H (by assumption) (by assumption) ?_); simp only [pS]) | (with_reducible refine (Stp.ldc rfl agg22 rfl H mR cE ?_); simp only [pS])) | (with_reducible refine wpl rfl (dQ 3 rfl ?_); with_reducible refine (Stp.alloc 3 rfl rfl zero30 H ?_); clear H; intro g3 w1 H; simp only [pS]; simp only [nC] at H) | (with_reducible refine wpl rfl (stQ (ty := 3) rfl ?_); first | (with_reducible refine (Stp.stc rfl size3 rfl rfl rfl rfl H uP (by first | omega | (simp; done) | (simp; omega)) ?_); clear H; intro w1 H; simp only [pS]; simp only [pE, nC, pS] at H)) | (with_reducible refine wpl rfl (stQ (ty := 22) rfl ?_); first | (with_reducible refine (Stp.stc rfl size22 rfl rfl rfl rfl H uP (by first | omega | (simp; done) | (simp; omega)) ?_); clear H; intro w1 H; simp only [pS]; simp only [pE, nC, pS] at H)) | (with_reducible refine wpl rfl (ldQ (ty := 30) rfl ?_); first | (with_reducible refine (Stp.ldor rfl agg30 size30 rfl H (by assumption) sZ (by assumption) ?_); simp only [pS]) | (with_reducible refine (Stp.ldr rfl agg30 size30 rfl H mR sZ ?_); simp only [pS]) | (with_reducible refine (Stp.ldl rfl agg30 size30 rfl H mR (by simp) ?_); simp only [pS]; simp only [List.drop_succ_cons, List.drop_zero, List.take_succ_cons, List.take_zero])))
    refine post_row rfl agg30 size30 rfl H mE rfl rfl ⟨_, rfl, rfl, _, Byt.drop HL.out hmc HX.out hm1 hrd hkm H8.out rfl, H.sub sU⟩
theorem rrPids_ok {B : Nat} {w0 : World} {L M : List Res} (g : Nat) (s : Value) (l : List Nat) (e most : Nat) (hb : Byt B w0 L s l) (hmo2 : most ≤ 100000) (hML : L.Sublist M) (w : World) (H : St B w0 w (row 129 g #[s, .int .i64 (e : Int)] :: M)) :
    Calls Try.prog 128 #[.pointer (some ⟨g, 0, none⟩), .int .i64 (most : Int)] w (Ret fun v w' => ∃ s' l' e' ab cb d, v = .slice ab d.length cb ∧ Hid (pidsF most (l, e) = (d, (l', e'))) ∧ Byt B w0 L s' l' ∧ St B w0 w' (row 129 g #[s', .int .i64 (e' : Int)] :: slc 30 2 (.slice ab d.length cb) d.length (pv d) :: M)) := by
  have wm : IntKind.u64.wrap (most : Int) = (most : Int) := wrap_u64_in _ (by omega) (by omega)
  have mm : (if (most : Int) ≥ 0 then (most : Int) else 0) = (most : Int) := if_pos (by omega)
  have HB := Lib.hid hb
  obtain ⟨A0, m0, cc0, rfl, _⟩ := hb
  go_enter Try.func128, Try.ntmps128
  go_upto_region 3 with (first | (go_at_call 72; (with_reducible refine (rrNum_ok g _ l e most HB.out hML _ H).mono ?_); rintro e w1 ⟨v, rfl, hr⟩; obtain ⟨rfl, s2, hb2, H2⟩ := hr; clear H; have H := H2; clear H2) | (with_reducible refine wpl rfl (ldQ (ty := 22) rfl ?_); first | (with_reducible refine (Stp.ldo rfl agg22 rfl H (by assumption) (by assumption) ?_); simp only [pS]) | (with_reducible refine (Stp.ldc rfl agg22 rfl H mR cE ?_); simp only [pS])) | (with_reducible refine wpl rfl (ldQ (ty := 3) rfl ?_); first | (with_reducible refine (Stp.ldo rfl agg3 rfl H (by assumption) (by assumption) ?_); simp only [pS]) | (with_reducible refine (Stp.ldc rfl agg3 rfl H mR cE ?_); simp only [pS])) | (with_reducible refine wpl rfl (stQ (ty := 22) rfl ?_); first | (with_reducible refine (Stp.stc rfl size22 rfl rfl rfl rfl H uP (by first | omega | (simp; done) | (simp; omega)) ?_); clear H; intro w1 H; simp only [pS]; simp only [pE, nC, pS] at H)))
  have hz2 := numF_most (most := most) (s := (l, e))
  have hpf : pidsF most (l, e) = if (pidsL (numF most (l, e)).1 ([], (numF most (l, e)).2)).2.2 ≠ 0 then ([], (l, (pidsL (numF most (l, e)).1 ([], (numF most (l, e)).2)).2.2)) else pidsL (numF most (l, e)).1 ([], (numF most (l, e)).2) := by
    by_cases he : e ≠ 0
    · rw [numF_bad he]
      unfold pidsF
      rw [if_pos he, pidsL_stop he, if_pos he]
    · unfold pidsF
      rw [if_neg he]
  obtain ⟨⟨n, l1, e1⟩, hz⟩ : ∃ z, numF most (l, e) = z := ⟨_, rfl⟩
  rw [hz] at hb2 H hz2 hpf ⊢
  simp only at hb2 H hz2 hpf ⊢
  clear hz
  have HPF := Lib.hid hpf
  replace H := H.nil 30 2
  clear hpf
  go_wp2_with (first | (with_reducible refine wpl rfl (ldQ (ty := 22) rfl ?_); first | (with_reducible refine (Stp.ldo rfl agg22 rfl H (by assumption) (by assumption) ?_); simp only [pS]) | (with_reducible refine (Stp.ldc rfl agg22 rfl H mR cE ?_); simp only [pS])) | (with_reducible refine wpl rfl (ldQ (ty := 3) rfl ?_); first | (with_reducible refine (Stp.ldo rfl agg3 rfl H (by assumption) (by assumption) ?_); simp only [pS]) | (with_reducible refine (Stp.ldc rfl agg3 rfl H mR cE ?_); simp only [pS])) | (with_reducible refine wpl rfl (stQ (ty := 22) rfl ?_); first | (with_reducible refine (Stp.stc rfl size22 rfl rfl rfl rfl H uP (by first | omega | (simp; done) | (simp; omega)) ?_); clear H; intro w1 H; simp only [pS]; simp only [pE, nC, pS] at H)))
  go_loopw [8, 7] (fun i o wr => ∃ (k : Nat) (s : Value) (l2 : List Nat) (e2 : Nat) (acc : List Pr) (a : Option Addr) (c : Nat), k ≤ n ∧ i = .int .u64 (k : Int) ∧ o = .slice a k c ∧ Hid (acc.length = k) ∧ Hid (pidsL (n - k) (acc, (l2, e2)) = pidsL n ([], (l1, e1))) ∧ Byt B w0 L s l2 ∧ St B w0 wr (row 129 g #[s, .int .i64 (e2 : Int)] :: slc 30 2 (.slice a k c) k (pv acc) :: M)) (fun i _ _ => n - (intOf i).toNat)
  case atStart => exact ⟨0, s2, l1, e1, [], none, 0, Nat.zero_le _, rfl, rfl, Lib.hid rfl, Lib.hid rfl, hb2, H.perm (.swap _ _ _)⟩
  case round =>
    clear H hb2
    obtain ⟨k, s3, l2, e2, acc, a, c, hk, rfl, rfl, HA, HP, hb3, H⟩ := hrel
    by_cases hgo : k < n ∧ e2 = 0
    · obtain ⟨hlt, rfl⟩ := hgo
      have kli : (k : Int) < (n : Int) := by omega
      have hei : (((0 : Nat) : Int) == 0) = true := by simp
      have HP2 : Hid (pidsL (n - (k + 1)) (acc ++ [(pidF (l2, 0)).1], (pidF (l2, 0)).2) = pidsL n ([], (l1, e1))) := Lib.hid (by
        rw [← HP.out, show n - k = (n - (k + 1)) + 1 by omega]
        exact (if_neg (by simp)).symm)
      have HSN := Lib.hid (pv_snG acc (pidF (l2, 0)).1)
      obtain ⟨⟨⟨x, y⟩, l4, e4⟩, hz⟩ : ∃ z, pidF (l2, 0) = z := ⟨_, rfl⟩
      have HZ := Lib.hid hz
      rw [hz] at HP2 HSN
      simp only at HP2 HSN
      clear hz
      go_wp2_with (first | (go_at_call 98; (with_reducible refine (rrPid_ok g s3 l2 0 hb3 (by repeat (first | exact hML | apply List.Sublist.cons)) _ H).mono ?_); rintro e w1 ⟨v, rfl, hr⟩; obtain ⟨rfl, s4, hb4, H2⟩ := hr; clear H; have H := H2; clear H2; rw [HZ.out] at hb4 H ⊢; simp only at hb4 H ⊢) | (with_reducible refine wpl rfl (dQ 33 rfl ?_); with_reducible refine (Stp.bsl (e := 30) (cs := #[.int .u16 (x : Int), .int .u32 (y : Int)]) 33 rfl rfl (fun W => by kernel_rfl) H ?_); clear H; intro g33 w1 H; simp only [pS]) | (with_reducible refine wpl rfl (dQ 34 rfl ?_); with_reducible refine (Stp.app 34 rfl rfl Try.underlying31 info30 rfl (by decide) rfl rfl H (fun _ => uP) rfl (newN (H.getRow (t := 30) mE)) (by simp [Value.oneCell']) (by unfold maxLen; omega) (by omega) ?_); clear H; intro a26 c26 w1 H; simp only [pS]; simp only [List.toList_toArray] at H; rw [← HSN.out] at H) | (with_reducible refine wpl rfl (ldQ (ty := 22) rfl ?_); first | (with_reducible refine (Stp.ldo rfl agg22 rfl H (by assumption) (by assumption) ?_); simp only [pS]) | (with_reducible refine (Stp.ldc rfl agg22 rfl H mR cE ?_); simp only [pS])) | (with_reducible refine wpl rfl (ldQ (ty := 3) rfl ?_); first | (with_reducible refine (Stp.ldo rfl agg3 rfl H (by assumption) (by assumption) ?_); simp only [pS]) | (with_reducible refine (Stp.ldc rfl agg3 rfl H mR cE ?_); simp only [pS])) | (with_reducible refine wpl rfl (stQ (ty := 22) rfl ?_); first | (with_reducible refine (Stp.stc rfl size22 rfl rfl rfl rfl H uP (by first | omega | (simp; done) | (simp; omega)) ?_); clear H; intro w1 H; simp only [pS]; simp only [pE, nC, pS] at H)))
      go_roundw
      case rel => exact ⟨k + 1, s4, l4, e4, acc ++ [(x, y)], a26, c26, by omega, by go_num, rfl, Lib.hid (by rw [List.length_append, HA.out]; rfl), HP2, hb4, (((H.pull (r := slc 30 2 _ (k + 1) _) pU).pull (r := row 129 g #[s4, .int .i64 (e4 : Int)]) pU)).sub sU⟩
      case measure => simp [intOf]; omega
    · have HR : Hid (pidsL n ([], (l1, e1)) = (acc, (l2, e2))) := Lib.hid (by
        by_cases he2 : e2 ≠ 0
        · rw [← HP.out]; exact pidsL_stop he2
        · have : k = n := by
            rcases Nat.lt_or_ge k n with h | h
            · exact absurd ⟨h, by omega⟩ hgo
            · omega
          subst this
          rw [← HP.out, Nat.sub_self]; rfl)
      have HPF2 : Hid (pidsF most (l, e) = if e2 ≠ 0 then ([], (l, e2)) else (acc, (l2, e2))) := Lib.hid (by rw [HPF.out, HR.out])
      by_cases he2 : e2 ≠ 0
      · have HV : Hid (pidsF most (l, e) = ([], (l, e2))) := Lib.hid (by rw [HPF2.out, if_pos he2])
        have hei : ((e2 : Int) == 0) = false := by simp; omega
        have hei2 : ((e2 : Int) != 0) = true := by simp; omega
        clear he2 hgo HR HPF2
        by_cases hlt : k < n
        · have kli : (k : Int) < (n : Int) := by omega
          go_wp2_with (first | (with_reducible refine wpl rfl (ldQ (ty := 22) rfl ?_); first | (with_reducible refine (Stp.ldo rfl agg22 rfl H (by assumption) (by assumption) ?_); simp only [pS]) | (with_reducible refine (Stp.ldc rfl agg22 rfl H mR cE ?_); simp only [pS])) | (with_reducible refine wpl rfl (ldQ (ty := 3) rfl ?_); first | (with_reducible refine (Stp.ldo rfl agg3 rfl H (by assumption) (by assumption) ?_); simp only [pS]) | (with_reducible refine (Stp.ldc rfl agg3 rfl H mR cE ?_); simp only [pS])) | (with_reducible refine wpl rfl (stQ (ty := 22) rfl ?_); first | (with_reducible refine (Stp.stc rfl size22 rfl rfl rfl rfl H uP (by first | omega | (simp; done) | (simp; omega)) ?_); clear H; intro w1 H; simp only [pS]; simp only [pE, nC, pS] at H)))
          go_ret
          have H5 := (((H.nil 30 2).pull (r := row 129 g _) pU)).sub (L' := row 129 g #[(.slice A0 m0 cc0), .int .i64 (e2 : Int)] :: slc 30 2 (.slice none 0 0) 0 [] :: M) sU
          exact ⟨_, rfl, _, l, e2, none, 0, [], rfl, HV, HB.out, H5⟩
        · have kli : ¬ (k : Int) < (n : Int) := by omega
          go_wp2_with (first | (with_reducible refine wpl rfl (ldQ (ty := 22) rfl ?_); first | (with_reducible refine (Stp.ldo rfl agg22 rfl H (by assumption) (by assumption) ?_); simp only [pS]) | (with_reducible refine (Stp.ldc rfl agg22 rfl H mR cE ?_); simp only [pS])) | (with_reducible refine wpl rfl (ldQ (ty := 3) rfl ?_); first | (with_reducible refine (Stp.ldo rfl agg3 rfl H (by assumption) (by assumption) ?_); simp only [pS]) | (with_reducible refine (Stp.ldc rfl agg3 rfl H mR cE ?_); simp only [pS])) | (with_reducible refine wpl rfl (stQ (ty := 22) rfl ?_); first | (with_reducible refine (Stp.stc rfl size22 rfl rfl rfl rfl H uP (by first | omega | (simp; done) | (simp; omega)) ?_); clear H; intro w1 H; simp only [pS]; simp only [pE, nC, pS] at H)))
          go_ret
          have H5 := (((H.nil 30 2).pull (r := row 129 g _) pU)).sub (L' := row 129 g #[(.slice A0 m0 cc0), .int .i64 (e2 : Int)] :: slc 30 2 (.slice none 0 0) 0 [] :: M) sU
          exact ⟨_, rfl, _, l, e2, none, 0, [], rfl, HV, HB.out, H5⟩
      · obtain rfl : e2 = 0 := by omega
        have HV : Hid (pidsF most (l, e) = (acc, (l2, 0))) := Lib.hid (by rw [HPF2.out, if_neg (by simp)])
        have kli : ¬ (k : Int) < (n : Int) := by
          intro h; exact hgo ⟨by omega, rfl⟩
        have hei2 : (((0 : Nat) : Int) != 0) = false := by simp
        clear he2 hgo HR HPF2
        go_wp2_with (first | (with_reducible refine wpl rfl (ldQ (ty := 22) rfl ?_); first | (with_reducible refine (Stp.ldo rfl agg22 rfl H (by assumption) (by assumption) ?_); simp only [pS]) | (with_reducible refine (Stp.ldc rfl agg22 rfl H mR cE ?_); simp only [pS])) | (with_reducible refine wpl rfl (ldQ (ty := 3) rfl ?_); first | (with_reducible refine (Stp.ldo rfl agg3 rfl H (by assumption) (by assumption) ?_); simp only [pS]) | (with_reducible refine (Stp.ldc rfl agg3 rfl H mR cE ?_); simp only [pS])) | (with_reducible refine wpl rfl (stQ (ty := 22) rfl ?_); first | (with_reducible refine (Stp.stc rfl size22 rfl rfl rfl rfl H uP (by first | omega | (simp; done) | (simp; omega)) ?_); clear H; intro w1 H; simp only [pS]; simp only [pE, nC, pS] at H)))
        go_ret
        refine ⟨_, rfl, s3, l2, 0, a, c, acc, ?_, HV, hb3, ?_⟩
        · rw [HA.out]; rfl
        · rw [HA.out]; exact H
end Go.Proofs.Ytmokecicjmjkbaa
