/- Layer 7's Reader (body), whatever is wrong: Pids; the bounds stand in it. Layer 7's reference's Reader (choragusref07), whatever is wrong: Num, Bytes, End; the bounds stand in each. Contracts of slices.Equal, slices.EqualFunc over processes, and of layers 8's and 9's Same (view, cmd); no condition. -/
import Derived.Deep.Cut
import Derived.Test.YtmokecicjmjkbaaGy3
import Derived.Test.YtmokecicjmjkbaaGy4
import Derived.Test.YtmokecicjmjkbaaGy5
import Derived.Test.YtmokecicjmjkbaaGy6
namespace Go.Proofs.Ytmokecicjmjkbaa
open Go.ChangeShapes Go.WideShapes Go.ChangeAt Go.RowKit Go.Deep
set_option linter.unusedVariables false
set_option linter.unusedSimpArgs false
set_option linter.unusedSectionVars false
set_option maxRecDepth 100000
set_option maxHeartbeats 2000000
theorem pv_snG (l : List Pr) (p : Pr) : pv (l ++ [p]) = pv l ++ [.int .u16 (p.1 : Int), .int .u32 (p.2 : Int)] := by
  unfold pv; rw [List.flatMap_append]; simp
theorem pids_permG {B : Nat} {w0 w : World} {M : List Res} {a b c d e : Res} (H : St B w0 w (e :: a :: b :: c :: d :: M)) : St B w0 w (a :: b :: c :: d :: e :: M) := bytes_permG H
theorem pidscG_ok {B : Nat} {w0 : World} {L M : List Res} (g rb mb nb : Nat) (s : Value) (l : List Nat) (most : Nat) (hb : Byt B w0 L s l) (hmo2 : most ≤ 100000) (hML : L.Sublist M) (w : World)
    (H : St B w0 w (row 144 g #[s, .int .i64 ((0 : Nat) : Int)] :: row 121 rb #[.pointer (some ⟨g, 0, none⟩)] :: row 3 mb #[.int .i64 (most : Int)] :: row 31 nb #[.slice none 0 0] :: M)) :
    Calls Try.prog 141 #[.pointer (some ⟨rb, 0, none⟩), .pointer (some ⟨mb, 0, none⟩), .pointer (some ⟨nb, 0, none⟩)] w (Ret fun v w' => v = .tuple #[] ∧ ∃ s' l' e' ab cb d, Hid (pidsL (numF most (l, 0)).1 ([], (numF most (l, 0)).2) = (d, (l', e'))) ∧ Byt B w0 L s' l' ∧ St B w0 w' (row 144 g #[s', .int .i64 (e' : Int)] :: row 121 rb #[.pointer (some ⟨g, 0, none⟩)] :: row 3 mb #[.int .i64 (most : Int)] :: row 31 nb #[.slice ab d.length cb] :: slc 30 2 (.slice ab d.length cb) d.length (pv d) :: M)) := by
  have wm : IntKind.u64.wrap (most : Int) = (most : Int) := wrap_u64_in _ (by omega) (by omega)
  have mm : (if (most : Int) ≥ 0 then (most : Int) else 0) = (most : Int) := if_pos (by omega)
  go_enter Try.func141, Try.ntmps141
  go_wp2_with (first | (with_reducible refine wpl rfl (ldQ (ty := 121) rfl ?_); first | (with_reducible refine (Stp.ldo rfl agg121 rfl H (by assumption) (by assumption) ?_); simp only [pS]) | (with_reducible refine (Stp.ldc rfl agg121 rfl H mR cE ?_); simp only [pS])) | (with_reducible refine wpl rfl (ldQ (ty := 3) rfl ?_); first | (with_reducible refine (Stp.ldo rfl agg3 rfl H (by assumption) (by assumption) ?_); simp only [pS]) | (with_reducible refine (Stp.ldc rfl agg3 rfl H mR cE ?_); simp only [pS])))
  refine (numG_ok g s l 0 most hb (.cons _ (.cons _ (.cons _ hML))) _ H).mono ?_
  rintro e w1 ⟨v, rfl, rfl, s2, hb2, H2⟩
  clear H
  have hz2 := numF_most (most := most) (s := (l, 0))
  obtain ⟨⟨n, l1, e1⟩, hz⟩ : ∃ z, numF most (l, 0) = z := ⟨_, rfl⟩
  have HN0 := Lib.hid hz
  rw [hz] at H2 hb2 hz2 ⊢
  clear hz
  simp only at H2 hb2 hz2 ⊢
  have H := pids_permG (H2.nil 30 2)
  clear H2 hb
  go_wp2_with fail
  go_loopw [4] (fun i wr => ∃ (k : Nat) (s : Value) (l2 : List Nat) (e2 : Nat) (acc : List Pr) (a : Option Addr) (c : Nat), k ≤ n ∧ i = .int .u64 (k : Int) ∧ Hid (acc.length = k) ∧ Hid (pidsL (n - k) (acc, (l2, e2)) = pidsL n ([], (l1, e1))) ∧ Byt B w0 L s l2 ∧ St B w0 wr (row 144 g #[s, .int .i64 (e2 : Int)] :: row 121 rb #[.pointer (some ⟨g, 0, none⟩)] :: row 3 mb #[.int .i64 (most : Int)] :: row 31 nb #[.slice a k c] :: slc 30 2 (.slice a k c) k (pv acc) :: M)) (fun i _ => n - (intOf i).toNat)
  case atStart => exact ⟨0, s2, l1, e1, [], none, 0, Nat.zero_le _, rfl, Lib.hid rfl, Lib.hid rfl, hb2, H⟩
  case round =>
    clear H hb2
    obtain ⟨k, s3, l2, e2, acc, a, c, hk, rfl, HA, HP, hb3, H⟩ := hrel
    by_cases hlt : k < n
    · have kli : (k : Int) < (n : Int) := by omega
      by_cases he2 : e2 ≠ 0
      · have hei : ((e2 : Int) == 0) = false := by simp; omega
        have HR : Hid (pidsL n ([], (l1, e1)) = (acc, (l2, e2))) := Lib.hid (by rw [← HP.out]; exact pidsL_stop he2)
        clear he2
        go_wp2_with (first | (with_reducible refine wpl rfl (ldQ (ty := 121) rfl ?_); first | (with_reducible refine (Stp.ldo rfl agg121 rfl H (by assumption) (by assumption) ?_); simp only [pS]) | (with_reducible refine (Stp.ldc rfl agg121 rfl H mR cE ?_); simp only [pS])) | (with_reducible refine wpl rfl (ldQ (ty := 37) rfl ?_); first | (with_reducible refine (Stp.ldo rfl agg37 rfl H (by assumption) (by assumption) ?_); simp only [pS]) | (with_reducible refine (Stp.ldc rfl agg37 rfl H mR cE ?_); simp only [pS])))
        go_end0
        refine ⟨_, rfl, rfl, s3, l2, e2, a, c, acc, Lib.hid (by rw [HN0.out]; exact HR.out), hb3, ?_⟩
        rw [HA.out]; exact H
      · obtain rfl : e2 = 0 := by omega
        have hei : (((0 : Nat) : Int) == 0) = true := by simp
        have HP2 : Hid (pidsL (n - (k + 1)) (acc ++ [(pidF (l2, 0)).1], (pidF (l2, 0)).2) = pidsL n ([], (l1, e1))) := Lib.hid (by
          rw [← HP.out, show n - k = (n - (k + 1)) + 1 by omega]
          exact (if_neg (by simp)).symm)
        have HSN := Lib.hid (pv_snG acc (pidF (l2, 0)).1)
        obtain ⟨⟨⟨x, y⟩, l4, e4⟩, hz⟩ : ∃ z, pidF (l2, 0) = z := ⟨_, rfl⟩
        have HZ := Lib.hid hz
        rw [hz] at HP2 HSN
        simp only at HP2 HSN
        clear hz he2
        go_wp2_with (first | (with_reducible refine wpl rfl (ldQ (ty := 121) rfl ?_); first | (with_reducible refine (Stp.ldo rfl agg121 rfl H (by assumption) (by assumption) ?_); simp only [pS]) | (with_reducible refine (Stp.ldc rfl agg121 rfl H mR cE ?_); simp only [pS])) | (with_reducible refine wpl rfl (ldQ (ty := 37) rfl ?_); first | (with_reducible refine (Stp.ldo rfl agg37 rfl H (by assumption) (by assumption) ?_); simp only [pS]) | (with_reducible refine (Stp.ldc rfl agg37 rfl H mR cE ?_); simp only [pS])))
        refine rk_begin 5 6 (fun W => St B w0 W [row 121 rb #[.pointer (some ⟨g, 0, none⟩)], row 31 nb #[.slice a k c]]) rfl (by kernel_rfl) ?_
        replace H := H.drew
        have HS := H
        first | (refine rk_take (i := 0) rfl kR kR kR kR kR kR (Yld.ldc rfl rfl agg31 rfl mR cE) (H.sub sU) ?_; simp only [pS]) | (refine rk_take (i := 0) rfl kR kR kR kR kR kR (Yld.ldo rfl rfl agg31 rfl (by assumption) (by assumption)) (H.sub sU) ?_; simp only [pS])
        first | (refine rk_take (i := 1) rfl kR kR kR kR kR kR (Yld.ldc rfl rfl agg121 rfl mR cE) (H.sub sU) ?_; simp only [pS]) | (refine rk_take (i := 1) rfl kR kR kR kR kR kR (Yld.ldo rfl rfl agg121 rfl (by assumption) (by assumption)) (H.sub sU) ?_; simp only [pS])
        refine rk_one (i := 2) (by kernel_rfl) rfl rfl (fun K hK => ?_)
        refine wp_callf rfl ent123 (rpidG_ok g s3 l2 0 hb3 (by repeat (first | exact hML | apply List.Sublist.cons)) _ H) rfl (fun v w1 hr => ?_)
        obtain ⟨rfl, s4, hb4, H2⟩ := hr
        clear H
        have H := H2
        clear H2
        rw [HZ.out] at hb4 H ⊢
        simp only at hb4 H ⊢
        clear HS
        have HS := H
        refine hK.out _ _ (fun _ => (H.sub sU)) ?_
        clear hK K
        simp only [pS]
        refine rk_one (i := 3) (by kernel_rfl) rfl rfl (fun K hK => ?_)
        refine Stp.wp (Stp.bsl (e := 30) (cs := #[.int .u16 (x : Int), .int .u32 (y : Int)]) 25 rfl rfl (fun W => by kernel_rfl) H ?_)
        clear H
        intro g25 w1 H
        clear HS
        have HS := H
        refine hK.out _ _ (fun _ => (H.sub sU)) ?_
        clear hK K
        simp only [pS]
        refine rk_one (i := 4) (by kernel_rfl) rfl rfl (fun K hK => ?_)
        refine Stp.wp (Stp.app 26 rfl rfl Try.underlying31 info30 rfl (by decide) rfl rfl H (fun _ => uP) rfl (newN (H.getRow (t := 30) mE)) (by simp [Value.oneCell']) (by unfold maxLen; omega) (by omega) ?_)
        clear H
        intro a26 c26 w1 H
        simp only [List.toList_toArray] at H
        rw [← HSN.out] at H
        clear HS
        have HS := H
        refine hK.out _ _ (fun _ => (H.sub sU)) ?_
        clear hK K
        simp only [pS]
        refine rk_one (i := 5) (by kernel_rfl) rfl rfl (fun K hK => ?_)
        refine Stp.wp (Stp.stc rfl size31 rfl rfl rfl rfl H uP (by simp) ?_)
        clear H
        intro w1 H
        simp only [pE, nC, pS] at H
        clear HS
        have HS := H
        refine hK.out _ _ (fun h => by cases (show true = false from h)) ?_
        clear hK K
        simp only [pS]
        refine rk_done (by kernel_rfl) ?_
        go_wp2_with fail
        go_roundw
        case rel => exact ⟨k + 1, s4, l4, e4, acc ++ [(x, y)], a26, c26, by omega, by go_num, Lib.hid (by rw [List.length_append, HA.out]; rfl), HP2, hb4, H.sub sU⟩
        case measure => simp [intOf]; omega
    · obtain rfl : k = n := by omega
      have HR : Hid (pidsL k ([], (l1, e1)) = (acc, (l2, e2))) := Lib.hid (by rw [← HP.out, Nat.sub_self]; rfl)
      go_wp2_with fail
      go_end0
      refine ⟨_, rfl, rfl, s3, l2, e2, a, c, acc, Lib.hid (by rw [HN0.out]; exact HR.out), hb3, ?_⟩
      rw [HA.out]; exact H
theorem mPidsG_ok {B : Nat} {w0 : World} {L M : List Res} (g : Nat) (s : Value) (l : List Nat) (e most : Nat) (hb : Byt B w0 L s l) (hmo2 : most ≤ 100000) (hML : L.Sublist M) (w : World) (H : St B w0 w (row 144 g #[s, .int .i64 (e : Int)] :: M)) :
    Calls Try.prog 125 #[.pointer (some ⟨g, 0, none⟩), .int .i64 (most : Int)] w (Ret fun v w' => ∃ s' l' e' ab cb d, v = .slice ab d.length cb ∧ Hid (pidsF most (l, e) = (d, (l', e'))) ∧ Byt B w0 L s' l' ∧ St B w0 w' (row 144 g #[s', .int .i64 (e' : Int)] :: slc 30 2 (.slice ab d.length cb) d.length (pv d) :: M)) := by
  have hmf : ∀ (fn : Fn) (first cap : Array Value) (w : World), (Instr.makeFunc fn first cap).run Try.prog w = .ok (.func fn first cap) w := fun _ _ _ _ => rfl
  by_cases he : e ≠ 0
  · have HE := Lib.hid he
    have HBF : Hid (pidsF most (l, e) = ([], (l, e))) := Lib.hid (if_pos he)
    have hei : ((e : Int) != 0) = true := by simp; omega
    clear he
    go_enter Try.func125, Try.ntmps125
    go_wp2_with (first | (go_at_call 90; (with_reducible refine (wholeGPids_bad g e _ _ HE.out _ (H.getHeap mE)).mono ?_); rintro e w1 ⟨v, rfl, hr⟩; obtain ⟨rfl, hb1⟩ := hr; replace H := H.grow hb1; clear hb1) | (go_at_call 69; (with_reducible refine (rerr_ok _ _ _ _ (H.getHeap mE)).mono ?_); rintro e w1 ⟨v, rfl, hr⟩; obtain ⟨rfl, hb1⟩ := hr; replace H := H.grow hb1; clear hb1) | (with_reducible refine wpl rfl (dQ 2 rfl ?_); with_reducible refine (Stp.box 2 rfl rfl rfl H ?_); clear H; intro g2 w1 H; simp only [pS]; simp only [pE, nC, pS] at H) | (with_reducible refine wpl rfl (dQ 3 rfl ?_); with_reducible refine (Stp.box 3 rfl rfl rfl H ?_); clear H; intro g3 w1 H; simp only [pS]; simp only [pE, nC, pS] at H) | (with_reducible refine wpl rfl (dQ 4 rfl ?_); with_reducible refine (Stp.alloc 4 rfl rfl zero31 H ?_); clear H; intro g4 w1 H; simp only [pS]; simp only [nC] at H) | (with_reducible refine wpl rfl (ldQ (ty := 121) rfl ?_); first | (with_reducible refine (Stp.ldo rfl agg121 rfl H (by assumption) (by assumption) ?_); simp only [pS]) | (with_reducible refine (Stp.ldc rfl agg121 rfl H mR cE ?_); simp only [pS])) | (with_reducible refine wpl rfl (stQ (ty := 31) rfl ?_); first | (with_reducible refine (Stp.stc rfl size31 rfl rfl rfl rfl H uP (by first | omega | (simp; done) | (simp; omega)) ?_); clear H; intro w1 H; simp only [pS]; simp only [pE, nC, pS] at H)))
    have H5 : St B w0 _ (row 144 g #[s, .int .i64 (e : Int)] :: slc 30 2 (.slice none 0 0) 0 [] :: M) := (((H.nil 30 2).pull (r := row 144 g #[s, .int .i64 (e : Int)]) pU)).sub sU
    exact post_cellG rfl agg31 rfl H mE rfl ⟨_, rfl, s, l, e, none, 0, [], rfl, HBF, hb, H5⟩
  obtain rfl : e = 0 := by omega
  obtain ⟨A, m9, c9, rfl, e1, e2, e3, e4, e5⟩ := hb
  have HB : Hid (Byt B w0 L (.slice A m9 c9) l) := Lib.hid ⟨A, m9, c9, rfl, e1, e2, e3, e4, e5⟩
  clear e1 e2 e3 e4 e5 he
  go_enter Try.func125, Try.ntmps125
  go_wp2_with (first | (with_reducible refine wpl rfl (dQ 2 rfl ?_); with_reducible refine (Stp.box 2 rfl rfl rfl H ?_); clear H; intro g2 w1 H; simp only [pS]; simp only [pE, nC, pS] at H) | (with_reducible refine wpl rfl (dQ 3 rfl ?_); with_reducible refine (Stp.box 3 rfl rfl rfl H ?_); clear H; intro g3 w1 H; simp only [pS]; simp only [pE, nC, pS] at H) | (with_reducible refine wpl rfl (dQ 4 rfl ?_); with_reducible refine (Stp.alloc 4 rfl rfl zero31 H ?_); clear H; intro g4 w1 H; simp only [pS]; simp only [nC] at H) | (with_reducible refine wpl rfl (ldQ (ty := 121) rfl ?_); first | (with_reducible refine (Stp.ldo rfl agg121 rfl H (by assumption) (by assumption) ?_); simp only [pS]) | (with_reducible refine (Stp.ldc rfl agg121 rfl H mR cE ?_); simp only [pS])))
  refine (wholeGPids_ok g A m9 c9 #[.pointer (some ⟨g2, 0, none⟩), .pointer (some ⟨g3, 0, none⟩), .pointer (some ⟨g4, 0, none⟩)] (fun s' e' Z => ∃ l' ab cb d, Hid (pidsL (numF most (l, 0)).1 ([], (numF most (l, 0)).2) = (d, (l', e'))) ∧ Byt B w0 L s' l' ∧ Z = row 121 g2 #[.pointer (some ⟨g, 0, none⟩)] :: row 3 g3 #[.int .i64 (most : Int)] :: row 31 g4 #[.slice ab d.length cb] :: slc 30 2 (.slice ab d.length cb) d.length (pv d) :: M) (fun M' w1 H1 => ?_) _ (rev4G H)).mono ?_
  · refine (pidscG_ok g g2 g3 g4 _ l most HB.out hmo2 (hML.trans (List.sublist_append_left M M')) w1 H1).mono ?_
    rintro e w2 ⟨v, rfl, rfl, s2, l', e', ab, cb, d, h1, h2, H2⟩
    exact ⟨_, rfl, rfl, s2, e', _, ⟨l', ab, cb, d, h1, h2, rfl⟩, H2⟩
  rintro e w1 ⟨v, rfl, rfl, s3, e', Z, ⟨l', ab, cb, d, h1, h2, rfl⟩, hor⟩
  clear H
  have hpf : pidsF most (l, 0) = if e' ≠ 0 then ([], (l, e')) else (d, (l', e')) := by
    unfold pidsF
    rw [if_neg (by simp), h1.out]
  rcases hor with ⟨rfl, H⟩ | ⟨he, H⟩
  · have HPF : Hid (pidsF most (l, 0) = (d, (l', 0))) := Lib.hid (by rw [hpf, if_neg (by simp)])
    clear hpf
    go_wp2_with (first | (go_at_call 69; (with_reducible refine (rerr_ok _ _ _ _ (H.getHeap mE)).mono ?_); rintro e w1 ⟨v, rfl, hr⟩; obtain ⟨rfl, hb1⟩ := hr; replace H := H.grow hb1; clear hb1) | (with_reducible refine wpl rfl (ldQ (ty := 121) rfl ?_); first | (with_reducible refine (Stp.ldo rfl agg121 rfl H (by assumption) (by assumption) ?_); simp only [pS]) | (with_reducible refine (Stp.ldc rfl agg121 rfl H mR cE ?_); simp only [pS])) | (with_reducible refine wpl rfl (stQ (ty := 31) rfl ?_); first | (with_reducible refine (Stp.stc rfl size31 rfl rfl rfl rfl H uP (by first | omega | (simp; done) | (simp; omega)) ?_); clear H; intro w1 H; simp only [pS]; simp only [pE, nC, pS] at H)) | (with_reducible refine wpl rfl (ldQ (ty := 31) rfl ?_); first | (with_reducible refine (Stp.ldo rfl agg31 rfl H (by assumption) (by assumption) ?_); simp only [pS]) | (with_reducible refine (Stp.ldc rfl agg31 rfl H mR cE ?_); simp only [pS])))
    exact post_cellG rfl agg31 rfl H mE rfl ⟨_, rfl, s3, l', 0, ab, cb, d, rfl, HPF, h2, H.sub sU⟩
  · have HPF : Hid (pidsF most (l, 0) = ([], (l, e'))) := Lib.hid (by rw [hpf, if_pos he])
    have hei : ((e' : Int) != 0) = true := by simp; omega
    clear hpf h2 he
    go_wp2_with (first | (go_at_call 69; (with_reducible refine (rerr_ok _ _ _ _ (H.getHeap mE)).mono ?_); rintro e w1 ⟨v, rfl, hr⟩; obtain ⟨rfl, hb1⟩ := hr; replace H := H.grow hb1; clear hb1) | (with_reducible refine wpl rfl (ldQ (ty := 121) rfl ?_); first | (with_reducible refine (Stp.ldo rfl agg121 rfl H (by assumption) (by assumption) ?_); simp only [pS]) | (with_reducible refine (Stp.ldc rfl agg121 rfl H mR cE ?_); simp only [pS])) | (with_reducible refine wpl rfl (stQ (ty := 31) rfl ?_); first | (with_reducible refine (Stp.stc rfl size31 rfl rfl rfl rfl H uP (by first | omega | (simp; done) | (simp; omega)) ?_); clear H; intro w1 H; simp only [pS]; simp only [pE, nC, pS] at H)))
    have H5 : St B w0 _ (row 144 g #[.slice A m9 c9, .int .i64 (e' : Int)] :: slc 30 2 (.slice none 0 0) 0 [] :: M) := (((H.nil 30 2).pull (r := row 144 g #[.slice A m9 c9, .int .i64 (e' : Int)]) pU)).sub sU
    exact post_cellG rfl agg31 rfl H mE rfl ⟨_, rfl, _, l, e', none, 0, [], rfl, HPF, HB.out, H5⟩
end Go.Proofs.Ytmokecicjmjkbaa
namespace Go.Proofs.Ytmokecicjmjkbaa
open Go.ChangeShapes Go.WideShapes Go.ChangeAt Go.RowKit Go.Deep
set_option linter.unusedVariables false
set_option linter.unusedSimpArgs false
set_option linter.unusedSectionVars false
set_option maxRecDepth 100000
set_option maxHeartbeats 2000000
section
variable {P : Program} {ops : Array Oper} {a : Act} {o : Oper} {w : World} {N : Act → World → Prop}
theorem Stp.sltoG {ty e : TypeId} {x y : Operand} {A : Option Addr} {n c k : Nat} {kd : IntKind} {z : Int} (d : Tmp) (hd : o.dst = some d) (ho : o.op = .slice ty x none (some y) none) (ht : P.underlying ty = some (.slice e)) (hs : ∀ W : World, (sizeOf e).run P W = .ok 1 W)
    (hx : a.eval x = .slice A n c) (hy : a.eval y = .int kd z) (hz : z = (k : Int)) (hk : k ≤ c) (h : N (a.put (some d) (.slice A k c)) w) : Stp P o a w N := by
  rw [← hd] at h
  subst hz
  refine ⟨w, .inl ⟨_, ?_, h⟩⟩
  unfold execOp; simp only [ho]
  simp [hx, hy, Instr.sliceAt, run_underlying ht, run_toG ht hs hk]
end
end Go.Proofs.Ytmokecicjmjkbaa
namespace Go.Proofs.Ytmokecicjmjkbaa
open Go.ChangeShapes Go.WideShapes Go.ChangeAt Go.RowKit Go.Maps
set_option linter.unusedVariables false
set_option linter.unusedSimpArgs false
theorem eqPD_no (a b c d : Nat) (h : (a, b) ≠ (c, d)) (w : World) : (Op.equalIn 10000 30 (.agg #[.int .u16 (a : Int), .int .u32 (b : Int)]) (.agg #[.int .u16 (c : Int), .int .u32 (d : Int)])).run Try.prog w = .ok false w := by
  rw [eqPD]
  congr 1
  rw [Bool.and_eq_false_iff]
  by_cases h1 : a = c
  · refine .inr ?_
    have : b ≠ d := fun e => h (by rw [h1, e])
    simp; omega
  · refine .inl ?_
    simp; omega
theorem eqPD_yes (a b : Nat) (w : World) : (Op.equalIn 10000 30 (.agg #[.int .u16 (a : Int), .int .u32 (b : Int)]) (.agg #[.int .u16 (a : Int), .int .u32 (b : Int)])).run Try.prog w = .ok true w := eqPD_self _ _ w
theorem eqg_PD : Try.prog.eqGuardType Try.prog.depth 30 = false := by kernel_rfl
theorem getD_at {α : Type} {l : List α} {k : Nat} {d : α} (h : k < l.length) : l.getD k d = l[k] := by simp [List.getD, h]
set_option maxRecDepth 100000 in
set_option maxHeartbeats 1000000 in
theorem peq_ok (va vb : Value) (l m : List Pr) (w : World) (ha : Sl w 2 l.length va (elQ l)) (hb : Sl w 2 m.length vb (elQ m)) :
    Calls Try.prog 138 #[va, vb] w (Ret fun v w' => v = .bool (decide (l = m)) ∧ Below w.heap.size w w') := by
  have H := St.init w
  have ha' := ha
  have hb' := hb
  obtain ⟨aa, ca, rfl, hma, _⟩ := ha'
  obtain ⟨ab, cb, rfl, hmb, _⟩ := hb'
  unfold maxLen at hma hmb
  by_cases hlen : l.length = m.length
  · obtain ⟨n, hn⟩ : ∃ n, m.length = n := ⟨_, rfl⟩
    have hln : l.length = n := hlen.trans hn
    have HN := Lib.hid hn
    have HL := Lib.hid hln
    rw [hn] at hb hmb
    rw [hln] at ha hma
    simp only [hn, hln]
    clear hn hln hlen
    go_enter Try.func138, Try.ntmps138
    go_wp2_with fail
    go_loopw [13] (fun i wr => ∃ k : Nat, k ≤ n ∧ i = .int .i64 k ∧ Hid (l.take k = m.take k) ∧ St w.heap.size w wr []) (fun i _ => n - (intOf i).toNat)
    case atStart => exact ⟨0, Nat.zero_le _, rfl, Lib.hid (by simp), H⟩
    case round =>
      clear H
      obtain ⟨k, hk, rfl, HT, H⟩ := hrel
      by_cases hlt : k < n
      · have hl1 : k < l.length := by rw [HL.out]; exact hlt
        have hm1 : k < m.length := by rw [HN.out]; exact hlt
        obtain ⟨b1, o1, rfl, hb1⟩ := ha.addr (by omega)
        obtain ⟨b2, o2, rfl, hb2⟩ := hb.addr (by omega)
        have hc1 := ha.cell hlt
        have hc2 := hb.cell hlt
        unfold elQ at hc1 hc2
        rw [getD_at hl1] at hc1
        rw [getD_at hm1] at hc2
        have hs1 := List.take_succ_eq_append_getElem hl1
        have hs2 := List.take_succ_eq_append_getElem hm1
        obtain ⟨⟨x, y⟩, hx⟩ : ∃ x, l[k] = x := ⟨_, rfl⟩
        obtain ⟨⟨z, t⟩, hz⟩ : ∃ z, m[k] = z := ⟨_, rfl⟩
        rw [hx] at hc1 hs1
        rw [hz] at hc2 hs2
        have kli : (k : Int) < (n : Int) := by omega
        by_cases he0 : (x, y) = (z, t)
        · injection he0 with e1 e2
          subst e1 e2
          have he := eqPD_yes x y
          have HS1 := Lib.hid hs1
          have HS2 := Lib.hid hs2
          clear hs1 hs2 hx hz
          go_wp2_with fail
          refine rg_begin 9 rfl (S := fun W => St _ _ W _) (by kernel_rfl) H.drew ?_
          replace H := H.drew
          have HS := H
          refine rg_take (i := 0) rfl kR kR kR (Yld.move rfl rfl) HS ?_; simp only [pS, pE]
          refine rg_take (i := 1) rfl kR kR kR (Yld.move rfl rfl) HS ?_; simp only [pS, pE]
          refine rg_take (i := 2) rfl kR kR kR (Yld.o rfl) HS ?_; simp only [pS]
          first | (refine rg_take (i := 3) rfl kR kR kR (Yld.ldor rfl rfl agg30 size30 rfl (by assumption) sZ (by assumption)) HS ?_; simp only [pS]) | (refine rg_take (i := 3) rfl kR kR kR (Yld.ldr rfl rfl agg30 size30 rfl mR sZ) HS ?_; simp only [pS]) | (refine rg_take (i := 3) rfl kR kR kR (Yld.ldl rfl rfl agg30 size30 rfl mR (by simp)) HS ?_; simp only [pS]; simp only [List.drop_succ_cons, List.drop_zero, List.take_succ_cons, List.take_zero])
          refine rg_take (i := 4) rfl kR kR kR (Yld.move rfl rfl) HS ?_; simp only [pS, pE]
          refine rg_take (i := 5) rfl kR kR kR (Yld.move rfl rfl) HS ?_; simp only [pS, pE]
          refine rg_take (i := 6) rfl kR kR kR (Yld.o rfl) HS ?_; simp only [pS]
          first | (refine rg_take (i := 7) rfl kR kR kR (Yld.ldor rfl rfl agg30 size30 rfl (by assumption) sZ (by assumption)) HS ?_; simp only [pS]) | (refine rg_take (i := 7) rfl kR kR kR (Yld.ldr rfl rfl agg30 size30 rfl mR sZ) HS ?_; simp only [pS]) | (refine rg_take (i := 7) rfl kR kR kR (Yld.ldl rfl rfl agg30 size30 rfl mR (by simp)) HS ?_; simp only [pS]; simp only [List.drop_succ_cons, List.drop_zero, List.take_succ_cons, List.take_zero])
          refine rg_take (i := 8) rfl kR kR kR (Yld.o rfl) HS ?_; simp only [pS]
          refine rg_done (by kernel_rfl) ?_
          go_wp2_with fail
          go_roundw
          case rel => exact ⟨k + 1, by omega, by go_num, Lib.hid (by rw [HS1.out, HS2.out, HT.out]), H⟩
          case measure => simp [intOf]; omega
        · have he := eqPD_no x y z t he0
          have hnn : ¬ l = m := fun e => he0 (by subst e; rw [← hx, ← hz])
          have hne : decide (l = m) = false := decide_eq_false hnn
          have HNE := Lib.hid hne
          clear hs1 hs2 hx hz hne hnn he0
          go_wp2_with fail
          refine rg_begin 9 rfl (S := fun W => St _ _ W _) (by kernel_rfl) H.drew ?_
          replace H := H.drew
          have HS := H
          refine rg_take (i := 0) rfl kR kR kR (Yld.move rfl rfl) HS ?_; simp only [pS, pE]
          refine rg_take (i := 1) rfl kR kR kR (Yld.move rfl rfl) HS ?_; simp only [pS, pE]
          refine rg_take (i := 2) rfl kR kR kR (Yld.o rfl) HS ?_; simp only [pS]
          first | (refine rg_take (i := 3) rfl kR kR kR (Yld.ldor rfl rfl agg30 size30 rfl (by assumption) sZ (by assumption)) HS ?_; simp only [pS]) | (refine rg_take (i := 3) rfl kR kR kR (Yld.ldr rfl rfl agg30 size30 rfl mR sZ) HS ?_; simp only [pS]) | (refine rg_take (i := 3) rfl kR kR kR (Yld.ldl rfl rfl agg30 size30 rfl mR (by simp)) HS ?_; simp only [pS]; simp only [List.drop_succ_cons, List.drop_zero, List.take_succ_cons, List.take_zero])
          refine rg_take (i := 4) rfl kR kR kR (Yld.move rfl rfl) HS ?_; simp only [pS, pE]
          refine rg_take (i := 5) rfl kR kR kR (Yld.move rfl rfl) HS ?_; simp only [pS, pE]
          refine rg_take (i := 6) rfl kR kR kR (Yld.o rfl) HS ?_; simp only [pS]
          first | (refine rg_take (i := 7) rfl kR kR kR (Yld.ldor rfl rfl agg30 size30 rfl (by assumption) sZ (by assumption)) HS ?_; simp only [pS]) | (refine rg_take (i := 7) rfl kR kR kR (Yld.ldr rfl rfl agg30 size30 rfl mR sZ) HS ?_; simp only [pS]) | (refine rg_take (i := 7) rfl kR kR kR (Yld.ldl rfl rfl agg30 size30 rfl mR (by simp)) HS ?_; simp only [pS]; simp only [List.drop_succ_cons, List.drop_zero, List.take_succ_cons, List.take_zero])
          refine rg_take (i := 8) rfl kR kR kR (Yld.o rfl) HS ?_; simp only [pS]
          refine rg_done (by kernel_rfl) ?_
          go_wp2_with fail
          go_ret
          exact ⟨_, rfl, by rw [HNE.out]; rfl, H.below⟩
      · obtain rfl : k = n := by omega
        have hE : decide (l = m) = true := by
          refine decide_eq_true ?_
          have := HT.out
          rw [List.take_of_length_le (by rw [HL.out]; omega), List.take_of_length_le (by rw [HN.out]; omega)] at this
          exact this
        have HE := Lib.hid hE
        clear hE
        go_wp2_with fail
        go_ret
        exact ⟨_, rfl, by rw [HE.out]; rfl, H.below⟩
  · have hd : decide (l = m) = false := decide_eq_false (fun e => hlen (by rw [e]))
    have HD := Lib.hid hd
    have hli : ((l.length : Int) != (m.length : Int)) = true := by simp; omega
    clear hd
    go_enter Try.func138, Try.ntmps138
    go_wp2_with fail
    go_ret
    exact ⟨_, rfl, by rw [HD.out]; rfl, H.below⟩
/-- One of some leaves: its header's cell, and what it reads as. -/
theorem LvG.at {G : Nat → Prop} {w : World} {a : Option Addr} {n c : Nat} {ls : List (List Pr)} (h : LvG G w (.slice a n c) ls) (hn : ls.length = n) {k : Nat} (hk : k < ls.length) :
    ∃ b off ak ck, a = some ⟨b, off, none⟩ ∧ b < w.heap.size ∧ w.cell? ⟨b, off + k, none⟩ = some (.slice ak ls[k].length ck) ∧ SlG G w 2 ls[k].length (.slice ak ls[k].length ck) (elQ ls[k]) := by
  obtain ⟨hd, h1, h2⟩ := h
  obtain ⟨a', c', e, hm, hE⟩ := h1
  obtain ⟨b, off, e2, hG, hb, hc⟩ := hE (by omega)
  injection e with e _ _
  have h3 := h2 k hk
  rw [getD_at hk] at h3
  obtain ⟨ak, ck, hs⟩ := h3.shape
  rw [hs] at h3
  refine ⟨b, off, ak, ck, e.trans e2, hb, ?_, h3⟩
  have := hc k hk 0 (by omega)
  rw [Nat.mul_one, Nat.add_zero] at this
  rw [this, ← hs]
  rfl
set_option maxRecDepth 100000 in
set_option maxHeartbeats 1000000 in
theorem lveq_ok {G1 G2 : Nat → Prop} (va vb : Value) (l m : List (List Pr)) (w : World) (ha : LvG G1 w va l) (hb : LvG G2 w vb m) :
    Calls Try.prog 139 #[va, vb, .func (.func 138) #[] #[]] w (Ret fun v w' => v = .bool (decide (l = m)) ∧ Below w.heap.size w w') := by
  have H := St.init w
  have ha' := ha
  have hb' := hb
  obtain ⟨_, h1, _⟩ := ha'
  obtain ⟨_, h2, _⟩ := hb'
  obtain ⟨aa, ca, rfl, hma, _⟩ := h1
  obtain ⟨ab, cb, rfl, hmb, _⟩ := h2
  unfold maxLen at hma hmb
  by_cases hlen : l.length = m.length
  · obtain ⟨n, hn⟩ : ∃ n, m.length = n := ⟨_, rfl⟩
    have hln : l.length = n := hlen.trans hn
    have HN := Lib.hid hn
    have HL := Lib.hid hln
    rw [hn] at hb hmb
    rw [hln] at ha hma
    simp only [hn, hln]
    clear hn hln hlen
    go_enter Try.func139, Try.ntmps139
    go_wp2_with (first | (with_reducible refine wpl rfl (ldQ (ty := 31) rfl ?_); first | (with_reducible refine (Stp.ldo rfl agg31 rfl H (by assumption) (by assumption) ?_); simp only [pS]) | (with_reducible refine (Stp.ldc rfl agg31 rfl H mR cE ?_); simp only [pS])))
    go_loopw [17] (fun i wr => ∃ k : Nat, k ≤ n ∧ i = .int .i64 k ∧ Hid (l.take k = m.take k) ∧ St w.heap.size w wr []) (fun i _ => n - (intOf i).toNat)
    case atStart => exact ⟨0, Nat.zero_le _, rfl, Lib.hid (by simp), H⟩
    case round =>
      clear H
      obtain ⟨k, hk, rfl, HT, H⟩ := hrel
      by_cases hlt : k < n
      · have hl1 : k < l.length := by rw [HL.out]; exact hlt
        have hm1 : k < m.length := by rw [HN.out]; exact hlt
        obtain ⟨b1, o1, a1, c1, rfl, hb1, hc1, hs1⟩ := ha.at HL.out hl1
        obtain ⟨b2, o2, a2, c2, rfl, hb2, hc2, hs2⟩ := hb.at HN.out hm1
        have ht1 := List.take_succ_eq_append_getElem hl1
        have ht2 := List.take_succ_eq_append_getElem hm1
        obtain ⟨x, hx⟩ : ∃ x, l[k] = x := ⟨_, rfl⟩
        obtain ⟨z, hz⟩ : ∃ z, m[k] = z := ⟨_, rfl⟩
        rw [hx] at hc1 ht1 hs1
        rw [hz] at hc2 ht2 hs2
        have kli : (k : Int) < (n : Int) := by omega
        have HT1 := Lib.hid ht1
        have HT2 := Lib.hid ht2
        by_cases he0 : x = z
        · have hE : decide (x = z) = true := decide_eq_true he0
          have HE := Lib.hid hE
          have HX := Lib.hid he0
          clear ht1 ht2 hx hz hE he0
          go_wp2_with (first | (go_at_call 138; (with_reducible refine (peq_ok _ _ x z _ (hs1.sl.grow H.below) (hs2.sl.grow H.below)).mono ?_); rintro e w1 ⟨v, rfl, hr⟩; obtain ⟨rfl, hb1⟩ := hr; replace H := H.grow hb1; clear hb1; rw [HE.out]) | (with_reducible refine wpl rfl (ldQ (ty := 31) rfl ?_); first | (with_reducible refine (Stp.ldo rfl agg31 rfl H (by assumption) (by assumption) ?_); simp only [pS]) | (with_reducible refine (Stp.ldc rfl agg31 rfl H mR cE ?_); simp only [pS])))
          go_roundw
          case rel => exact ⟨k + 1, by omega, by go_num, Lib.hid (by rw [HT1.out, HT2.out, HT.out, HX.out]), H⟩
          case measure => simp [intOf]; omega
        · have hnn : ¬ l = m := fun e => he0 (by subst e; rw [← hx, ← hz])
          have HNE := Lib.hid (decide_eq_false hnn)
          have HE := Lib.hid (decide_eq_false he0)
          clear ht1 ht2 hx hz hnn he0
          go_wp2_with (first | (go_at_call 138; (with_reducible refine (peq_ok _ _ x z _ (hs1.sl.grow H.below) (hs2.sl.grow H.below)).mono ?_); rintro e w1 ⟨v, rfl, hr⟩; obtain ⟨rfl, hb1⟩ := hr; replace H := H.grow hb1; clear hb1; rw [HE.out]) | (with_reducible refine wpl rfl (ldQ (ty := 31) rfl ?_); first | (with_reducible refine (Stp.ldo rfl agg31 rfl H (by assumption) (by assumption) ?_); simp only [pS]) | (with_reducible refine (Stp.ldc rfl agg31 rfl H mR cE ?_); simp only [pS])))
          go_ret
          exact ⟨_, rfl, by rw [HNE.out]; rfl, H.below⟩
      · obtain rfl : k = n := by omega
        have hE : decide (l = m) = true := by
          refine decide_eq_true ?_
          have := HT.out
          rw [List.take_of_length_le (by rw [HL.out]; omega), List.take_of_length_le (by rw [HN.out]; omega)] at this
          exact this
        have HE := Lib.hid hE
        clear hE
        go_wp2_with (first | (with_reducible refine wpl rfl (ldQ (ty := 31) rfl ?_); first | (with_reducible refine (Stp.ldo rfl agg31 rfl H (by assumption) (by assumption) ?_); simp only [pS]) | (with_reducible refine (Stp.ldc rfl agg31 rfl H mR cE ?_); simp only [pS])))
        go_ret
        exact ⟨_, rfl, by rw [HE.out]; rfl, H.below⟩
  · have hd : decide (l = m) = false := decide_eq_false (fun e => hlen (by rw [e]))
    have HD := Lib.hid hd
    have hli : ((l.length : Int) != (m.length : Int)) = true := by simp; omega
    clear hd
    go_enter Try.func139, Try.ntmps139
    go_wp2_with (first | (with_reducible refine wpl rfl (ldQ (ty := 31) rfl ?_); first | (with_reducible refine (Stp.ldo rfl agg31 rfl H (by assumption) (by assumption) ?_); simp only [pS]) | (with_reducible refine (Stp.ldc rfl agg31 rfl H mR cE ?_); simp only [pS])))
    go_ret
    exact ⟨_, rfl, by rw [HD.out]; rfl, H.below⟩
end Go.Proofs.Ytmokecicjmjkbaa
