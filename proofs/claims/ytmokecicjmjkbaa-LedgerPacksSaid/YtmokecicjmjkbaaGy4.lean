/- Layer 7's Reader (body), whatever is wrong: what it answers, as a function of the bytes that are left and of what stopped it; num, fail, Err, End; the bounds stand in each. Layer 7's Reader (body), whatever is wrong: Bytes, and what stands round each reading (whole); the bounds stand in each. What layer 7's Reader does round each reading (body), whatever is wrong; no condition. -/
import Derived.Defers
import Derived.Test.YtmokecicjmjkbaaGy3
namespace Go.Proofs.Ytmokecicjmjkbaa
open Go.ChangeShapes Go.WideShapes Go.ChangeAt Go.RowKit Go.Deep
set_option linter.unusedVariables false
set_option linter.unusedSimpArgs false
set_option linter.unusedSectionVars false
set_option maxRecDepth 100000
set_option maxHeartbeats 2000000
/-- s is a slice of the bytes l, as long as L stays. -/
def Byt (B : Nat) (w0 : World) (L : List Res) (s : Value) (l : List Nat) : Prop := ∃ A n c, s = .slice A n c ∧ l.length = n ∧ n ≤ c ∧ (∀ x ∈ l, x < 256) ∧ n ≤ 100000 ∧ Rd B w0 L fun W => Sl W 1 l.length (.slice A n c) (elB l)
theorem Byt.drop {B : Nat} {w0 : World} {L : List Res} {A A' : Option Addr} {n c k : Nat} {l r : List Nat} (hl : l.length = n) (hc : n ≤ c) (hx : ∀ x ∈ l, x < 256) (hn : n ≤ 100000) (h : Rd B w0 L fun W => Sl W 1 l.length (.slice A n c) (elB l)) (hk : k ≤ n) (hA : A' = (if c = k then A else A.map (·.add k))) (hr : l.drop k = r) : Byt B w0 L (.slice A' (n - k) (c - k)) r := by
  subst hr
  exact ⟨A', n - k, c - k, rfl, by rw [List.length_drop, hl], by omega, lens hx k, by omega, fun W hb hr => sl_from k (h W hb hr) hl hk hc hA⟩
/-- The bytes that are left, and what stopped it. -/
abbrev Rs := List Nat × Nat
/-- A number is read, at most 'most'. -/
def numF (most : Nat) (s : Rs) : Nat × Rs :=
  if s.2 ≠ 0 then (0, s)
  else if (gs s.1 10 0 0).2.2 ≠ 0 then (0, (s.1, (gs s.1 10 0 0).2.2))
  else if most < (gs s.1 10 0 0).1 then (0, (s.1, 3))
  else ((gs s.1 10 0 0).1, (s.1.drop (gs s.1 10 0 0).2.1, 0))
theorem numF_bad {most : Nat} {l : List Nat} {e : Nat} (h : e ≠ 0) : numF most (l, e) = (0, (l, e)) := if_pos h
theorem numF_err {most : Nat} {l : List Nat} {a b c : Nat} (h : gs l 10 0 0 = (a, b, c)) (hc : c ≠ 0) : numF most (l, 0) = (0, (l, c)) := by
  unfold numF; simp only [h]; rw [if_neg (by simp), if_pos hc]
theorem numF_long {most : Nat} {l : List Nat} {a b : Nat} (h : gs l 10 0 0 = (a, b, 0)) (hm : most < a) : numF most (l, 0) = (0, (l, 3)) := by
  unfold numF; simp only [h]; rw [if_neg (by simp), if_neg (by simp), if_pos hm]
theorem numF_ok {most : Nat} {l : List Nat} {a b : Nat} (h : gs l 10 0 0 = (a, b, 0)) (hm : ¬ most < a) : numF most (l, 0) = (a, (l.drop b, 0)) := by
  unfold numF; simp only [h]; rw [if_neg (by simp), if_neg (by simp), if_neg hm]
/-- Is all read? -/
def endF (s : Rs) : Nat := if s.2 ≠ 0 then s.2 else if 0 < s.1.length then 5 else 0
theorem rerr_ok (g e : Nat) (s : Value) (w : World) (hc : w.heap[g]? = some (.cells #[s, .int .i64 (e : Int)] 144 (0, 0))) :
    Calls Try.prog 69 #[.pointer (some ⟨g, 0, none⟩)] w (Ret fun v w' => v = .int .i64 (e : Int) ∧ Below w.heap.size w w') := by
  have hc1 : w.cell? ⟨g, 1, none⟩ = some (.int .i64 (e : Int)) := by rw [cell_of_rowAt (rowAt_of hc)]; rfl
  have hg : g < w.heap.size := rowAt_lt (rowAt_of hc)
  clear hc
  have H := St.init w
  go_enter Try.func69, Try.ntmps69
  go_wp2_with (first | (with_reducible refine wpl rfl (ldQ (ty := 37) rfl ?_); first | (with_reducible refine (Stp.ldo rfl agg37 rfl H (by assumption) (by assumption) ?_); simp only [pS]) | (with_reducible refine (Stp.ldc rfl agg37 rfl H mR cE ?_); simp only [pS])))
  go_ret
  exact ⟨_, rfl, rfl, H.below⟩
theorem rfail_ok {B : Nat} {w0 : World} {M : List Res} (g : Nat) (s : Value) (e c : Nat) (he : e = 0) (w : World) (H : St B w0 w (row 144 g #[s, .int .i64 (e : Int)] :: M)) :
    Calls Try.prog 93 #[.pointer (some ⟨g, 0, none⟩), .int .i64 (c : Int)] w (Ret fun v w' => v = .tuple #[] ∧ St B w0 w' (row 144 g #[s, .int .i64 (c : Int)] :: M)) := by
  have hei : ((e : Int) == 0) = true := by simp [he]
  clear he
  go_enter Try.func93, Try.ntmps93
  go_wp2_with (first | (with_reducible refine wpl rfl (ldQ (ty := 37) rfl ?_); first | (with_reducible refine (Stp.ldo rfl agg37 rfl H (by assumption) (by assumption) ?_); simp only [pS]) | (with_reducible refine (Stp.ldc rfl agg37 rfl H mR cE ?_); simp only [pS])) | (with_reducible refine wpl rfl (stQ (ty := 37) rfl ?_); first | (with_reducible refine (Stp.stc rfl size37 rfl rfl rfl rfl H uP (by first | omega | (simp; done) | (simp; omega)) ?_); clear H; intro w1 H; simp only [pS]; simp only [pE, nC, pS] at H)))
  go_end0
  exact ⟨_, rfl, rfl, H⟩
theorem rfail2_ok {B : Nat} {w0 : World} {M : List Res} (g : Nat) (s : Value) (e : Nat) (he : e = 0) (w : World) (H : St B w0 w (row 144 g #[s, .int .i64 (e : Int)] :: M)) :
    Calls Try.prog 93 #[.pointer (some ⟨g, 0, none⟩), .int .i64 2] w (Ret fun v w' => v = .tuple #[] ∧ St B w0 w' (row 144 g #[s, .int .i64 ((2 : Nat) : Int)] :: M)) := rfail_ok g s e 2 he w H
theorem rfail3_ok {B : Nat} {w0 : World} {M : List Res} (g : Nat) (s : Value) (e : Nat) (he : e = 0) (w : World) (H : St B w0 w (row 144 g #[s, .int .i64 (e : Int)] :: M)) :
    Calls Try.prog 93 #[.pointer (some ⟨g, 0, none⟩), .int .i64 3] w (Ret fun v w' => v = .tuple #[] ∧ St B w0 w' (row 144 g #[s, .int .i64 ((3 : Nat) : Int)] :: M)) := rfail_ok g s e 3 he w H
theorem numG_ok {B : Nat} {w0 : World} {L M : List Res} (g : Nat) (s : Value) (l : List Nat) (e most : Nat) (hb : Byt B w0 L s l) (hML : L.Sublist M) (w : World) (H : St B w0 w (row 144 g #[s, .int .i64 (e : Int)] :: M)) :
    Calls Try.prog 92 #[.pointer (some ⟨g, 0, none⟩), .int .u64 (most : Int)] w (Ret fun v w' => v = .int .u64 ((numF most (l, e)).1 : Int) ∧ ∃ s', Byt B w0 L s' (numF most (l, e)).2.1 ∧ St B w0 w' (row 144 g #[s', .int .i64 ((numF most (l, e)).2.2 : Int)] :: M)) := by
  by_cases he : e ≠ 0
  · have hei : ((e : Int) != 0) = true := by simp; omega
    rw [numF_bad he]
    clear he
    go_enter Try.func92, Try.ntmps92
    go_wp2_with (first | (with_reducible refine wpl rfl (ldQ (ty := 37) rfl ?_); first | (with_reducible refine (Stp.ldo rfl agg37 rfl H (by assumption) (by assumption) ?_); simp only [pS]) | (with_reducible refine (Stp.ldc rfl agg37 rfl H mR cE ?_); simp only [pS])) | (with_reducible refine wpl rfl (ldQ (ty := 22) rfl ?_); first | (with_reducible refine (Stp.ldo rfl agg22 rfl H (by assumption) (by assumption) ?_); simp only [pS]) | (with_reducible refine (Stp.ldc rfl agg22 rfl H mR cE ?_); simp only [pS])) | (with_reducible refine wpl rfl (stQ (ty := 22) rfl ?_); first | (with_reducible refine (Stp.stc rfl size22 rfl rfl rfl rfl H uP (by first | omega | (simp; done) | (simp; omega)) ?_); clear H; intro w1 H; simp only [pS]; simp only [pE, nC, pS] at H)))
    go_ret
    exact ⟨_, rfl, rfl, s, hb, H⟩
  obtain rfl : e = 0 := by omega
  have hei : (((0 : Nat) : Int) != 0) = false := by simp
  have HE0 : Hid ((0 : Nat) = 0) := Lib.hid rfl
  clear he
  obtain ⟨a, b, c, hg⟩ : ∃ a b c, gs l 10 0 0 = (a, b, c) := ⟨_, _, _, rfl⟩
  have hb0 := hb
  obtain ⟨A, m, cc, rfl, hlm, hmc, hx, hm1, hrd⟩ := hb
  have hle := gs_le l 10 0 0 a b c hg
  have HG := Lib.hid hg
  have HX := Lib.hid hx
  have HL := Lib.hid hlm
  clear hx hlm
  by_cases hc : c ≠ 0
  · have hci : ((c : Int) != 0) = true := by simp; omega
    rw [numF_err hg hc]
    clear hc hle hg
    go_enter Try.func92, Try.ntmps92
    go_wp2_with (first | (go_at_call 121; (with_reducible refine (getshort_ok _ l (by have := HL.out; omega) HX.out _ (hrd.at H (.cons _ hML)) a b c HG.out).mono ?_); rintro e w1 ⟨v, rfl, hr⟩; obtain ⟨rfl, hb1⟩ := hr; replace H := H.grow hb1; clear hb1) | (go_at_call 93; (with_reducible refine (rfail_ok g _ 0 c rfl _ H).mono ?_); rintro e w1 ⟨v, rfl, hr⟩; obtain ⟨rfl, H2⟩ := hr; clear H; have H := H2; clear H2) | (with_reducible refine wpl rfl (ldQ (ty := 37) rfl ?_); first | (with_reducible refine (Stp.ldo rfl agg37 rfl H (by assumption) (by assumption) ?_); simp only [pS]) | (with_reducible refine (Stp.ldc rfl agg37 rfl H mR cE ?_); simp only [pS])) | (with_reducible refine wpl rfl (ldQ (ty := 22) rfl ?_); first | (with_reducible refine (Stp.ldo rfl agg22 rfl H (by assumption) (by assumption) ?_); simp only [pS]) | (with_reducible refine (Stp.ldc rfl agg22 rfl H mR cE ?_); simp only [pS])) | (with_reducible refine wpl rfl (stQ (ty := 22) rfl ?_); first | (with_reducible refine (Stp.stc rfl size22 rfl rfl rfl rfl H uP (by first | omega | (simp; done) | (simp; omega)) ?_); clear H; intro w1 H; simp only [pS]; simp only [pE, nC, pS] at H)))
    go_ret
    exact ⟨_, rfl, rfl, _, hb0, H⟩
  obtain rfl : c = 0 := by omega
  have hci : (((0 : Nat) : Int) != 0) = false := by simp
  by_cases hm : most < a
  · have hmi : (most : Int) < (a : Int) := by omega
    rw [numF_long hg hm]
    clear hc hle hg hm
    go_enter Try.func92, Try.ntmps92
    go_wp2_with (first | (go_at_call 121; (with_reducible refine (getshort_ok _ l (by have := HL.out; omega) HX.out _ (hrd.at H (.cons _ hML)) a b 0 HG.out).mono ?_); rintro e w1 ⟨v, rfl, hr⟩; obtain ⟨rfl, hb1⟩ := hr; replace H := H.grow hb1; clear hb1) | (go_at_call 93; (with_reducible refine (rfail3_ok g _ 0 rfl _ H).mono ?_); rintro e w1 ⟨v, rfl, hr⟩; obtain ⟨rfl, H2⟩ := hr; clear H; have H := H2; clear H2) | (with_reducible refine wpl rfl (ldQ (ty := 37) rfl ?_); first | (with_reducible refine (Stp.ldo rfl agg37 rfl H (by assumption) (by assumption) ?_); simp only [pS]) | (with_reducible refine (Stp.ldc rfl agg37 rfl H mR cE ?_); simp only [pS])) | (with_reducible refine wpl rfl (ldQ (ty := 22) rfl ?_); first | (with_reducible refine (Stp.ldo rfl agg22 rfl H (by assumption) (by assumption) ?_); simp only [pS]) | (with_reducible refine (Stp.ldc rfl agg22 rfl H mR cE ?_); simp only [pS])) | (with_reducible refine wpl rfl (stQ (ty := 22) rfl ?_); first | (with_reducible refine (Stp.stc rfl size22 rfl rfl rfl rfl H uP (by first | omega | (simp; done) | (simp; omega)) ?_); clear H; intro w1 H; simp only [pS]; simp only [pE, nC, pS] at H)))
    go_ret
    exact ⟨_, rfl, rfl, _, hb0, H⟩
  · have hmi : ¬ (most : Int) < (a : Int) := by omega
    have hbm : b ≤ m := by have := (hle.2 rfl).2; have := HL.out; omega
    rw [numF_ok hg hm]
    clear hc hle hg hm
    go_enter Try.func92, Try.ntmps92
    go_wp2_with (first | (go_at_call 121; (with_reducible refine (getshort_ok _ l (by have := HL.out; omega) HX.out _ (hrd.at H (.cons _ hML)) a b 0 HG.out).mono ?_); rintro e w1 ⟨v, rfl, hr⟩; obtain ⟨rfl, hb1⟩ := hr; replace H := H.grow hb1; clear hb1) | (with_reducible refine wpl rfl (dQ 40 rfl ?_); with_reducible refine (Stp.slfrom (k := b) 40 rfl rfl Try.underlying22 size5 rfl rfl (by omega) (by omega) ?_); intro A8 hA8; have H8 := Lib.hid hA8; clear hA8; simp only [pS]) | (with_reducible refine wpl rfl (ldQ (ty := 37) rfl ?_); first | (with_reducible refine (Stp.ldo rfl agg37 rfl H (by assumption) (by assumption) ?_); simp only [pS]) | (with_reducible refine (Stp.ldc rfl agg37 rfl H mR cE ?_); simp only [pS])) | (with_reducible refine wpl rfl (ldQ (ty := 22) rfl ?_); first | (with_reducible refine (Stp.ldo rfl agg22 rfl H (by assumption) (by assumption) ?_); simp only [pS]) | (with_reducible refine (Stp.ldc rfl agg22 rfl H mR cE ?_); simp only [pS])) | (with_reducible refine wpl rfl (stQ (ty := 22) rfl ?_); first | (with_reducible refine (Stp.stc rfl size22 rfl rfl rfl rfl H uP (by first | omega | (simp; done) | (simp; omega)) ?_); clear H; intro w1 H; simp only [pS]; simp only [pE, nC, pS] at H)))
    go_ret
    exact ⟨_, rfl, rfl, _, Byt.drop HL.out hmc HX.out hm1 hrd hbm H8.out rfl, H⟩
theorem rendG_ok {B : Nat} {w0 : World} {L M : List Res} (g : Nat) (s : Value) (l : List Nat) (e : Nat) (hb : Byt B w0 L s l) (w : World) (H : St B w0 w (row 144 g #[s, .int .i64 (e : Int)] :: M)) :
    Calls Try.prog 71 #[.pointer (some ⟨g, 0, none⟩)] w (Ret fun v w' => v = .int .i64 (endF (l, e) : Int) ∧ St B w0 w' (row 144 g #[s, .int .i64 (e : Int)] :: M)) := by
  obtain ⟨A, m, cc, rfl, hlm, hmc, hx, hm1, hrd⟩ := hb
  by_cases he : e ≠ 0
  · have hei : ((e : Int) != 0) = true := by simp; omega
    have HV : Hid (endF (l, e) = e) := Lib.hid (if_pos he)
    clear he hlm hx hrd
    go_enter Try.func71, Try.ntmps71
    go_wp2_with (first | (go_at_call 69; (with_reducible refine (rerr_ok _ _ _ _ (H.getHeap mE)).mono ?_); rintro e w1 ⟨v, rfl, hr⟩; obtain ⟨rfl, hb1⟩ := hr; replace H := H.grow hb1; clear hb1) | (with_reducible refine wpl rfl (ldQ (ty := 22) rfl ?_); first | (with_reducible refine (Stp.ldo rfl agg22 rfl H (by assumption) (by assumption) ?_); simp only [pS]) | (with_reducible refine (Stp.ldc rfl agg22 rfl H mR cE ?_); simp only [pS])))
    go_ret
    exact ⟨_, rfl, by rw [HV.out]; rfl, H⟩
  obtain rfl : e = 0 := by omega
  have hei : (((0 : Nat) : Int) != 0) = false := by simp
  by_cases hm : 0 < m
  · have hmi : (0 : Int) < (m : Int) := by omega
    have HV : Hid (endF (l, 0) = 5) := Lib.hid (by unfold endF; rw [if_neg (by simp), if_pos (by rw [hlm]; exact hm)])
    clear he hlm hx hrd hm
    go_enter Try.func71, Try.ntmps71
    go_wp2_with (first | (go_at_call 69; (with_reducible refine (rerr_ok _ _ _ _ (H.getHeap mE)).mono ?_); rintro e w1 ⟨v, rfl, hr⟩; obtain ⟨rfl, hb1⟩ := hr; replace H := H.grow hb1; clear hb1) | (with_reducible refine wpl rfl (ldQ (ty := 22) rfl ?_); first | (with_reducible refine (Stp.ldo rfl agg22 rfl H (by assumption) (by assumption) ?_); simp only [pS]) | (with_reducible refine (Stp.ldc rfl agg22 rfl H mR cE ?_); simp only [pS])))
    go_ret
    exact ⟨_, rfl, by rw [HV.out]; rfl, H⟩
  · have hmi : ¬ (0 : Int) < (m : Int) := by omega
    have HV : Hid (endF (l, 0) = 0) := Lib.hid (by unfold endF; rw [if_neg (by simp), if_neg (by rw [hlm]; exact hm)])
    clear he hlm hx hrd hm
    go_enter Try.func71, Try.ntmps71
    go_wp2_with (first | (go_at_call 69; (with_reducible refine (rerr_ok _ _ _ _ (H.getHeap mE)).mono ?_); rintro e w1 ⟨v, rfl, hr⟩; obtain ⟨rfl, hb1⟩ := hr; replace H := H.grow hb1; clear hb1) | (with_reducible refine wpl rfl (ldQ (ty := 22) rfl ?_); first | (with_reducible refine (Stp.ldo rfl agg22 rfl H (by assumption) (by assumption) ?_); simp only [pS]) | (with_reducible refine (Stp.ldc rfl agg22 rfl H mR cE ?_); simp only [pS])))
    go_ret
    exact ⟨_, rfl, by rw [HV.out]; rfl, H⟩
end Go.Proofs.Ytmokecicjmjkbaa
namespace Go.Proofs.Ytmokecicjmjkbaa
open Go.ChangeShapes Go.WideShapes Go.ChangeAt Go.RowKit Go.Deep
set_option linter.unusedVariables false
set_option linter.unusedSimpArgs false
set_option linter.unusedSectionVars false
set_option maxRecDepth 100000
set_option maxHeartbeats 2000000
section
variable {P : Program} {ops : Array Oper} {a : Act} {o : Oper} {S : World → Prop}
theorem run_toG {ty e : TypeId} {A : Option Addr} {n c k : Nat} {kd : IntKind} (ht : P.underlying ty = some (.slice e)) (hs : ∀ W : World, (sizeOf e).run P W = .ok 1 W) (hk : k ≤ c) (W : World) :
    (Instr.slice ty (.slice A n c) none (some (.int kd (k : Int))) none).run P W = .ok (.slice A k c) W := by
  have : (if c = 0 then A else A.map (·.add (0 * 1))) = A := by
    split
    · rfl
    · cases A <;> simp [Addr.add]
  simp [Instr.slice, Instr.sliceBounds, Instr.sliceBound, asIntOf, run_underlying ht, hs, hk]
  intro _
  cases A <;> simp [Addr.add]
theorem Yld.sltoG {ty e : TypeId} {x y : Operand} {A : Option Addr} {n c k : Nat} {kd : IntKind} {z : Int} (hw : Region.wanted o (yielded ops a.tmps) = true) (ho : o.op = .slice ty x none (some y) none) (ht : P.underlying ty = some (.slice e)) (hs : ∀ W : World, (sizeOf e).run P W = .ok 1 W)
    (hx : a.eval x = .slice A n c) (hy : a.eval y = .int kd z) (hz : z = (k : Int)) (hk : k ≤ c) : YieldsIf P ops S o (.slice A k c) a := by
  subst hz
  refine .inl ⟨hw, fun W _ => ?_⟩
  unfold execOp; simp only [ho]
  simp [hx, hy, Instr.sliceAt, run_underlying ht, run_toG ht hs hk]
end
theorem Rd.takeG {B : Nat} {w0 : World} {L : List Res} {A : Option Addr} {n c k : Nat} {l d : List Nat} (h : Rd B w0 L fun W => Sl W 1 l.length (.slice A n c) (elB l)) (hl : l.length = n) (hk : k ≤ n) (hd : l.take k = d) : Rd B w0 L fun W => Sl W 1 d.length (.slice A k c) (elB d) := fun W hb hr => by
  subst hl hd
  have := take_sl k (h W hb hr) hk
  rw [List.length_take, Nat.min_eq_left hk] at this ⊢
  exact this
/-- Bytes are read, at most 'most'. -/
def bytesF (most : Nat) (s : Rs) : List Nat × Rs :=
  if s.2 ≠ 0 then ([], s)
  else if (numF most s).2.2 ≠ 0 then ([], (s.1, (numF most s).2.2))
  else if (numF most s).2.1.length < (numF most s).1 then ([], (s.1, 2))
  else ((numF most s).2.1.take (numF most s).1, ((numF most s).2.1.drop (numF most s).1, 0))
theorem bytesF_keep {most : Nat} {l : List Nat} (h : (bytesF most (l, 0)).2.2 ≠ 0) : (bytesF most (l, 0)).2.1 = l := by
  unfold bytesF at h ⊢
  rw [if_neg (by simp)] at h ⊢
  split
  · rfl
  · rename_i h1
    rw [if_neg h1] at h
    split
    · rfl
    · rename_i h2
      rw [if_neg h2] at h
      exact absurd rfl h
theorem numF_zero {most : Nat} {s : Rs} (h : (numF most s).2.2 ≠ 0) : (numF most s).1 = 0 := by
  unfold numF at h ⊢
  split
  · rfl
  · split
    · rfl
    · split
      · rfl
      · rename_i h1 h2 h3
        rw [if_neg h1, if_neg h2, if_neg h3] at h
        exact absurd rfl h
theorem numF_most {most : Nat} {s : Rs} : (numF most s).1 ≤ most := by
  unfold numF
  split
  · exact Nat.zero_le _
  · split
    · exact Nat.zero_le _
    · split
      · exact Nat.zero_le _
      · rename_i h; exact Nat.le_of_not_lt h
theorem bytes_permG {B : Nat} {w0 w : World} {M : List Res} {a b c d e : Res} (H : St B w0 w (e :: a :: b :: c :: d :: M)) : St B w0 w (a :: b :: c :: d :: e :: M) :=
  H.perm ((List.Perm.swap a e _).trans (((List.Perm.swap b e _).trans (((List.Perm.swap c e _).trans ((List.Perm.swap d e _).cons _)).cons _)).cons _))
theorem bytescG_ok {B : Nat} {w0 : World} {L M : List Res} (g rb mb nb : Nat) (s : Value) (l : List Nat) (most : Nat) (hb : Byt B w0 L s l) (hmo2 : most ≤ 100000) (hML : L.Sublist M) (w : World)
    (H : St B w0 w (row 144 g #[s, .int .i64 ((0 : Nat) : Int)] :: row 121 rb #[.pointer (some ⟨g, 0, none⟩)] :: row 3 mb #[.int .i64 (most : Int)] :: row 22 nb #[.slice none 0 0] :: M)) :
    Calls Try.prog 124 #[.pointer (some ⟨rb, 0, none⟩), .pointer (some ⟨mb, 0, none⟩), .pointer (some ⟨nb, 0, none⟩)] w (Ret fun v w' => v = .tuple #[] ∧ ∃ s' e' ab cb d, bytesF most (l, 0) = (d, ((bytesF most (l, 0)).2.1, e')) ∧ (e' = 0 → Byt B w0 L s' (bytesF most (l, 0)).2.1) ∧ St B w0 w' (row 144 g #[s', .int .i64 (e' : Int)] :: row 121 rb #[.pointer (some ⟨g, 0, none⟩)] :: row 3 mb #[.int .i64 (most : Int)] :: row 22 nb #[.slice ab d.length cb] :: slc 5 1 (.slice ab d.length cb) d.length (bv d) :: M)) := by
  have wm : IntKind.u64.wrap (most : Int) = (most : Int) := wrap_u64_in _ (by omega) (by omega)
  have mm : (if (most : Int) ≥ 0 then (most : Int) else 0) = (most : Int) := if_pos (by omega)
  go_enter Try.func124, Try.ntmps124
  go_wp2_with (first | (with_reducible refine wpl rfl (ldQ (ty := 121) rfl ?_); first | (with_reducible refine (Stp.ldo rfl agg121 rfl H (by assumption) (by assumption) ?_); simp only [pS]) | (with_reducible refine (Stp.ldc rfl agg121 rfl H mR cE ?_); simp only [pS])) | (with_reducible refine wpl rfl (ldQ (ty := 3) rfl ?_); first | (with_reducible refine (Stp.ldo rfl agg3 rfl H (by assumption) (by assumption) ?_); simp only [pS]) | (with_reducible refine (Stp.ldc rfl agg3 rfl H mR cE ?_); simp only [pS])) | (with_reducible refine wpl rfl (ldQ (ty := 22) rfl ?_); first | (with_reducible refine (Stp.ldo rfl agg22 rfl H (by assumption) (by assumption) ?_); simp only [pS]) | (with_reducible refine (Stp.ldc rfl agg22 rfl H mR cE ?_); simp only [pS])) | (with_reducible refine wpl rfl (ldQ (ty := 37) rfl ?_); first | (with_reducible refine (Stp.ldo rfl agg37 rfl H (by assumption) (by assumption) ?_); simp only [pS]) | (with_reducible refine (Stp.ldc rfl agg37 rfl H mR cE ?_); simp only [pS])))
  refine (numG_ok g s l 0 most hb (.cons _ (.cons _ (.cons _ hML))) _ H).mono ?_
  rintro e w1 ⟨v, rfl, rfl, s2, hb2, H2⟩
  clear H hb
  have H := H2
  clear H2
  have hz1 := numF_zero (most := most) (s := (l, 0))
  have hz2 := numF_most (most := most) (s := (l, 0))
  have hBF : bytesF most (l, 0) = if (numF most (l, 0)).2.2 ≠ 0 then ([], (l, (numF most (l, 0)).2.2)) else if (numF most (l, 0)).2.1.length < (numF most (l, 0)).1 then ([], (l, 2)) else ((numF most (l, 0)).2.1.take (numF most (l, 0)).1, ((numF most (l, 0)).2.1.drop (numF most (l, 0)).1, 0)) := if_neg (by simp)
  obtain ⟨⟨n1, l1, e1⟩, hz⟩ : ∃ z, numF most (l, 0) = z := ⟨_, rfl⟩
  rw [hz] at hz1 hz2 hBF hb2 H ⊢
  simp only at hz1 hz2 hBF hb2 H ⊢
  clear hz
  obtain ⟨A, m, c, rfl, hlm, hmc, hx, hm1, hrd⟩ := hb2
  have wm2 : IntKind.u64.wrap (m : Int) = (m : Int) := wrap_u64_in _ (by omega) (by omega)
  by_cases he1 : e1 ≠ 0
  · have hn0 := hz1 he1
    subst hn0
    rw [if_pos he1] at hBF
    have HBF := Lib.hid hBF
    have hdm : ¬ (m : Int) < ((0 : Nat) : Int) := by omega
    have hei : ((e1 : Int) == 0) = false := by simp; omega
    clear hz1 hz2 hBF he1 hlm hx hrd
    go_wp2_with (first | (with_reducible refine wpl rfl (ldQ (ty := 121) rfl ?_); first | (with_reducible refine (Stp.ldo rfl agg121 rfl H (by assumption) (by assumption) ?_); simp only [pS]) | (with_reducible refine (Stp.ldc rfl agg121 rfl H mR cE ?_); simp only [pS])) | (with_reducible refine wpl rfl (ldQ (ty := 3) rfl ?_); first | (with_reducible refine (Stp.ldo rfl agg3 rfl H (by assumption) (by assumption) ?_); simp only [pS]) | (with_reducible refine (Stp.ldc rfl agg3 rfl H mR cE ?_); simp only [pS])) | (with_reducible refine wpl rfl (ldQ (ty := 22) rfl ?_); first | (with_reducible refine (Stp.ldo rfl agg22 rfl H (by assumption) (by assumption) ?_); simp only [pS]) | (with_reducible refine (Stp.ldc rfl agg22 rfl H mR cE ?_); simp only [pS])) | (with_reducible refine wpl rfl (ldQ (ty := 37) rfl ?_); first | (with_reducible refine (Stp.ldo rfl agg37 rfl H (by assumption) (by assumption) ?_); simp only [pS]) | (with_reducible refine (Stp.ldc rfl agg37 rfl H mR cE ?_); simp only [pS])))
    go_end0
    exact ⟨_, rfl, rfl, _, e1, none, 0, [], by rw [HBF.out], (fun h => by rw [h] at hei; simp at hei), bytes_permG (H.nil 5 1)⟩
  obtain rfl : e1 = 0 := by omega
  rw [if_neg (by simp)] at hBF
  clear hz1 he1
  by_cases hlt : l1.length < n1
  · rw [if_pos hlt] at hBF
    have HBF := Lib.hid hBF
    rw [hlm] at hlt
    have hdm : (m : Int) < (n1 : Int) := by omega
    have HE1 : True := trivial
    clear hBF hlt hlm hx hrd hz2
    go_wp2_with (first | (go_at_call 93; (with_reducible refine (rfail2_ok g _ 0 rfl _ H).mono ?_); rintro e w1 ⟨v, rfl, hr⟩; obtain ⟨rfl, H2⟩ := hr; clear H; have H := H2; clear H2) | (with_reducible refine wpl rfl (ldQ (ty := 121) rfl ?_); first | (with_reducible refine (Stp.ldo rfl agg121 rfl H (by assumption) (by assumption) ?_); simp only [pS]) | (with_reducible refine (Stp.ldc rfl agg121 rfl H mR cE ?_); simp only [pS])) | (with_reducible refine wpl rfl (ldQ (ty := 3) rfl ?_); first | (with_reducible refine (Stp.ldo rfl agg3 rfl H (by assumption) (by assumption) ?_); simp only [pS]) | (with_reducible refine (Stp.ldc rfl agg3 rfl H mR cE ?_); simp only [pS])) | (with_reducible refine wpl rfl (ldQ (ty := 22) rfl ?_); first | (with_reducible refine (Stp.ldo rfl agg22 rfl H (by assumption) (by assumption) ?_); simp only [pS]) | (with_reducible refine (Stp.ldc rfl agg22 rfl H mR cE ?_); simp only [pS])) | (with_reducible refine wpl rfl (ldQ (ty := 37) rfl ?_); first | (with_reducible refine (Stp.ldo rfl agg37 rfl H (by assumption) (by assumption) ?_); simp only [pS]) | (with_reducible refine (Stp.ldc rfl agg37 rfl H mR cE ?_); simp only [pS])))
    go_end0
    exact ⟨_, rfl, rfl, _, 2, none, 0, [], by rw [HBF.out], (fun h => by cases h), bytes_permG (H.nil 5 1)⟩
  · rw [if_neg hlt] at hBF
    have HBF := Lib.hid hBF
    have hkm : n1 ≤ m := by omega
    obtain ⟨d, hd⟩ : ∃ d, l1.take n1 = d := ⟨_, rfl⟩
    have hdl : d.length = n1 := by rw [← hd, List.length_take]; omega
    have hdm : ¬ (m : Int) < (n1 : Int) := by omega
    have HX := Lib.hid hx
    have HL := Lib.hid hlm
    have HD := Lib.hid hd
    have HDL := Lib.hid hdl
    clear hx hlm hd hdl hBF hlt
    go_wp2_with (first | (with_reducible refine wpl rfl (ldQ (ty := 121) rfl ?_); first | (with_reducible refine (Stp.ldo rfl agg121 rfl H (by assumption) (by assumption) ?_); simp only [pS]) | (with_reducible refine (Stp.ldc rfl agg121 rfl H mR cE ?_); simp only [pS])) | (with_reducible refine wpl rfl (ldQ (ty := 3) rfl ?_); first | (with_reducible refine (Stp.ldo rfl agg3 rfl H (by assumption) (by assumption) ?_); simp only [pS]) | (with_reducible refine (Stp.ldc rfl agg3 rfl H mR cE ?_); simp only [pS])) | (with_reducible refine wpl rfl (ldQ (ty := 22) rfl ?_); first | (with_reducible refine (Stp.ldo rfl agg22 rfl H (by assumption) (by assumption) ?_); simp only [pS]) | (with_reducible refine (Stp.ldc rfl agg22 rfl H mR cE ?_); simp only [pS])) | (with_reducible refine wpl rfl (ldQ (ty := 37) rfl ?_); first | (with_reducible refine (Stp.ldo rfl agg37 rfl H (by assumption) (by assumption) ?_); simp only [pS]) | (with_reducible refine (Stp.ldc rfl agg37 rfl H mR cE ?_); simp only [pS])))
    have hrt := hrd.takeG HL.out hkm HD.out
    obtain ⟨A8, hA8⟩ : ∃ A', A' = (if c = n1 then A else A.map (·.add n1)) := ⟨_, rfl⟩
    have H8 := Lib.hid hA8
    clear hA8
    refine rk_begin 17 18 (fun W => St B w0 W (row 144 g #[.slice A m c, .int .i64 ((0 : Nat) : Int)] :: row 121 rb #[.pointer (some ⟨g, 0, none⟩)] :: M)) rfl (by kernel_rfl) ?_
    replace H := H.drew
    have HS := H
    first | (refine rk_take (i := 0) rfl kR kR kR kR kR kR (Yld.ldc rfl rfl agg121 rfl mR cE) (H.sub sU) ?_; simp only [pS]) | (refine rk_take (i := 0) rfl kR kR kR kR kR kR (Yld.ldo rfl rfl agg121 rfl (by assumption) (by assumption)) (H.sub sU) ?_; simp only [pS])
    first | (refine rk_take (i := 1) rfl kR kR kR kR kR kR (Yld.ldc rfl rfl agg121 rfl mR cE) (H.sub sU) ?_; simp only [pS]) | (refine rk_take (i := 1) rfl kR kR kR kR kR kR (Yld.ldo rfl rfl agg121 rfl (by assumption) (by assumption)) (H.sub sU) ?_; simp only [pS])
    refine rk_free (i := 2) rfl kR kR kR kR (Yld.o rfl) (fun _ => (H.sub sU)) ?_; simp only [pS]
    refine rk_free (i := 3) rfl kR kR kR kR (Yld.o rfl) (fun _ => (H.sub sU)) ?_; simp only [pS]
    first | (refine rk_take (i := 4) rfl kR kR kR kR kR kR (Yld.ldc rfl rfl agg22 rfl mR cE) (H.sub sU) ?_; simp only [pS]) | (refine rk_take (i := 4) rfl kR kR kR kR kR kR (Yld.ldo rfl rfl agg22 rfl (by assumption) (by assumption)) (H.sub sU) ?_; simp only [pS])
    refine rk_free (i := 5) rfl kR kR kR kR (Yld.move rfl rfl) (fun _ => (H.sub sU)) ?_; simp only [pS, pE]
    refine rk_free (i := 6) rfl kR kR kR kR (Yld.sltoG (A := A) (k := n1) rfl rfl Try.underlying22 size5 rfl rfl rfl (by omega)) (fun _ => (H.sub sU)) ?_; simp only [pS, pE]
    first | (refine rk_take (i := 8) rfl kR kR kR kR kR kR (Yld.ldc rfl rfl agg121 rfl mR cE) (H.sub sU) ?_; simp only [pS]) | (refine rk_take (i := 8) rfl kR kR kR kR kR kR (Yld.ldo rfl rfl agg121 rfl (by assumption) (by assumption)) (H.sub sU) ?_; simp only [pS])
    refine rk_free (i := 9) rfl kR kR kR kR (Yld.o rfl) (fun _ => (H.sub sU)) ?_; simp only [pS]
    refine rk_free (i := 10) rfl kR kR kR kR (Yld.o rfl) (fun _ => (H.sub sU)) ?_; simp only [pS]
    first | (refine rk_take (i := 11) rfl kR kR kR kR kR kR (Yld.ldc rfl rfl agg22 rfl mR cE) (H.sub sU) ?_; simp only [pS]) | (refine rk_take (i := 11) rfl kR kR kR kR kR kR (Yld.ldo rfl rfl agg22 rfl (by assumption) (by assumption)) (H.sub sU) ?_; simp only [pS])
    refine rk_free (i := 12) rfl kR kR kR kR (Yld.move rfl rfl) (fun _ => (H.sub sU)) ?_; simp only [pS, pE]
    refine rk_free (i := 13) rfl kR kR kR kR (Yld.slfrom (A := A) (k := n1) rfl rfl Try.underlying22 size5 rfl rfl (by omega) (by omega) H8.out) (fun _ => (H.sub sU)) ?_; simp only [pS, pE]
    refine rk_one (i := 7) (by kernel_rfl) rfl rfl (fun K hK => ?_)
    refine wp_callf rfl ent84 (clone_any _ d n1 HDL.out (by omega) _ (hrt.at H (by repeat (first | exact hML | apply List.Sublist.cons)))) rfl (fun v w1 hr => ?_)
    obtain ⟨⟨ab, cb, rfl⟩, ho, hb1⟩ := hr
    replace H := H.new hb1 (slc_sound ho) (fun g hg => (ho.lt g hg).1)
    clear hb1 ho
    clear HS
    have HS := H
    refine hK.out _ _ (fun _ => (H.sub sU)) ?_
    clear hK K
    simp only [pS]
    refine rk_one (i := 14) (by kernel_rfl) rfl rfl (fun K hK => ?_)
    refine Stp.wp (Stp.stc rfl size22 rfl rfl rfl rfl H uP (by simp) ?_)
    clear H
    intro w1 H
    simp only [pE, nC, pS] at H
    clear HS
    have HS := H
    refine hK.out _ _ (fun _ => (H.sub sU)) ?_
    clear hK K
    simp only [pS]
    refine rk_free (i := 15) rfl kR kR kR kR (Yld.o rfl) (fun _ => (H.sub sU)) ?_; simp only [pS]
    refine rk_free (i := 16) rfl kR kR kR kR (Yld.o rfl) (fun _ => (H.sub sU)) ?_; simp only [pS]
    refine rk_one (i := 17) (by kernel_rfl) rfl rfl (fun K hK => ?_)
    refine Stp.wp (Stp.stc rfl size22 rfl rfl rfl rfl H uP (by simp) ?_)
    clear H
    intro w1 H
    simp only [pE, nC, pS] at H
    clear HS
    have HS := H
    refine hK.out _ _ (fun h => by cases (show true = false from h)) ?_
    clear hK K
    simp only [pS]
    refine rk_done (by kernel_rfl) ?_
    go_wp2_with (first | (with_reducible refine wpl rfl (ldQ (ty := 121) rfl ?_); first | (with_reducible refine (Stp.ldo rfl agg121 rfl H (by assumption) (by assumption) ?_); simp only [pS]) | (with_reducible refine (Stp.ldc rfl agg121 rfl H mR cE ?_); simp only [pS])) | (with_reducible refine wpl rfl (ldQ (ty := 3) rfl ?_); first | (with_reducible refine (Stp.ldo rfl agg3 rfl H (by assumption) (by assumption) ?_); simp only [pS]) | (with_reducible refine (Stp.ldc rfl agg3 rfl H mR cE ?_); simp only [pS])) | (with_reducible refine wpl rfl (ldQ (ty := 22) rfl ?_); first | (with_reducible refine (Stp.ldo rfl agg22 rfl H (by assumption) (by assumption) ?_); simp only [pS]) | (with_reducible refine (Stp.ldc rfl agg22 rfl H mR cE ?_); simp only [pS])) | (with_reducible refine wpl rfl (ldQ (ty := 37) rfl ?_); first | (with_reducible refine (Stp.ldo rfl agg37 rfl H (by assumption) (by assumption) ?_); simp only [pS]) | (with_reducible refine (Stp.ldc rfl agg37 rfl H mR cE ?_); simp only [pS])))
    go_end0
    refine ⟨_, rfl, rfl, _, 0, ab, cb, d, by rw [HBF.out, HD.out], fun _ => by rw [HBF.out]; exact Byt.drop HL.out hmc HX.out hm1 hrd hkm H8.out rfl, ?_⟩
    rw [HDL.out]
    exact bytes_permG H
end Go.Proofs.Ytmokecicjmjkbaa
namespace Go.Proofs.Ytmokecicjmjkbaa
open Go.ChangeShapes Go.WideShapes Go.ChangeAt Go.RowKit Go.Deep
set_option linter.unusedVariables false
set_option linter.unusedSimpArgs false
set_option linter.unusedSectionVars false
set_option maxRecDepth 100000
set_option maxHeartbeats 2000000
theorem heap_at {w w' : World} {g : Nat} {o : Obj} (h : w.heap[g]? = some o) (hb : Below w.heap.size w w') : w'.heap[g]? = some o := (hb.block g (Array.getElem?_eq_some_iff.1 h).1).trans h
theorem wholeG_perm {B : Nat} {w0 w : World} {X : List Res} {a b r : Res} (H : St B w0 w (a :: b :: r :: X)) : St B w0 w (r :: (X ++ [a, b])) :=
  H.perm (((List.Perm.swap r b X).cons a).trans ((List.Perm.swap r a _).trans ((List.perm_append_comm (l₁ := [a, b]) (l₂ := X)).cons r)))
theorem wholeG_permB {B : Nat} {w0 w : World} {Z : List Res} {a b r : Res} (H : St B w0 w (r :: (Z ++ [b, a]))) : St B w0 w (r :: a :: b :: Z) :=
  H.perm (((List.perm_append_comm (l₁ := Z) (l₂ := [b, a])).trans (.swap a b Z)).cons r)
theorem wholedG_ok (a b g : Nat) (u : FrameMode) (w : World) (ha : w.cell? ⟨a, 0, none⟩ = some (.pointer (some ⟨g, 0, none⟩))) (hc : w.cell? ⟨g, 1, none⟩ = some (.int .i64 ((0 : Nat) : Int))) :
    CallsD Try.prog 120 #[.pointer (some ⟨a, 0, none⟩), .pointer (some ⟨b, 0, none⟩)] u w fun e u' w' => u' = u ∧ (e = .returned (.tuple #[]) ∧ w' = w) := by
  have hc' : w.cell? ⟨g, 1, none⟩ = some (.int .i64 0) := hc
  clear hc
  go_enter_d Try.func120, Try.ntmps120
  go_wp2
  go_end0
  exact ⟨rfl, rfl⟩
theorem wholedE_ok {B : Nat} {w0 : World} {M : List Res} (g a b e : Nat) (s : Value) (A : Option Addr) (n c : Nat) (he : e ≠ 0) (u : FrameMode) (w : World) (H : St B w0 w (row 144 g #[s, .int .i64 (e : Int)] :: row 121 a #[.pointer (some ⟨g, 0, none⟩)] :: row 22 b #[.slice A n c] :: M)) :
    CallsD Try.prog 120 #[.pointer (some ⟨a, 0, none⟩), .pointer (some ⟨b, 0, none⟩)] u w fun r u' w' => u' = u ∧ (r = .returned (.tuple #[]) ∧ St B w0 w' (row 144 g #[.slice A n c, .int .i64 (e : Int)] :: row 121 a #[.pointer (some ⟨g, 0, none⟩)] :: row 22 b #[.slice A n c] :: M)) := by
  have hei : ((e : Int) != 0) = true := by simp; omega
  clear he
  go_enter_d Try.func120, Try.ntmps120
  go_wp2_with (first | (with_reducible refine wpl rfl (ldQ (ty := 121) rfl ?_); first | (with_reducible refine (Stp.ldo rfl agg121 rfl H (by assumption) (by assumption) ?_); simp only [pS]) | (with_reducible refine (Stp.ldc rfl agg121 rfl H mR cE ?_); simp only [pS])) | (with_reducible refine wpl rfl (ldQ (ty := 37) rfl ?_); first | (with_reducible refine (Stp.ldo rfl agg37 rfl H (by assumption) (by assumption) ?_); simp only [pS]) | (with_reducible refine (Stp.ldc rfl agg37 rfl H mR cE ?_); simp only [pS])) | (with_reducible refine wpl rfl (ldQ (ty := 22) rfl ?_); first | (with_reducible refine (Stp.ldo rfl agg22 rfl H (by assumption) (by assumption) ?_); simp only [pS]) | (with_reducible refine (Stp.ldc rfl agg22 rfl H mR cE ?_); simp only [pS])) | (with_reducible refine wpl rfl (stQ (ty := 22) rfl ?_); first | (with_reducible refine (Stp.stc rfl size22 rfl rfl rfl rfl H uP (by first | omega | (simp; done) | (simp; omega)) ?_); clear H; intro w1 H; simp only [pS]; simp only [pE, nC, pS] at H)))
  go_end0
  exact ⟨rfl, H⟩
theorem wholeGNum_ok {B : Nat} {w0 : World} {X : List Res} (g : Nat) (A : Option Addr) (n c : Nat) (caps : Array Value) (T : Value → Nat → List Res → Prop)
    (hf : ∀ (M : List Res) (w1 : World), St B w0 w1 (row 144 g #[.slice A n c, .int .i64 ((0 : Nat) : Int)] :: (X ++ M)) → Calls Try.prog 91 caps w1 (Ret fun v w2 => v = .tuple #[] ∧ ∃ s' e' Z, T s' e' Z ∧ St B w0 w2 (row 144 g #[s', .int .i64 (e' : Int)] :: (Z ++ M))))
    (w : World) (H : St B w0 w (row 144 g #[.slice A n c, .int .i64 ((0 : Nat) : Int)] :: X)) :
    Calls Try.prog 90 #[.pointer (some ⟨g, 0, none⟩), .func (.func 91) #[] caps] w (Ret fun v w' => v = .tuple #[] ∧ ∃ s' e' Z, T s' e' Z ∧ ((e' = 0 ∧ St B w0 w' (row 144 g #[s', .int .i64 ((0 : Nat) : Int)] :: Z)) ∨ (e' ≠ 0 ∧ St B w0 w' (row 144 g #[.slice A n c, .int .i64 (e' : Int)] :: Z)))) := by
  have hmf : ∀ (fn : Fn) (first cap : Array Value) (w : World), (Instr.makeFunc fn first cap).run Try.prog w = .ok (.func fn first cap) w := fun _ _ _ _ => rfl
  have HF := Lib.hid hf
  clear hf
  go_enter_defers Try.func90, Try.ntmps90
  go_wp2_with (first | (go_at_call 69; (with_reducible refine (rerr_ok _ _ _ _ (H.getHeap mE)).mono ?_); rintro e w1 ⟨v, rfl, hr⟩; obtain ⟨rfl, hb1⟩ := hr; replace H := H.grow hb1; clear hb1) | (with_reducible refine wpl rfl (dQ 2 rfl ?_); with_reducible refine (Stp.box 2 rfl rfl rfl H ?_); clear H; intro g2 w1 H; simp only [pS]; simp only [pE, nC, pS] at H) | (with_reducible refine wpl rfl (ldQ (ty := 121) rfl ?_); first | (with_reducible refine (Stp.ldo rfl agg121 rfl H (by assumption) (by assumption) ?_); simp only [pS]) | (with_reducible refine (Stp.ldc rfl agg121 rfl H mR cE ?_); simp only [pS])) | (with_reducible refine wpl rfl (ldQ (ty := 22) rfl ?_); first | (with_reducible refine (Stp.ldo rfl agg22 rfl H (by assumption) (by assumption) ?_); simp only [pS]) | (with_reducible refine (Stp.ldc rfl agg22 rfl H mR cE ?_); simp only [pS])) | (with_reducible refine wpl rfl (dQ 4 rfl ?_); with_reducible refine (Stp.alloc 4 rfl rfl zero22 H ?_); clear H; intro g4 w1 H; simp only [pS]; simp only [nC] at H) | (with_reducible refine wpl rfl (stQ (ty := 22) rfl ?_); first | (with_reducible refine (Stp.stc rfl size22 rfl rfl rfl rfl H uP (by first | omega | (simp; done) | (simp; omega)) ?_); clear H; intro w1 H; simp only [pS]; simp only [pE, nC, pS] at H)))
  refine (HF.out [row 22 g4 #[.slice A n c], row 121 g2 #[.pointer (some ⟨g, 0, none⟩)]] _ (wholeG_perm H)).mono ?_
  rintro e w1 ⟨v, rfl, rfl, s', e', Z, hT, H2⟩
  clear H
  have H := H2
  clear H2
  go_wp2_with fail
  refine leaves_cons (f := 120) (args := #[.pointer (some ⟨g2, 0, none⟩), .pointer (some ⟨g4, 0, none⟩)]) (by simp) (by simp [go_sem]) ?_
  by_cases he : e' = 0
  · subst he
    refine (wholedG_ok g2 g4 g _ _ (by rw [cell_of_rowAt (H.getRow (t := 121) (cs := #[.pointer (some ⟨g, 0, none⟩)]) (by simp))]; rfl) (by rw [cell_of_rowAt (H.getRow (t := 144) List.mem_cons_self)]; rfl)).mono ?_
    rintro e u' w'' ⟨rfl, rfl, rfl⟩
    exact ⟨.tuple #[], results_none rfl _ _ _, _, rfl, rfl, s', 0, Z, hT, .inl ⟨rfl, H.sub (.cons_cons _ (List.sublist_append_left Z _))⟩⟩
  · refine (wholedE_ok g g2 g4 e' s' A n c he _ _ (wholeG_permB H)).mono ?_
    rintro e u' w'' ⟨rfl, rfl, H3⟩
    exact ⟨.tuple #[], results_none rfl _ _ _, _, rfl, rfl, s', e', Z, hT, .inr ⟨he, H3.sub (.cons_cons _ (.cons _ (.cons _ (List.Sublist.refl _))))⟩⟩
theorem wholeGNum_bad (g e : Nat) (s : Value) (caps : Array Value) (he : e ≠ 0) (w : World) (hc : w.heap[g]? = some (.cells #[s, .int .i64 (e : Int)] 144 (0, 0))) :
    Calls Try.prog 90 #[.pointer (some ⟨g, 0, none⟩), .func (.func 91) #[] caps] w (Ret fun v w' => v = .tuple #[] ∧ Below w.heap.size w w') := by
  have hei : ((e : Int) != 0) = true := by simp; omega
  have HC := Lib.hid hc
  clear he hc
  have H := St.init w
  go_enter_defers Try.func90, Try.ntmps90
  go_wp2_with (first | (go_at_call 69; (with_reducible refine (rerr_ok _ _ _ _ (heap_at HC.out H.below)).mono ?_); rintro e w1 ⟨v, rfl, hr⟩; obtain ⟨rfl, hb1⟩ := hr; replace H := H.grow hb1; clear hb1) | (with_reducible refine wpl rfl (dQ 2 rfl ?_); with_reducible refine (Stp.box 2 rfl rfl rfl H ?_); clear H; intro g2 w1 H; simp only [pS]; simp only [pE, nC, pS] at H) | (with_reducible refine wpl rfl (ldQ (ty := 121) rfl ?_); first | (with_reducible refine (Stp.ldo rfl agg121 rfl H (by assumption) (by assumption) ?_); simp only [pS]) | (with_reducible refine (Stp.ldc rfl agg121 rfl H mR cE ?_); simp only [pS])) | (with_reducible refine wpl rfl (ldQ (ty := 22) rfl ?_); first | (with_reducible refine (Stp.ldo rfl agg22 rfl H (by assumption) (by assumption) ?_); simp only [pS]) | (with_reducible refine (Stp.ldc rfl agg22 rfl H mR cE ?_); simp only [pS])) | (with_reducible refine wpl rfl (dQ 4 rfl ?_); with_reducible refine (Stp.alloc 4 rfl rfl zero22 H ?_); clear H; intro g4 w1 H; simp only [pS]; simp only [nC] at H) | (with_reducible refine wpl rfl (stQ (ty := 22) rfl ?_); first | (with_reducible refine (Stp.stc rfl size22 rfl rfl rfl rfl H uP (by first | omega | (simp; done) | (simp; omega)) ?_); clear H; intro w1 H; simp only [pS]; simp only [pE, nC, pS] at H)))
  exact ⟨.tuple #[], results_none rfl _ _ _, _, rfl, rfl, H.below⟩
theorem wholeGPid_ok {B : Nat} {w0 : World} {X : List Res} (g : Nat) (A : Option Addr) (n c : Nat) (caps : Array Value) (T : Value → Nat → List Res → Prop)
    (hf : ∀ (M : List Res) (w1 : World), St B w0 w1 (row 144 g #[.slice A n c, .int .i64 ((0 : Nat) : Int)] :: (X ++ M)) → Calls Try.prog 122 caps w1 (Ret fun v w2 => v = .tuple #[] ∧ ∃ s' e' Z, T s' e' Z ∧ St B w0 w2 (row 144 g #[s', .int .i64 (e' : Int)] :: (Z ++ M))))
    (w : World) (H : St B w0 w (row 144 g #[.slice A n c, .int .i64 ((0 : Nat) : Int)] :: X)) :
    Calls Try.prog 90 #[.pointer (some ⟨g, 0, none⟩), .func (.func 122) #[] caps] w (Ret fun v w' => v = .tuple #[] ∧ ∃ s' e' Z, T s' e' Z ∧ ((e' = 0 ∧ St B w0 w' (row 144 g #[s', .int .i64 ((0 : Nat) : Int)] :: Z)) ∨ (e' ≠ 0 ∧ St B w0 w' (row 144 g #[.slice A n c, .int .i64 (e' : Int)] :: Z)))) := by
  have hmf : ∀ (fn : Fn) (first cap : Array Value) (w : World), (Instr.makeFunc fn first cap).run Try.prog w = .ok (.func fn first cap) w := fun _ _ _ _ => rfl
  have HF := Lib.hid hf
  clear hf
  go_enter_defers Try.func90, Try.ntmps90
  go_wp2_with (first | (go_at_call 69; (with_reducible refine (rerr_ok _ _ _ _ (H.getHeap mE)).mono ?_); rintro e w1 ⟨v, rfl, hr⟩; obtain ⟨rfl, hb1⟩ := hr; replace H := H.grow hb1; clear hb1) | (with_reducible refine wpl rfl (dQ 2 rfl ?_); with_reducible refine (Stp.box 2 rfl rfl rfl H ?_); clear H; intro g2 w1 H; simp only [pS]; simp only [pE, nC, pS] at H) | (with_reducible refine wpl rfl (ldQ (ty := 121) rfl ?_); first | (with_reducible refine (Stp.ldo rfl agg121 rfl H (by assumption) (by assumption) ?_); simp only [pS]) | (with_reducible refine (Stp.ldc rfl agg121 rfl H mR cE ?_); simp only [pS])) | (with_reducible refine wpl rfl (ldQ (ty := 22) rfl ?_); first | (with_reducible refine (Stp.ldo rfl agg22 rfl H (by assumption) (by assumption) ?_); simp only [pS]) | (with_reducible refine (Stp.ldc rfl agg22 rfl H mR cE ?_); simp only [pS])) | (with_reducible refine wpl rfl (dQ 4 rfl ?_); with_reducible refine (Stp.alloc 4 rfl rfl zero22 H ?_); clear H; intro g4 w1 H; simp only [pS]; simp only [nC] at H) | (with_reducible refine wpl rfl (stQ (ty := 22) rfl ?_); first | (with_reducible refine (Stp.stc rfl size22 rfl rfl rfl rfl H uP (by first | omega | (simp; done) | (simp; omega)) ?_); clear H; intro w1 H; simp only [pS]; simp only [pE, nC, pS] at H)))
  refine (HF.out [row 22 g4 #[.slice A n c], row 121 g2 #[.pointer (some ⟨g, 0, none⟩)]] _ (wholeG_perm H)).mono ?_
  rintro e w1 ⟨v, rfl, rfl, s', e', Z, hT, H2⟩
  clear H
  have H := H2
  clear H2
  go_wp2_with fail
  refine leaves_cons (f := 120) (args := #[.pointer (some ⟨g2, 0, none⟩), .pointer (some ⟨g4, 0, none⟩)]) (by simp) (by simp [go_sem]) ?_
  by_cases he : e' = 0
  · subst he
    refine (wholedG_ok g2 g4 g _ _ (by rw [cell_of_rowAt (H.getRow (t := 121) (cs := #[.pointer (some ⟨g, 0, none⟩)]) (by simp))]; rfl) (by rw [cell_of_rowAt (H.getRow (t := 144) List.mem_cons_self)]; rfl)).mono ?_
    rintro e u' w'' ⟨rfl, rfl, rfl⟩
    exact ⟨.tuple #[], results_none rfl _ _ _, _, rfl, rfl, s', 0, Z, hT, .inl ⟨rfl, H.sub (.cons_cons _ (List.sublist_append_left Z _))⟩⟩
  · refine (wholedE_ok g g2 g4 e' s' A n c he _ _ (wholeG_permB H)).mono ?_
    rintro e u' w'' ⟨rfl, rfl, H3⟩
    exact ⟨.tuple #[], results_none rfl _ _ _, _, rfl, rfl, s', e', Z, hT, .inr ⟨he, H3.sub (.cons_cons _ (.cons _ (.cons _ (List.Sublist.refl _))))⟩⟩
theorem wholeGPid_bad (g e : Nat) (s : Value) (caps : Array Value) (he : e ≠ 0) (w : World) (hc : w.heap[g]? = some (.cells #[s, .int .i64 (e : Int)] 144 (0, 0))) :
    Calls Try.prog 90 #[.pointer (some ⟨g, 0, none⟩), .func (.func 122) #[] caps] w (Ret fun v w' => v = .tuple #[] ∧ Below w.heap.size w w') := by
  have hei : ((e : Int) != 0) = true := by simp; omega
  have HC := Lib.hid hc
  clear he hc
  have H := St.init w
  go_enter_defers Try.func90, Try.ntmps90
  go_wp2_with (first | (go_at_call 69; (with_reducible refine (rerr_ok _ _ _ _ (heap_at HC.out H.below)).mono ?_); rintro e w1 ⟨v, rfl, hr⟩; obtain ⟨rfl, hb1⟩ := hr; replace H := H.grow hb1; clear hb1) | (with_reducible refine wpl rfl (dQ 2 rfl ?_); with_reducible refine (Stp.box 2 rfl rfl rfl H ?_); clear H; intro g2 w1 H; simp only [pS]; simp only [pE, nC, pS] at H) | (with_reducible refine wpl rfl (ldQ (ty := 121) rfl ?_); first | (with_reducible refine (Stp.ldo rfl agg121 rfl H (by assumption) (by assumption) ?_); simp only [pS]) | (with_reducible refine (Stp.ldc rfl agg121 rfl H mR cE ?_); simp only [pS])) | (with_reducible refine wpl rfl (ldQ (ty := 22) rfl ?_); first | (with_reducible refine (Stp.ldo rfl agg22 rfl H (by assumption) (by assumption) ?_); simp only [pS]) | (with_reducible refine (Stp.ldc rfl agg22 rfl H mR cE ?_); simp only [pS])) | (with_reducible refine wpl rfl (dQ 4 rfl ?_); with_reducible refine (Stp.alloc 4 rfl rfl zero22 H ?_); clear H; intro g4 w1 H; simp only [pS]; simp only [nC] at H) | (with_reducible refine wpl rfl (stQ (ty := 22) rfl ?_); first | (with_reducible refine (Stp.stc rfl size22 rfl rfl rfl rfl H uP (by first | omega | (simp; done) | (simp; omega)) ?_); clear H; intro w1 H; simp only [pS]; simp only [pE, nC, pS] at H)))
  exact ⟨.tuple #[], results_none rfl _ _ _, _, rfl, rfl, H.below⟩
theorem wholeGBytes_ok {B : Nat} {w0 : World} {X : List Res} (g : Nat) (A : Option Addr) (n c : Nat) (caps : Array Value) (T : Value → Nat → List Res → Prop)
    (hf : ∀ (M : List Res) (w1 : World), St B w0 w1 (row 144 g #[.slice A n c, .int .i64 ((0 : Nat) : Int)] :: (X ++ M)) → Calls Try.prog 124 caps w1 (Ret fun v w2 => v = .tuple #[] ∧ ∃ s' e' Z, T s' e' Z ∧ St B w0 w2 (row 144 g #[s', .int .i64 (e' : Int)] :: (Z ++ M))))
    (w : World) (H : St B w0 w (row 144 g #[.slice A n c, .int .i64 ((0 : Nat) : Int)] :: X)) :
    Calls Try.prog 90 #[.pointer (some ⟨g, 0, none⟩), .func (.func 124) #[] caps] w (Ret fun v w' => v = .tuple #[] ∧ ∃ s' e' Z, T s' e' Z ∧ ((e' = 0 ∧ St B w0 w' (row 144 g #[s', .int .i64 ((0 : Nat) : Int)] :: Z)) ∨ (e' ≠ 0 ∧ St B w0 w' (row 144 g #[.slice A n c, .int .i64 (e' : Int)] :: Z)))) := by
  have hmf : ∀ (fn : Fn) (first cap : Array Value) (w : World), (Instr.makeFunc fn first cap).run Try.prog w = .ok (.func fn first cap) w := fun _ _ _ _ => rfl
  have HF := Lib.hid hf
  clear hf
  go_enter_defers Try.func90, Try.ntmps90
  go_wp2_with (first | (go_at_call 69; (with_reducible refine (rerr_ok _ _ _ _ (H.getHeap mE)).mono ?_); rintro e w1 ⟨v, rfl, hr⟩; obtain ⟨rfl, hb1⟩ := hr; replace H := H.grow hb1; clear hb1) | (with_reducible refine wpl rfl (dQ 2 rfl ?_); with_reducible refine (Stp.box 2 rfl rfl rfl H ?_); clear H; intro g2 w1 H; simp only [pS]; simp only [pE, nC, pS] at H) | (with_reducible refine wpl rfl (ldQ (ty := 121) rfl ?_); first | (with_reducible refine (Stp.ldo rfl agg121 rfl H (by assumption) (by assumption) ?_); simp only [pS]) | (with_reducible refine (Stp.ldc rfl agg121 rfl H mR cE ?_); simp only [pS])) | (with_reducible refine wpl rfl (ldQ (ty := 22) rfl ?_); first | (with_reducible refine (Stp.ldo rfl agg22 rfl H (by assumption) (by assumption) ?_); simp only [pS]) | (with_reducible refine (Stp.ldc rfl agg22 rfl H mR cE ?_); simp only [pS])) | (with_reducible refine wpl rfl (dQ 4 rfl ?_); with_reducible refine (Stp.alloc 4 rfl rfl zero22 H ?_); clear H; intro g4 w1 H; simp only [pS]; simp only [nC] at H) | (with_reducible refine wpl rfl (stQ (ty := 22) rfl ?_); first | (with_reducible refine (Stp.stc rfl size22 rfl rfl rfl rfl H uP (by first | omega | (simp; done) | (simp; omega)) ?_); clear H; intro w1 H; simp only [pS]; simp only [pE, nC, pS] at H)))
  refine (HF.out [row 22 g4 #[.slice A n c], row 121 g2 #[.pointer (some ⟨g, 0, none⟩)]] _ (wholeG_perm H)).mono ?_
  rintro e w1 ⟨v, rfl, rfl, s', e', Z, hT, H2⟩
  clear H
  have H := H2
  clear H2
  go_wp2_with fail
  refine leaves_cons (f := 120) (args := #[.pointer (some ⟨g2, 0, none⟩), .pointer (some ⟨g4, 0, none⟩)]) (by simp) (by simp [go_sem]) ?_
  by_cases he : e' = 0
  · subst he
    refine (wholedG_ok g2 g4 g _ _ (by rw [cell_of_rowAt (H.getRow (t := 121) (cs := #[.pointer (some ⟨g, 0, none⟩)]) (by simp))]; rfl) (by rw [cell_of_rowAt (H.getRow (t := 144) List.mem_cons_self)]; rfl)).mono ?_
    rintro e u' w'' ⟨rfl, rfl, rfl⟩
    exact ⟨.tuple #[], results_none rfl _ _ _, _, rfl, rfl, s', 0, Z, hT, .inl ⟨rfl, H.sub (.cons_cons _ (List.sublist_append_left Z _))⟩⟩
  · refine (wholedE_ok g g2 g4 e' s' A n c he _ _ (wholeG_permB H)).mono ?_
    rintro e u' w'' ⟨rfl, rfl, H3⟩
    exact ⟨.tuple #[], results_none rfl _ _ _, _, rfl, rfl, s', e', Z, hT, .inr ⟨he, H3.sub (.cons_cons _ (.cons _ (.cons _ (List.Sublist.refl _))))⟩⟩
theorem wholeGBytes_bad (g e : Nat) (s : Value) (caps : Array Value) (he : e ≠ 0) (w : World) (hc : w.heap[g]? = some (.cells #[s, .int .i64 (e : Int)] 144 (0, 0))) :
    Calls Try.prog 90 #[.pointer (some ⟨g, 0, none⟩), .func (.func 124) #[] caps] w (Ret fun v w' => v = .tuple #[] ∧ Below w.heap.size w w') := by
  have hei : ((e : Int) != 0) = true := by simp; omega
  have HC := Lib.hid hc
  clear he hc
  have H := St.init w
  go_enter_defers Try.func90, Try.ntmps90
  go_wp2_with (first | (go_at_call 69; (with_reducible refine (rerr_ok _ _ _ _ (heap_at HC.out H.below)).mono ?_); rintro e w1 ⟨v, rfl, hr⟩; obtain ⟨rfl, hb1⟩ := hr; replace H := H.grow hb1; clear hb1) | (with_reducible refine wpl rfl (dQ 2 rfl ?_); with_reducible refine (Stp.box 2 rfl rfl rfl H ?_); clear H; intro g2 w1 H; simp only [pS]; simp only [pE, nC, pS] at H) | (with_reducible refine wpl rfl (ldQ (ty := 121) rfl ?_); first | (with_reducible refine (Stp.ldo rfl agg121 rfl H (by assumption) (by assumption) ?_); simp only [pS]) | (with_reducible refine (Stp.ldc rfl agg121 rfl H mR cE ?_); simp only [pS])) | (with_reducible refine wpl rfl (ldQ (ty := 22) rfl ?_); first | (with_reducible refine (Stp.ldo rfl agg22 rfl H (by assumption) (by assumption) ?_); simp only [pS]) | (with_reducible refine (Stp.ldc rfl agg22 rfl H mR cE ?_); simp only [pS])) | (with_reducible refine wpl rfl (dQ 4 rfl ?_); with_reducible refine (Stp.alloc 4 rfl rfl zero22 H ?_); clear H; intro g4 w1 H; simp only [pS]; simp only [nC] at H) | (with_reducible refine wpl rfl (stQ (ty := 22) rfl ?_); first | (with_reducible refine (Stp.stc rfl size22 rfl rfl rfl rfl H uP (by first | omega | (simp; done) | (simp; omega)) ?_); clear H; intro w1 H; simp only [pS]; simp only [pE, nC, pS] at H)))
  exact ⟨.tuple #[], results_none rfl _ _ _, _, rfl, rfl, H.below⟩
theorem wholeGPids_ok {B : Nat} {w0 : World} {X : List Res} (g : Nat) (A : Option Addr) (n c : Nat) (caps : Array Value) (T : Value → Nat → List Res → Prop)
    (hf : ∀ (M : List Res) (w1 : World), St B w0 w1 (row 144 g #[.slice A n c, .int .i64 ((0 : Nat) : Int)] :: (X ++ M)) → Calls Try.prog 141 caps w1 (Ret fun v w2 => v = .tuple #[] ∧ ∃ s' e' Z, T s' e' Z ∧ St B w0 w2 (row 144 g #[s', .int .i64 (e' : Int)] :: (Z ++ M))))
    (w : World) (H : St B w0 w (row 144 g #[.slice A n c, .int .i64 ((0 : Nat) : Int)] :: X)) :
    Calls Try.prog 90 #[.pointer (some ⟨g, 0, none⟩), .func (.func 141) #[] caps] w (Ret fun v w' => v = .tuple #[] ∧ ∃ s' e' Z, T s' e' Z ∧ ((e' = 0 ∧ St B w0 w' (row 144 g #[s', .int .i64 ((0 : Nat) : Int)] :: Z)) ∨ (e' ≠ 0 ∧ St B w0 w' (row 144 g #[.slice A n c, .int .i64 (e' : Int)] :: Z)))) := by
  have hmf : ∀ (fn : Fn) (first cap : Array Value) (w : World), (Instr.makeFunc fn first cap).run Try.prog w = .ok (.func fn first cap) w := fun _ _ _ _ => rfl
  have HF := Lib.hid hf
  clear hf
  go_enter_defers Try.func90, Try.ntmps90
  go_wp2_with (first | (go_at_call 69; (with_reducible refine (rerr_ok _ _ _ _ (H.getHeap mE)).mono ?_); rintro e w1 ⟨v, rfl, hr⟩; obtain ⟨rfl, hb1⟩ := hr; replace H := H.grow hb1; clear hb1) | (with_reducible refine wpl rfl (dQ 2 rfl ?_); with_reducible refine (Stp.box 2 rfl rfl rfl H ?_); clear H; intro g2 w1 H; simp only [pS]; simp only [pE, nC, pS] at H) | (with_reducible refine wpl rfl (ldQ (ty := 121) rfl ?_); first | (with_reducible refine (Stp.ldo rfl agg121 rfl H (by assumption) (by assumption) ?_); simp only [pS]) | (with_reducible refine (Stp.ldc rfl agg121 rfl H mR cE ?_); simp only [pS])) | (with_reducible refine wpl rfl (ldQ (ty := 22) rfl ?_); first | (with_reducible refine (Stp.ldo rfl agg22 rfl H (by assumption) (by assumption) ?_); simp only [pS]) | (with_reducible refine (Stp.ldc rfl agg22 rfl H mR cE ?_); simp only [pS])) | (with_reducible refine wpl rfl (dQ 4 rfl ?_); with_reducible refine (Stp.alloc 4 rfl rfl zero22 H ?_); clear H; intro g4 w1 H; simp only [pS]; simp only [nC] at H) | (with_reducible refine wpl rfl (stQ (ty := 22) rfl ?_); first | (with_reducible refine (Stp.stc rfl size22 rfl rfl rfl rfl H uP (by first | omega | (simp; done) | (simp; omega)) ?_); clear H; intro w1 H; simp only [pS]; simp only [pE, nC, pS] at H)))
  refine (HF.out [row 22 g4 #[.slice A n c], row 121 g2 #[.pointer (some ⟨g, 0, none⟩)]] _ (wholeG_perm H)).mono ?_
  rintro e w1 ⟨v, rfl, rfl, s', e', Z, hT, H2⟩
  clear H
  have H := H2
  clear H2
  go_wp2_with fail
  refine leaves_cons (f := 120) (args := #[.pointer (some ⟨g2, 0, none⟩), .pointer (some ⟨g4, 0, none⟩)]) (by simp) (by simp [go_sem]) ?_
  by_cases he : e' = 0
  · subst he
    refine (wholedG_ok g2 g4 g _ _ (by rw [cell_of_rowAt (H.getRow (t := 121) (cs := #[.pointer (some ⟨g, 0, none⟩)]) (by simp))]; rfl) (by rw [cell_of_rowAt (H.getRow (t := 144) List.mem_cons_self)]; rfl)).mono ?_
    rintro e u' w'' ⟨rfl, rfl, rfl⟩
    exact ⟨.tuple #[], results_none rfl _ _ _, _, rfl, rfl, s', 0, Z, hT, .inl ⟨rfl, H.sub (.cons_cons _ (List.sublist_append_left Z _))⟩⟩
  · refine (wholedE_ok g g2 g4 e' s' A n c he _ _ (wholeG_permB H)).mono ?_
    rintro e u' w'' ⟨rfl, rfl, H3⟩
    exact ⟨.tuple #[], results_none rfl _ _ _, _, rfl, rfl, s', e', Z, hT, .inr ⟨he, H3.sub (.cons_cons _ (.cons _ (.cons _ (List.Sublist.refl _))))⟩⟩
theorem wholeGPids_bad (g e : Nat) (s : Value) (caps : Array Value) (he : e ≠ 0) (w : World) (hc : w.heap[g]? = some (.cells #[s, .int .i64 (e : Int)] 144 (0, 0))) :
    Calls Try.prog 90 #[.pointer (some ⟨g, 0, none⟩), .func (.func 141) #[] caps] w (Ret fun v w' => v = .tuple #[] ∧ Below w.heap.size w w') := by
  have hei : ((e : Int) != 0) = true := by simp; omega
  have HC := Lib.hid hc
  clear he hc
  have H := St.init w
  go_enter_defers Try.func90, Try.ntmps90
  go_wp2_with (first | (go_at_call 69; (with_reducible refine (rerr_ok _ _ _ _ (heap_at HC.out H.below)).mono ?_); rintro e w1 ⟨v, rfl, hr⟩; obtain ⟨rfl, hb1⟩ := hr; replace H := H.grow hb1; clear hb1) | (with_reducible refine wpl rfl (dQ 2 rfl ?_); with_reducible refine (Stp.box 2 rfl rfl rfl H ?_); clear H; intro g2 w1 H; simp only [pS]; simp only [pE, nC, pS] at H) | (with_reducible refine wpl rfl (ldQ (ty := 121) rfl ?_); first | (with_reducible refine (Stp.ldo rfl agg121 rfl H (by assumption) (by assumption) ?_); simp only [pS]) | (with_reducible refine (Stp.ldc rfl agg121 rfl H mR cE ?_); simp only [pS])) | (with_reducible refine wpl rfl (ldQ (ty := 22) rfl ?_); first | (with_reducible refine (Stp.ldo rfl agg22 rfl H (by assumption) (by assumption) ?_); simp only [pS]) | (with_reducible refine (Stp.ldc rfl agg22 rfl H mR cE ?_); simp only [pS])) | (with_reducible refine wpl rfl (dQ 4 rfl ?_); with_reducible refine (Stp.alloc 4 rfl rfl zero22 H ?_); clear H; intro g4 w1 H; simp only [pS]; simp only [nC] at H) | (with_reducible refine wpl rfl (stQ (ty := 22) rfl ?_); first | (with_reducible refine (Stp.stc rfl size22 rfl rfl rfl rfl H uP (by first | omega | (simp; done) | (simp; omega)) ?_); clear H; intro w1 H; simp only [pS]; simp only [pE, nC, pS] at H)))
  exact ⟨.tuple #[], results_none rfl _ _ _, _, rfl, rfl, H.below⟩

end Go.Proofs.Ytmokecicjmjkbaa
