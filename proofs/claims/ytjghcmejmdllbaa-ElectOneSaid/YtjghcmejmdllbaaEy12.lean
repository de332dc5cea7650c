/- Contracts of the reference's At (choragusref08); no condition. Contracts of slices.Index and slices.Contains over processes, and of layer 8's Has and Leads (view); no condition. Commands with the places of their slices, as values of a slice; commands of the call's own; no condition. Contracts of layer 3's Number, Ahead, Before (pid), and of their references; the bounds stand in each. -/
import Derived.Laws.BitsLemmas
import Derived.Laws.Bits64b
import Derived.Test.YtjghcmejmdllbaaEy6
import Derived.Test.YtjghcmejmdllbaaEy7
import Derived.Test.YtjghcmejmdllbaaEy11
namespace Go.Proofs.Ytjghcmejmdllbaa
open Go.ChangeShapes Go.WideShapes Go.ChangeAt Go.RowKit Go.Maps
set_option linter.unusedVariables false
set_option linter.unusedSimpArgs false
/-- Where a process stands first; -1 if it does not. -/
def atR (l : List Pr) (p : Pr) : Int := match rank l p with | some k => (k : Int) | none => -1
theorem rank_at {l : List Pr} {p : Pr} {k : Nat} (hk : k < l.length) (h0 : rank (l.take k) p = none) (h : l[k] = p) : rank l p = some k := by
  induction l generalizing k with
  | nil => cases hk
  | cons x l ih =>
    cases k with
    | zero => simp only [List.getElem_cons_zero] at h; simp [rank, h]
    | succ k =>
      simp only [List.take_succ_cons, rank] at h0
      unfold rank
      by_cases hx : x = p
      · rw [if_pos hx] at h0; cases h0
      · rw [if_neg hx] at h0 ⊢
        rw [ih (by simpa using hk) (Option.map_eq_none_iff.1 h0) (by simpa using h)]
        rfl
end Go.Proofs.Ytjghcmejmdllbaa
namespace Go.Proofs.Ytjghcmejmdllbaa
open Go.ChangeShapes Go.WideShapes Go.ChangeAt Go.RowKit Go.Maps
set_option linter.unusedVariables false
set_option linter.unusedSimpArgs false
theorem atR_neg {l : List Pr} {p : Pr} (h : p ∉ l) : atR l p = -1 := by unfold atR; rw [rank_none.2 h]
theorem atR_nn {l : List Pr} {p : Pr} (h : p ∈ l) : ∃ k : Nat, k < l.length ∧ atR l p = (k : Int) := by
  unfold atR
  cases hr : rank l p with
  | none => exact absurd h (rank_none.1 hr)
  | some k => exact ⟨k, (rank_lt hr).1, rfl⟩
set_option maxRecDepth 100000 in
set_option maxHeartbeats 1000000 in
theorem pindex_is (va : Value) (l : List Pr) (p : Pr) (w : World) (ha : Sl w 2 l.length va (elQ l)) :
    Calls Try.prog 117 #[va, .agg #[.int .u16 (p.1 : Int), .int .u32 (p.2 : Int)]] w (Ret fun v w' => v = .int .i64 (atR l p) ∧ Below w.heap.size w w') := by
  have H := St.init w
  have ha' := ha
  obtain ⟨aa, ca, rfl, hma, _⟩ := ha'
  unfold maxLen at hma
  obtain ⟨n, hn⟩ : ∃ n, l.length = n := ⟨_, rfl⟩
  have HN := Lib.hid hn
  rw [hn] at ha hma ⊢
  clear hn
  go_enter Try.func117, Try.ntmps117
  go_wp2_with (first | (with_reducible refine wpl rfl (dQ 3 rfl ?_); with_reducible refine (Stp.box 3 rfl rfl rfl H ?_); clear H; intro g3 w1 H; simp only [pS]; simp only [pE, nC, pS] at H))
  go_loopw [8] (fun i wr => ∃ k : Nat, k ≤ n ∧ i = .int .i64 k ∧ Hid (rank (l.take k) p = none) ∧ St w.heap.size w wr [row 36 g3 #[.int .u16 (p.1 : Int), .int .u32 (p.2 : Int)]]) (fun i _ => n - (intOf i).toNat)
  case atStart => exact ⟨0, Nat.zero_le _, rfl, Lib.hid (by simp [rank]), H⟩
  case round =>
    clear H
    obtain ⟨k, hk, rfl, HT, H⟩ := hrel
    by_cases hlt : k < n
    · have hl1 : k < l.length := by rw [HN.out]; exact hlt
      obtain ⟨b1, o1, rfl, hb1⟩ := ha.addr (by omega)
      have hc1 := ha.cell hlt
      unfold elQ at hc1
      rw [getD_at hl1] at hc1
      have hs1 := List.take_succ_eq_append_getElem hl1
      have hra := rank_at (p := p) hl1 HT.out
      obtain ⟨⟨x, y⟩, hx⟩ : ∃ x, l[k] = x := ⟨_, rfl⟩
      rw [hx] at hc1 hs1 hra
      have kli : (k : Int) < (n : Int) := by omega
      by_cases he0 : (x, y) = p
      · have HV : Hid (atR l p = k) := Lib.hid (by unfold atR; rw [hra he0])
        obtain ⟨z, t⟩ := p
        injection he0 with e1 e2
        subst e1 e2
        have he := eqPD_yes x y
        clear hs1 hx hra
        go_wp2_with (first | (with_reducible refine wpl rfl (dQ 3 rfl ?_); with_reducible refine (Stp.box 3 rfl rfl rfl H ?_); clear H; intro g3 w1 H; simp only [pS]; simp only [pE, nC, pS] at H))
        refine rg_begin 6 rfl (S := fun W => St _ _ W _) (by kernel_rfl) H.drew ?_
        replace H := H.drew
        have HS := H
        first | (refine rg_take (i := 0) rfl kR kR kR (Yld.ldor rfl rfl agg36 size36 rfl (by assumption) sZ (by assumption)) HS ?_; simp only [pS]) | (refine rg_take (i := 0) rfl kR kR kR (Yld.ldr rfl rfl agg36 size36 rfl mR sZ) HS ?_; simp only [pS]) | (refine rg_take (i := 0) rfl kR kR kR (Yld.ldl rfl rfl agg36 size36 rfl mR (by simp)) HS ?_; simp only [pS]; simp only [List.drop_succ_cons, List.drop_zero, List.take_succ_cons, List.take_zero])
        refine rg_take (i := 1) rfl kR kR kR (Yld.move rfl rfl) HS ?_; simp only [pS, pE]
        refine rg_take (i := 2) rfl kR kR kR (Yld.move rfl rfl) HS ?_; simp only [pS, pE]
        refine rg_take (i := 3) rfl kR kR kR (Yld.o rfl) HS ?_; simp only [pS]
        first | (refine rg_take (i := 4) rfl kR kR kR (Yld.ldor rfl rfl agg36 size36 rfl (by assumption) sZ (by assumption)) HS ?_; simp only [pS]) | (refine rg_take (i := 4) rfl kR kR kR (Yld.ldr rfl rfl agg36 size36 rfl mR sZ) HS ?_; simp only [pS]) | (refine rg_take (i := 4) rfl kR kR kR (Yld.ldl rfl rfl agg36 size36 rfl mR (by simp)) HS ?_; simp only [pS]; simp only [List.drop_succ_cons, List.drop_zero, List.take_succ_cons, List.take_zero])
        refine rg_take (i := 5) rfl kR kR kR (Yld.o rfl) HS ?_; simp only [pS]
        refine rg_done (by kernel_rfl) ?_
        go_wp2_with (first | (with_reducible refine wpl rfl (dQ 3 rfl ?_); with_reducible refine (Stp.box 3 rfl rfl rfl H ?_); clear H; intro g3 w1 H; simp only [pS]; simp only [pE, nC, pS] at H))
        go_ret
        exact ⟨_, rfl, by rw [HV.out]; rfl, H.below⟩
      · have HRK : Hid (rank (l.take (k + 1)) p = none) := Lib.hid (by rw [hs1, rank_snoc, HT.out, if_neg he0])
        obtain ⟨z, t⟩ := p
        have he := eqPD_no z t x y (fun e => he0 e.symm)
        clear hs1 hx hra he0
        go_wp2_with (first | (with_reducible refine wpl rfl (dQ 3 rfl ?_); with_reducible refine (Stp.box 3 rfl rfl rfl H ?_); clear H; intro g3 w1 H; simp only [pS]; simp only [pE, nC, pS] at H))
        refine rg_begin 6 rfl (S := fun W => St _ _ W _) (by kernel_rfl) H.drew ?_
        replace H := H.drew
        have HS := H
        first | (refine rg_take (i := 0) rfl kR kR kR (Yld.ldor rfl rfl agg36 size36 rfl (by assumption) sZ (by assumption)) HS ?_; simp only [pS]) | (refine rg_take (i := 0) rfl kR kR kR (Yld.ldr rfl rfl agg36 size36 rfl mR sZ) HS ?_; simp only [pS]) | (refine rg_take (i := 0) rfl kR kR kR (Yld.ldl rfl rfl agg36 size36 rfl mR (by simp)) HS ?_; simp only [pS]; simp only [List.drop_succ_cons, List.drop_zero, List.take_succ_cons, List.take_zero])
        refine rg_take (i := 1) rfl kR kR kR (Yld.move rfl rfl) HS ?_; simp only [pS, pE]
        refine rg_take (i := 2) rfl kR kR kR (Yld.move rfl rfl) HS ?_; simp only [pS, pE]
        refine rg_take (i := 3) rfl kR kR kR (Yld.o rfl) HS ?_; simp only [pS]
        first | (refine rg_take (i := 4) rfl kR kR kR (Yld.ldor rfl rfl agg36 size36 rfl (by assumption) sZ (by assumption)) HS ?_; simp only [pS]) | (refine rg_take (i := 4) rfl kR kR kR (Yld.ldr rfl rfl agg36 size36 rfl mR sZ) HS ?_; simp only [pS]) | (refine rg_take (i := 4) rfl kR kR kR (Yld.ldl rfl rfl agg36 size36 rfl mR (by simp)) HS ?_; simp only [pS]; simp only [List.drop_succ_cons, List.drop_zero, List.take_succ_cons, List.take_zero])
        refine rg_take (i := 5) rfl kR kR kR (Yld.o rfl) HS ?_; simp only [pS]
        refine rg_done (by kernel_rfl) ?_
        go_wp2_with (first | (with_reducible refine wpl rfl (dQ 3 rfl ?_); with_reducible refine (Stp.box 3 rfl rfl rfl H ?_); clear H; intro g3 w1 H; simp only [pS]; simp only [pE, nC, pS] at H))
        go_roundw
        case rel => exact ⟨k + 1, by omega, by go_num, HRK, H⟩
        case measure => simp [intOf]; omega
    · obtain rfl : k = n := by omega
      have HV : Hid (atR l p = -1) := Lib.hid (by
        have := HT.out
        rw [List.take_of_length_le (by rw [HN.out]; omega)] at this
        unfold atR; rw [this])
      go_wp2_with (first | (with_reducible refine wpl rfl (dQ 3 rfl ?_); with_reducible refine (Stp.box 3 rfl rfl rfl H ?_); clear H; intro g3 w1 H; simp only [pS]; simp only [pE, nC, pS] at H))
      go_ret
      exact ⟨_, rfl, by rw [HV.out]; rfl, H.below⟩
set_option maxRecDepth 100000 in
theorem pcontains_is (va : Value) (l : List Pr) (p : Pr) (b : Bool) (hb : decide (p ∈ l) = b) (w : World) (ha : Sl w 2 l.length va (elQ l)) :
    Calls Try.prog 102 #[va, .agg #[.int .u16 (p.1 : Int), .int .u32 (p.2 : Int)]] w (Ret fun v w' => v = .bool b ∧ Below w.heap.size w w') := by
  have H := St.init w
  obtain ⟨z, hz⟩ : ∃ z, atR l p = z := ⟨_, rfl⟩
  have hd : decide (0 ≤ z) = b := by
    subst hb hz
    by_cases h : p ∈ l
    · obtain ⟨k, _, e⟩ := atR_nn h
      simp [e, h]
    · simp [atR_neg h, h]
  have HZ := Lib.hid hz
  clear hz hb
  go_enter Try.func102, Try.ntmps102
  go_wp2_with (first | (go_at_call 117; (with_reducible refine (pindex_is _ l p _ (ha.grow H.below)).mono ?_); rintro e w1 ⟨v, rfl, hr⟩; obtain ⟨rfl, hb1⟩ := hr; replace H := H.grow hb1; clear hb1; rw [HZ.out]) | (with_reducible refine wpl rfl (dQ 3 rfl ?_); with_reducible refine (Stp.box 3 rfl rfl rfl H ?_); clear H; intro g3 w1 H; simp only [pS]; simp only [pE, nC, pS] at H) | (with_reducible refine wpl rfl (ldQ (ty := 36) rfl ?_); first | (with_reducible refine (Stp.ldor rfl agg36 size36 rfl H (by assumption) sZ (by assumption) ?_); simp only [pS]) | (with_reducible refine (Stp.ldr rfl agg36 size36 rfl H mR sZ ?_); simp only [pS]) | (with_reducible refine (Stp.ldl rfl agg36 size36 rfl H mR (by simp) ?_); simp only [pS]; simp only [List.drop_succ_cons, List.drop_zero, List.take_succ_cons, List.take_zero])))
  go_ret
  exact ⟨_, rfl, rfl, H.below⟩
set_option maxRecDepth 100000 in
theorem vleads_is (x : Vw) (ma la da : Option Addr) (mc lc dc : Nat) (p : Pr) (b : Bool) (hb : decide (p ∈ x.ldr) = b) (w : World) (hx : Sl w 2 x.ldr.length (.slice da x.ldr.length dc) (elQ x.ldr)) :
    Calls Try.prog 80 #[.agg (vwC x ma la da mc lc dc), .agg #[.int .u16 (p.1 : Int), .int .u32 (p.2 : Int)]] w (Ret fun v w' => v = .bool b ∧ Below w.heap.size w w') := by
  have H := St.init w
  simp only [vwC]
  have HB := Lib.hid hb
  clear hb
  go_enter Try.func80, Try.ntmps80
  go_wp2_with (first | (go_at_call 102; (with_reducible refine (pcontains_is _ x.ldr p b HB.out _ (hx.grow H.below)).mono ?_); rintro e w1 ⟨v, rfl, hr⟩; obtain ⟨rfl, hb1⟩ := hr; replace H := H.grow hb1; clear hb1) | (with_reducible refine wpl rfl (dQ 2 rfl ?_); with_reducible refine (Stp.box 2 rfl rfl rfl H ?_); clear H; intro g2 w1 H; simp only [pS]; simp only [pE, nC, pS] at H) | (with_reducible refine wpl rfl (dQ 3 rfl ?_); with_reducible refine (Stp.box 3 rfl rfl rfl H ?_); clear H; intro g3 w1 H; simp only [pS]; simp only [pE, nC, pS] at H) | (with_reducible refine wpl rfl (ldQ (ty := 23) rfl ?_); first | (with_reducible refine (Stp.ldo rfl agg23 rfl H (by assumption) (by assumption) ?_); simp only [pS]) | (with_reducible refine (Stp.ldc rfl agg23 rfl H mR cE ?_); simp only [pS])) | (with_reducible refine wpl rfl (ldQ (ty := 36) rfl ?_); first | (with_reducible refine (Stp.ldor rfl agg36 size36 rfl H (by assumption) sZ (by assumption) ?_); simp only [pS]) | (with_reducible refine (Stp.ldr rfl agg36 size36 rfl H mR sZ ?_); simp only [pS]) | (with_reducible refine (Stp.ldl rfl agg36 size36 rfl H mR (by simp) ?_); simp only [pS]; simp only [List.drop_succ_cons, List.drop_zero, List.take_succ_cons, List.take_zero])))
  go_ret
  exact ⟨_, rfl, rfl, H.below⟩

end Go.Proofs.Ytjghcmejmdllbaa
namespace Go.Proofs.Ytjghcmejmdllbaa
open Go.ChangeShapes Go.WideShapes Go.ChangeAt Go.RowKit Go.Maps
set_option linter.unusedVariables false
set_option linter.unusedSimpArgs false
/-- Where a command's slices lie. -/
structure Hd where
  ba : Option Addr
  ma : Option Addr
  la : Option Addr
  da : Option Addr
  bc : Nat
  mc : Nat
  lc : Nat
  dc : Nat
abbrev cmH (c : Cm) (h : Hd) : Array Value := cmC c h.ba h.ma h.la h.da h.bc h.mc h.lc h.dc
end Go.Proofs.Ytjghcmejmdllbaa
namespace Go.Proofs.Ytjghcmejmdllbaa
open Go.ChangeShapes Go.WideShapes Go.ChangeAt Go.RowKit Go.Maps
set_option linter.unusedVariables false
set_option linter.unusedSimpArgs false
/-- A ballot: its round, and whose. -/
structure Bl where
  r : Nat
  w : Pr
abbrev blC (b : Bl) : Array Value := #[.int .u32 (b.r : Int), .int .u16 (b.w.1 : Int), .int .u32 (b.w.2 : Int)]
def bl0 : Bl := ⟨0, (0, 0)⟩
theorem eqBT (r a b s c d : Int) (w : World) : (Op.equalIn 10000 67 (.agg #[.int .u32 r, .int .u16 a, .int .u32 b]) (.agg #[.int .u32 s, .int .u16 c, .int .u32 d])).run Try.prog w = .ok (r == s && (a == c && b == d)) w := by
  have u1 := Try.underlying36
  have u2 := Try.underlying34
  have hS : Try.prog.underlying 67 = some (.struct (Try.prog.fieldsOf 67)) := by kernel_rfl
  rw [show (10000 : Nat) = 9999 + 1 from rfl, run_equalIn_struct w 9999 67 _ _ hS (by kernel_rfl)]
  simp only [Program.fieldsOf, Try.underlying67]
  go_simp
  by_cases h0 : r = s <;> by_cases h1 : a = c <;> by_cases h2 : b = d <;> simp [h0, h1, h2]
theorem eqg_BT : Try.prog.eqGuardType Try.prog.depth 67 = false := by kernel_rfl
/-- Who is ahead of whom. -/
def ahd (i c j d : Nat) : Bool := if i = j then decide (c < d) else decide (i < j)
def blt (a b : Bl) : Bool := if a.r = b.r then ahd a.w.1 a.w.2 b.w.1 b.w.2 else decide (a.r < b.r)
theorem ahd_num (i c j d : Nat) (hc : c < 4294967296) (hd : d < 4294967296) : ahd i c j d = decide (i * 4294967296 + c < j * 4294967296 + d) := by
  unfold ahd
  split
  · rename_i h
    subst h
    rw [Bool.eq_iff_iff]; simp
  · rename_i h
    rw [Bool.eq_iff_iff]
    simp only [decide_eq_true_eq]
    omega
theorem or_num (i c : Nat) (hi : i < 65536) (hc : c < 4294967296) : bits .or .u64 ((i : Int) * 4294967296) (c : Int) = ((i * 4294967296 + c : Nat) : Int) := by
  have h := bits_or_u64_nat (i * 4294967296) c (by omega) (by omega)
  have e : ((i * 4294967296 : Nat) : Int) = (i : Int) * 4294967296 := by omega
  rw [e] at h
  rw [show (i * 4294967296 ||| c) = i * 4294967296 + c by
    have := Nat.two_pow_add_eq_or_of_lt (i := 32) (b := c) (by omega) i
    rw [Nat.mul_comm i 4294967296]; exact this.symm] at h
  exact h
set_option maxRecDepth 100000 in
theorem number_is (i c : Nat) (hi : i < 65536) (hc : c < 4294967296) (w : World) : Calls Try.prog 134 #[.agg #[.int .u16 (i : Int), .int .u32 (c : Int)]] w (Ret fun v w' => v = .int .u64 ((i * 4294967296 + c : Nat) : Int) ∧ Below w.heap.size w w') := by
  have H := St.init w
  have W1 : IntKind.u64.wrap (i : Int) = (i : Int) := wrap_u64_in _ (by omega) (by omega)
  have W2 : IntKind.u64.wrap (c : Int) = (c : Int) := wrap_u64_in _ (by omega) (by omega)
  have W3 : IntKind.u64.wrap ((i : Int) * 4294967296) = (i : Int) * 4294967296 := wrap_u64_in _ (by omega) (by omega)
  have ho := or_num i c hi hc
  obtain ⟨n, hn⟩ : ∃ n, i * 4294967296 + c = n := ⟨_, rfl⟩
  rw [hn] at ho ⊢
  clear hn
  go_enter Try.func134, Try.ntmps134
  go_wp2_with (first | (with_reducible refine wpl rfl (dQ 1 rfl ?_); with_reducible refine (Stp.box 1 rfl rfl rfl H ?_); clear H; intro g1 w1 H; simp only [pS]; simp only [pE, nC, pS] at H) | (with_reducible refine wpl rfl (ldQ (ty := 33) rfl ?_); first | (with_reducible refine (Stp.ldo rfl agg33 rfl H (by assumption) (by assumption) ?_); simp only [pS]) | (with_reducible refine (Stp.ldc rfl agg33 rfl H mR cE ?_); simp only [pS])) | (with_reducible refine wpl rfl (ldQ (ty := 34) rfl ?_); first | (with_reducible refine (Stp.ldo rfl agg34 rfl H (by assumption) (by assumption) ?_); simp only [pS]) | (with_reducible refine (Stp.ldc rfl agg34 rfl H mR cE ?_); simp only [pS])))
  go_ret
  exact ⟨_, rfl, rfl, H.below⟩
set_option maxRecDepth 100000 in
theorem ahead_ok (i c j d : Nat) (hi : i < 65536) (hc : c < 4294967296) (hj : j < 65536) (hd : d < 4294967296) (e : Bool) (he : ahd i c j d = e) (w : World) : Calls Try.prog 116 #[.agg #[.int .u16 (i : Int), .int .u32 (c : Int)], .agg #[.int .u16 (j : Int), .int .u32 (d : Int)]] w (Ret fun v w' => v = .bool e ∧ Below w.heap.size w w') := by
  have H := St.init w
  rw [ahd_num i c j d hc hd] at he
  subst he
  obtain ⟨m, hm⟩ : ∃ m, i * 4294967296 + c = m := ⟨_, rfl⟩
  obtain ⟨n, hn⟩ : ∃ n, j * 4294967296 + d = n := ⟨_, rfl⟩
  have HM := Lib.hid hm
  have HN := Lib.hid hn
  rw [hm, hn]
  clear hm hn
  go_enter Try.func116, Try.ntmps116
  go_wp2_with (first | (with_reducible refine wpl rfl (dQ 2 rfl ?_); with_reducible refine (Stp.box 2 rfl rfl rfl H ?_); clear H; intro g2 w1 H; simp only [pS]; simp only [pE, nC, pS] at H) | (with_reducible refine wpl rfl (dQ 3 rfl ?_); with_reducible refine (Stp.box 3 rfl rfl rfl H ?_); clear H; intro g3 w1 H; simp only [pS]; simp only [pE, nC, pS] at H))
  refine rg_begin 6 rfl (S := fun W => St _ _ W [row 36 g3 #[.int .u16 (j : Int), .int .u32 (d : Int)], row 36 g2 #[.int .u16 (i : Int), .int .u32 (c : Int)]]) (by kernel_rfl) (H.drew.sub sU) ?_
  replace H := H.drew
  have HS := H
  first | (refine rg_take (i := 0) rfl kR kR kR (Yld.ldor rfl rfl agg36 size36 rfl (by assumption) sZ (by assumption)) (H.sub sU) ?_; simp only [pS]) | (refine rg_take (i := 0) rfl kR kR kR (Yld.ldr rfl rfl agg36 size36 rfl mR sZ) (H.sub sU) ?_; simp only [pS]) | (refine rg_take (i := 0) rfl kR kR kR (Yld.ldl rfl rfl agg36 size36 rfl mR (by simp)) (H.sub sU) ?_; simp only [pS]; simp only [List.drop_succ_cons, List.drop_zero, List.take_succ_cons, List.take_zero])
  first | (refine rg_take (i := 2) rfl kR kR kR (Yld.ldor rfl rfl agg36 size36 rfl (by assumption) sZ (by assumption)) (H.sub sU) ?_; simp only [pS]) | (refine rg_take (i := 2) rfl kR kR kR (Yld.ldr rfl rfl agg36 size36 rfl mR sZ) (H.sub sU) ?_; simp only [pS]) | (refine rg_take (i := 2) rfl kR kR kR (Yld.ldl rfl rfl agg36 size36 rfl mR (by simp)) (H.sub sU) ?_; simp only [pS]; simp only [List.drop_succ_cons, List.drop_zero, List.take_succ_cons, List.take_zero])
  refine rg_one (i := 1) (by kernel_rfl) rfl rfl (fun K hK => ?_)
  refine wp_callf rfl ent134 (number_is i c hi hc _) rfl (fun v w1 hr => ?_)
  rw [HM.out] at hr
  obtain ⟨rfl, hb1⟩ := hr
  replace H := H.grow hb1
  clear hb1
  clear HS
  have HS := H
  refine hK.out _ _ (H.sub sU) ?_
  clear hK K
  simp only [pS]
  refine rg_one (i := 3) (by kernel_rfl) rfl rfl (fun K hK => ?_)
  refine wp_callf rfl ent134 (number_is j d hj hd _) rfl (fun v w1 hr => ?_)
  rw [HN.out] at hr
  obtain ⟨rfl, hb1⟩ := hr
  replace H := H.grow hb1
  clear hb1
  clear HS
  have HS := H
  refine hK.out _ _ (H.sub sU) ?_
  clear hK K
  simp only [pS]
  refine rg_take (i := 4) rfl kR kR kR (Yld.o rfl) (H.sub sU) ?_; simp only [pS]
  refine rg_take (i := 5) rfl kR kR kR (Yld.assign rfl rfl) (H.sub sU) ?_; simp only [pS, pE]
  refine rg_done (by kernel_rfl) ?_
  go_wp2_with (first | (with_reducible refine wpl rfl (dQ 2 rfl ?_); with_reducible refine (Stp.box 2 rfl rfl rfl H ?_); clear H; intro g2 w1 H; simp only [pS]; simp only [pE, nC, pS] at H) | (with_reducible refine wpl rfl (dQ 3 rfl ?_); with_reducible refine (Stp.box 3 rfl rfl rfl H ?_); clear H; intro g3 w1 H; simp only [pS]; simp only [pE, nC, pS] at H))
  go_ret
  exact ⟨_, rfl, by first | rfl | simp, H.below⟩
set_option maxRecDepth 100000 in
theorem before_ok (a b : Bl) (a1 : a.w.1 < 65536) (a2 : a.w.2 < 4294967296) (b1 : b.w.1 < 65536) (b2 : b.w.2 < 4294967296) (e : Bool) (he : blt a b = e) (w : World) : Calls Try.prog 84 #[.agg (blC a), .agg (blC b)] w (Ret fun v w' => v = .bool e ∧ Below w.heap.size w w') := by
  have H := St.init w
  unfold blt at he
  simp only [blC]
  by_cases h1 : a.r = b.r
  · rw [if_pos h1] at he
    have HE := Lib.hid he
    have h1i : ((a.r : Int) != (b.r : Int)) = false := by simp [h1]
    clear he h1
    go_enter Try.func84, Try.ntmps84
    go_wp2_with (first | (go_at_call 116; (with_reducible refine (ahead_ok a.w.1 a.w.2 b.w.1 b.w.2 a1 a2 b1 b2 e HE.out _).mono ?_); rintro e w1 ⟨v, rfl, hr⟩; obtain ⟨rfl, hb1⟩ := hr; replace H := H.grow hb1; clear hb1) | (with_reducible refine wpl rfl (dQ 2 rfl ?_); with_reducible refine (Stp.box 2 rfl rfl rfl H ?_); clear H; intro g2 w1 H; simp only [pS]; simp only [pE, nC, pS] at H) | (with_reducible refine wpl rfl (dQ 3 rfl ?_); with_reducible refine (Stp.box 3 rfl rfl rfl H ?_); clear H; intro g3 w1 H; simp only [pS]; simp only [pE, nC, pS] at H) | (with_reducible refine wpl rfl (ldQ (ty := 34) rfl ?_); first | (with_reducible refine (Stp.ldo rfl agg34 rfl H (by assumption) (by assumption) ?_); simp only [pS]) | (with_reducible refine (Stp.ldc rfl agg34 rfl H mR cE ?_); simp only [pS])) | (with_reducible refine wpl rfl (ldQ (ty := 36) rfl ?_); first | (with_reducible refine (Stp.ldor rfl agg36 size36 rfl H (by assumption) sZ (by assumption) ?_); simp only [pS]) | (with_reducible refine (Stp.ldr rfl agg36 size36 rfl H mR sZ ?_); simp only [pS]) | (with_reducible refine (Stp.ldl rfl agg36 size36 rfl H mR (by simp) ?_); simp only [pS]; simp only [List.drop_succ_cons, List.drop_zero, List.take_succ_cons, List.take_zero])))
    go_ret
    exact ⟨_, rfl, rfl, H.below⟩
  · rw [if_neg h1] at he
    have h1i : ((a.r : Int) != (b.r : Int)) = true := by simp; omega
    subst he
    by_cases h2 : a.r < b.r
    · have h2i : (a.r : Int) < (b.r : Int) := by omega
      rw [decide_eq_true h2]
      clear h1 h2
      go_enter Try.func84, Try.ntmps84
      go_wp2_with (first | (with_reducible refine wpl rfl (dQ 2 rfl ?_); with_reducible refine (Stp.box 2 rfl rfl rfl H ?_); clear H; intro g2 w1 H; simp only [pS]; simp only [pE, nC, pS] at H) | (with_reducible refine wpl rfl (dQ 3 rfl ?_); with_reducible refine (Stp.box 3 rfl rfl rfl H ?_); clear H; intro g3 w1 H; simp only [pS]; simp only [pE, nC, pS] at H) | (with_reducible refine wpl rfl (ldQ (ty := 34) rfl ?_); first | (with_reducible refine (Stp.ldo rfl agg34 rfl H (by assumption) (by assumption) ?_); simp only [pS]) | (with_reducible refine (Stp.ldc rfl agg34 rfl H mR cE ?_); simp only [pS])) | (with_reducible refine wpl rfl (ldQ (ty := 36) rfl ?_); first | (with_reducible refine (Stp.ldor rfl agg36 size36 rfl H (by assumption) sZ (by assumption) ?_); simp only [pS]) | (with_reducible refine (Stp.ldr rfl agg36 size36 rfl H mR sZ ?_); simp only [pS]) | (with_reducible refine (Stp.ldl rfl agg36 size36 rfl H mR (by simp) ?_); simp only [pS]; simp only [List.drop_succ_cons, List.drop_zero, List.take_succ_cons, List.take_zero])))
      go_ret
      exact ⟨_, rfl, rfl, H.below⟩
    · have h2i : decide (a.r < b.r) = false := decide_eq_false h2
      rw [h2i]
      clear h1 h2
      go_enter Try.func84, Try.ntmps84
      go_wp2_with (first | (with_reducible refine wpl rfl (dQ 2 rfl ?_); with_reducible refine (Stp.box 2 rfl rfl rfl H ?_); clear H; intro g2 w1 H; simp only [pS]; simp only [pE, nC, pS] at H) | (with_reducible refine wpl rfl (dQ 3 rfl ?_); with_reducible refine (Stp.box 3 rfl rfl rfl H ?_); clear H; intro g3 w1 H; simp only [pS]; simp only [pE, nC, pS] at H) | (with_reducible refine wpl rfl (ldQ (ty := 34) rfl ?_); first | (with_reducible refine (Stp.ldo rfl agg34 rfl H (by assumption) (by assumption) ?_); simp only [pS]) | (with_reducible refine (Stp.ldc rfl agg34 rfl H mR cE ?_); simp only [pS])) | (with_reducible refine wpl rfl (ldQ (ty := 36) rfl ?_); first | (with_reducible refine (Stp.ldor rfl agg36 size36 rfl H (by assumption) sZ (by assumption) ?_); simp only [pS]) | (with_reducible refine (Stp.ldr rfl agg36 size36 rfl H mR sZ ?_); simp only [pS]) | (with_reducible refine (Stp.ldl rfl agg36 size36 rfl H mR (by simp) ?_); simp only [pS]; simp only [List.drop_succ_cons, List.drop_zero, List.take_succ_cons, List.take_zero])))
      go_ret
      exact ⟨_, rfl, rfl, H.below⟩
end Go.Proofs.Ytjghcmejmdllbaa
