/- Contracts of slices.Index and slices.Contains over processes, and of layer 8's Has and Leads (view); no condition. Layer 29 (flat): when events are a beginning of others; no condition. Layer 29 (flat): the stays of events in memory (Stays); the bounds stand in it. -/
import Derived.Test.YtbepaafgcbgmfaaFz10
import Derived.Test.YtbepaafgcbgmfaaFz3
namespace Go.Proofs.Ytbepaafgcbgmfaa
open Go.ChangeShapes Go.WideShapes Go.ChangeAt Go.RowKit Go.Maps
set_option linter.unusedVariables false
set_option linter.unusedSimpArgs false
theorem atR_neg {l : List Pr} {p : Pr} (h : p ∉ l) : atR l p = -1 := by unfold atR; rw [rank_none.2 h]
theorem atR_nn {l : List Pr} {p : Pr} (h : p ∈ l) : ∃ k : Nat, k < l.length ∧ atR l p = (k : Int) := by
  unfold atR
  cases hr : rank l p with
  | none => exact absurd h (rank_none.1 hr)
  | some k => exact ⟨k, (rank_lt hr).1, rfl⟩
set_option maxRecDepth 100000 in
set_option maxHeartbeats 1000000 in
theorem pindex_is (va : Value) (l : List Pr) (p : Pr) (w : World) (ha : Sl w 2 l.length va (elQ l)) :
    Calls Try.prog 70 #[va, .agg #[.int .u16 (p.1 : Int), .int .u32 (p.2 : Int)]] w (Ret fun v w' => v = .int .i64 (atR l p) ∧ Below w.heap.size w w') := by
  have H := St.init w
  have ha' := ha
  obtain ⟨aa, ca, rfl, hma, _⟩ := ha'
  unfold maxLen at hma
  obtain ⟨n, hn⟩ : ∃ n, l.length = n := ⟨_, rfl⟩
  have HN := Lib.hid hn
  rw [hn] at ha hma ⊢
  clear hn
  go_enter Try.func70, Try.ntmps70
  go_wp2_with (first | (with_reducible refine wpl rfl (dQ 3 rfl ?_); with_reducible refine (Stp.box 3 rfl rfl rfl H ?_); clear H; intro g3 w1 H; simp only [pS]; simp only [pE, nC, pS] at H))
  go_loopw [8] (fun i wr => ∃ k : Nat, k ≤ n ∧ i = .int .i64 k ∧ Hid (rank (l.take k) p = none) ∧ St w.heap.size w wr [row 27 g3 #[.int .u16 (p.1 : Int), .int .u32 (p.2 : Int)]]) (fun i _ => n - (intOf i).toNat)
  case atStart => exact ⟨0, Nat.zero_le _, rfl, Lib.hid (by simp [rank]), H⟩
  case round =>
    clear H
    obtain ⟨k, hk, rfl, HT, H⟩ := hrel
    by_cases hlt : k < n
    · have hl1 : k < l.length := by rw [HN.out]; exact hlt
      obtain ⟨b1, o1, rfl, hb1⟩ := ha.addr (by omega)
      have hc1 := ha.cell hlt
      unfold elQ at hc1
      rw [getD_at hl1] at hc1
      have hs1 := List.take_succ_eq_append_getElem hl1
      have hra := rank_at (p := p) hl1 HT.out
      obtain ⟨⟨x, y⟩, hx⟩ : ∃ x, l[k] = x := ⟨_, rfl⟩
      rw [hx] at hc1 hs1 hra
      have kli : (k : Int) < (n : Int) := by omega
      by_cases he0 : (x, y) = p
      · have HV : Hid (atR l p = k) := Lib.hid (by unfold atR; rw [hra he0])
        obtain ⟨z, t⟩ := p
        injection he0 with e1 e2
        subst e1 e2
        have he := eqPD_yes x y
        clear hs1 hx hra
        go_wp2_with (first | (with_reducible refine wpl rfl (dQ 3 rfl ?_); with_reducible refine (Stp.box 3 rfl rfl rfl H ?_); clear H; intro g3 w1 H; simp only [pS]; simp only [pE, nC, pS] at H))
        refine rg_begin 6 rfl (S := fun W => St _ _ W _) (by kernel_rfl) H.drew ?_
        replace H := H.drew
        have HS := H
        first | (refine rg_take (i := 0) rfl kR kR kR (Yld.ldor rfl rfl agg27 size27 rfl (by assumption) sZ (by assumption)) HS ?_; simp only [pS]) | (refine rg_take (i := 0) rfl kR kR kR (Yld.ldr rfl rfl agg27 size27 rfl mR sZ) HS ?_; simp only [pS]) | (refine rg_take (i := 0) rfl kR kR kR (Yld.ldl rfl rfl agg27 size27 rfl mR (by simp)) HS ?_; simp only [pS]; simp only [List.drop_succ_cons, List.drop_zero, List.take_succ_cons, List.take_zero])
        refine rg_take (i := 1) rfl kR kR kR (Yld.move rfl rfl) HS ?_; simp only [pS, pE]
        refine rg_take (i := 2) rfl kR kR kR (Yld.move rfl rfl) HS ?_; simp only [pS, pE]
        refine rg_take (i := 3) rfl kR kR kR (Yld.o rfl) HS ?_; simp only [pS]
        first | (refine rg_take (i := 4) rfl kR kR kR (Yld.ldor rfl rfl agg27 size27 rfl (by assumption) sZ (by assumption)) HS ?_; simp only [pS]) | (refine rg_take (i := 4) rfl kR kR kR (Yld.ldr rfl rfl agg27 size27 rfl mR sZ) HS ?_; simp only [pS]) | (refine rg_take (i := 4) rfl kR kR kR (Yld.ldl rfl rfl agg27 size27 rfl mR (by simp)) HS ?_; simp only [pS]; simp only [List.drop_succ_cons, List.drop_zero, List.take_succ_cons, List.take_zero])
        refine rg_take (i := 5) rfl kR kR kR (Yld.o rfl) HS ?_; simp only [pS]
        refine rg_done (by kernel_rfl) ?_
        go_wp2_with (first | (with_reducible refine wpl rfl (dQ 3 rfl ?_); with_reducible refine (Stp.box 3 rfl rfl rfl H ?_); clear H; intro g3 w1 H; simp only [pS]; simp only [pE, nC, pS] at H))
        go_ret
        exact ⟨_, rfl, by rw [HV.out]; rfl, H.below⟩
      · have HRK : Hid (rank (l.take (k + 1)) p = none) := Lib.hid (by rw [hs1, rank_snoc, HT.out, if_neg he0])
        obtain ⟨z, t⟩ := p
        have he := eqPD_no z t x y (fun e => he0 e.symm)
        clear hs1 hx hra he0
        go_wp2_with (first | (with_reducible refine wpl rfl (dQ 3 rfl ?_); with_reducible refine (Stp.box 3 rfl rfl rfl H ?_); clear H; intro g3 w1 H; simp only [pS]; simp only [pE, nC, pS] at H))
        refine rg_begin 6 rfl (S := fun W => St _ _ W _) (by kernel_rfl) H.drew ?_
        replace H := H.drew
        have HS := H
        first | (refine rg_take (i := 0) rfl kR kR kR (Yld.ldor rfl rfl agg27 size27 rfl (by assumption) sZ (by assumption)) HS ?_; simp only [pS]) | (refine rg_take (i := 0) rfl kR kR kR (Yld.ldr rfl rfl agg27 size27 rfl mR sZ) HS ?_; simp only [pS]) | (refine rg_take (i := 0) rfl kR kR kR (Yld.ldl rfl rfl agg27 size27 rfl mR (by simp)) HS ?_; simp only [pS]; simp only [List.drop_succ_cons, List.drop_zero, List.take_succ_cons, List.take_zero])
        refine rg_take (i := 1) rfl kR kR kR (Yld.move rfl rfl) HS ?_; simp only [pS, pE]
        refine rg_take (i := 2) rfl kR kR kR (Yld.move rfl rfl) HS ?_; simp only [pS, pE]
        refine rg_take (i := 3) rfl kR kR kR (Yld.o rfl) HS ?_; simp only [pS]
        first | (refine rg_take (i := 4) rfl kR kR kR (Yld.ldor rfl rfl agg27 size27 rfl (by assumption) sZ (by assumption)) HS ?_; simp only [pS]) | (refine rg_take (i := 4) rfl kR kR kR (Yld.ldr rfl rfl agg27 size27 rfl mR sZ) HS ?_; simp only [pS]) | (refine rg_take (i := 4) rfl kR kR kR (Yld.ldl rfl rfl agg27 size27 rfl mR (by simp)) HS ?_; simp only [pS]; simp only [List.drop_succ_cons, List.drop_zero, List.take_succ_cons, List.take_zero])
        refine rg_take (i := 5) rfl kR kR kR (Yld.o rfl) HS ?_; simp only [pS]
        refine rg_done (by kernel_rfl) ?_
        go_wp2_with (first | (with_reducible refine wpl rfl (dQ 3 rfl ?_); with_reducible refine (Stp.box 3 rfl rfl rfl H ?_); clear H; intro g3 w1 H; simp only [pS]; simp only [pE, nC, pS] at H))
        go_roundw
        case rel => exact ⟨k + 1, by omega, by go_num, HRK, H⟩
        case measure => simp [intOf]; omega
    · obtain rfl : k = n := by omega
      have HV : Hid (atR l p = -1) := Lib.hid (by
        have := HT.out
        rw [List.take_of_length_le (by rw [HN.out]; omega)] at this
        unfold atR; rw [this])
      go_wp2_with (first | (with_reducible refine wpl rfl (dQ 3 rfl ?_); with_reducible refine (Stp.box 3 rfl rfl rfl H ?_); clear H; intro g3 w1 H; simp only [pS]; simp only [pE, nC, pS] at H))
      go_ret
      exact ⟨_, rfl, by rw [HV.out]; rfl, H.below⟩
set_option maxRecDepth 100000 in
theorem pcontains_is (va : Value) (l : List Pr) (p : Pr) (b : Bool) (hb : decide (p ∈ l) = b) (w : World) (ha : Sl w 2 l.length va (elQ l)) :
    Calls Try.prog 64 #[va, .agg #[.int .u16 (p.1 : Int), .int .u32 (p.2 : Int)]] w (Ret fun v w' => v = .bool b ∧ Below w.heap.size w w') := by
  have H := St.init w
  obtain ⟨z, hz⟩ : ∃ z, atR l p = z := ⟨_, rfl⟩
  have hd : decide (0 ≤ z) = b := by
    subst hb hz
    by_cases h : p ∈ l
    · obtain ⟨k, _, e⟩ := atR_nn h
      simp [e, h]
    · simp [atR_neg h, h]
  have HZ := Lib.hid hz
  clear hz hb
  go_enter Try.func64, Try.ntmps64
  go_wp2_with (first | (go_at_call 70; (with_reducible refine (pindex_is _ l p _ (ha.grow H.below)).mono ?_); rintro e w1 ⟨v, rfl, hr⟩; obtain ⟨rfl, hb1⟩ := hr; replace H := H.grow hb1; clear hb1; rw [HZ.out]) | (with_reducible refine wpl rfl (dQ 3 rfl ?_); with_reducible refine (Stp.box 3 rfl rfl rfl H ?_); clear H; intro g3 w1 H; simp only [pS]; simp only [pE, nC, pS] at H) | (with_reducible refine wpl rfl (ldQ (ty := 27) rfl ?_); first | (with_reducible refine (Stp.ldor rfl agg27 size27 rfl H (by assumption) sZ (by assumption) ?_); simp only [pS]) | (with_reducible refine (Stp.ldr rfl agg27 size27 rfl H mR sZ ?_); simp only [pS]) | (with_reducible refine (Stp.ldl rfl agg27 size27 rfl H mR (by simp) ?_); simp only [pS]; simp only [List.drop_succ_cons, List.drop_zero, List.take_succ_cons, List.take_zero])))
  go_ret
  exact ⟨_, rfl, rfl, H.below⟩
set_option maxRecDepth 100000 in
theorem vhas_is (x : Vw) (ma la da : Option Addr) (mc lc dc : Nat) (p : Pr) (b : Bool) (hb : decide (p ∈ x.mem) = b) (w : World) (hx : Sl w 2 x.mem.length (.slice ma x.mem.length mc) (elQ x.mem)) :
    Calls Try.prog 54 #[.agg (vwC x ma la da mc lc dc), .agg #[.int .u16 (p.1 : Int), .int .u32 (p.2 : Int)]] w (Ret fun v w' => v = .bool b ∧ Below w.heap.size w w') := by
  have H := St.init w
  simp only [vwC]
  have HB := Lib.hid hb
  clear hb
  go_enter Try.func54, Try.ntmps54
  go_wp2_with (first | (go_at_call 64; (with_reducible refine (pcontains_is _ x.mem p b HB.out _ (hx.grow H.below)).mono ?_); rintro e w1 ⟨v, rfl, hr⟩; obtain ⟨rfl, hb1⟩ := hr; replace H := H.grow hb1; clear hb1) | (with_reducible refine wpl rfl (dQ 2 rfl ?_); with_reducible refine (Stp.box 2 rfl rfl rfl H ?_); clear H; intro g2 w1 H; simp only [pS]; simp only [pE, nC, pS] at H) | (with_reducible refine wpl rfl (dQ 3 rfl ?_); with_reducible refine (Stp.box 3 rfl rfl rfl H ?_); clear H; intro g3 w1 H; simp only [pS]; simp only [pE, nC, pS] at H) | (with_reducible refine wpl rfl (ldQ (ty := 38) rfl ?_); first | (with_reducible refine (Stp.ldo rfl agg38 rfl H (by assumption) (by assumption) ?_); simp only [pS]) | (with_reducible refine (Stp.ldc rfl agg38 rfl H mR cE ?_); simp only [pS])) | (with_reducible refine wpl rfl (ldQ (ty := 27) rfl ?_); first | (with_reducible refine (Stp.ldor rfl agg27 size27 rfl H (by assumption) sZ (by assumption) ?_); simp only [pS]) | (with_reducible refine (Stp.ldr rfl agg27 size27 rfl H mR sZ ?_); simp only [pS]) | (with_reducible refine (Stp.ldl rfl agg27 size27 rfl H mR (by simp) ?_); simp only [pS]; simp only [List.drop_succ_cons, List.drop_zero, List.take_succ_cons, List.take_zero])))
  go_ret
  exact ⟨_, rfl, rfl, H.below⟩

end Go.Proofs.Ytbepaafgcbgmfaa

namespace Go.Proofs.Ytbepaafgcbgmfaa
open Go.ChangeShapes Go.WideShapes Go.ChangeAt Go.RowKit Go.Maps
set_option linter.unusedVariables false
set_option linter.unusedSimpArgs false
set_option linter.unusedSectionVars false
set_option maxRecDepth 100000
set_option maxHeartbeats 4000000
/-- Events are a beginning of others. -/
def begD (a b : List Ev) : Bool := decide (a.length ≤ b.length) && decide (a = b.take a.length)
theorem Sl.takeE {w : World} {ab : Option Addr} {cb n : Nat} {b : List Eh} (h : Sl w 9 b.length (.slice ab b.length cb) (elE b)) (hn : n ≤ b.length) : Sl w 9 (b.take n).length (.slice ab n cb) (elE (b.take n)) := by
  obtain ⟨a, c, e, hm, hc⟩ := h
  injection e with e1 _ e2
  subst e1 e2
  have hl : (b.take n).length = n := by rw [List.length_take]; omega
  rw [hl]
  refine ⟨ab, cb, rfl, Nat.le_trans hn hm, fun h0 => ?_⟩
  obtain ⟨blk, off, e, hb, hh⟩ := hc (by omega)
  refine ⟨blk, off, e, hb, fun i hi j hj => ?_⟩
  rw [hh i (by omega) j hj]
  unfold elE
  rw [getD_at (by omega), getD_at (by rw [hl]; exact hi), List.getElem_take]
theorem begins_is (aa ab : Option Addr) (ca cb : Nat) (a b : List Eh) (r0 : Bool) (hr0 : begD (evD a) (evD b) = r0) (hcap : b.length ≤ cb) (w : World) (ha : Sl w 9 a.length (.slice aa a.length ca) (elE a)) (hb : Sl w 9 b.length (.slice ab b.length cb) (elE b)) (hea : ∀ e ∈ a, EvG w e) (heb : ∀ e ∈ b, EvG w e) (hwa : ∀ e ∈ a, wfE e) (hwb : ∀ e ∈ b, wfE e) :
    Calls Try.prog 14 #[.slice aa a.length ca, .slice ab b.length cb] w (Ret fun v w' => v = .bool r0 ∧ Below w.heap.size w w') := by
  have H := St.init w
  have HEA := Lib.hid hea
  have HWA := Lib.hid hwa
  obtain ⟨n, hn⟩ : ∃ n, a.length = n := ⟨_, rfl⟩
  obtain ⟨m, hm⟩ : ∃ m, b.length = m := ⟨_, rfl⟩
  have HA : Hid (Sl w 9 a.length (.slice aa n ca) (elE a)) := Lib.hid (by rw [← hn]; exact ha)
  have hma : n ≤ 9223372036854775807 := by obtain ⟨_, _, _, h, _⟩ := ha; rw [hn] at h; exact h
  have hmb : m ≤ 9223372036854775807 := by obtain ⟨_, _, _, h, _⟩ := hb; rw [hm] at h; exact h
  by_cases hle : n ≤ m
  · have HB := Lib.hid (Sl.takeE (n := n) hb (by omega))
    obtain ⟨r, hr⟩ : ∃ r, decide (evD a = evD (b.take n)) = r := ⟨_, rfl⟩
    have HR := Lib.hid hr
    have HV : Hid (r0 = r) := Lib.hid (by
      rw [← hr0, ← hr]
      unfold begD
      rw [evD_len, evD_len, hn, hm, decide_eq_true hle, evD_take]; rfl)
    have HEB : Hid (∀ e ∈ b.take n, EvG w e) := Lib.hid (fun e he => heb e (List.mem_of_mem_take he))
    have HWB : Hid (∀ e ∈ b.take n, wfE e) := Lib.hid (fun e he => hwb e (List.mem_of_mem_take he))
    rw [hm] at hcap
    have hcn : n ≤ cb := Nat.le_trans hle hcap
    have hli : (n : Int) ≤ (m : Int) := by omega
    rw [hn, hm]
    clear ha hb hea heb hwa hwb hr hr0 hn hm
    go_enter Try.func14, Try.ntmps14
    go_wp2_with (first | (go_at_call 28; (with_reducible refine (eveq_is _ _ a (b.take n) r HR.out _ (HA.out.grow H.below) (HB.out.grow H.below) (fun e he => (HEA.out e he).grow H.below) (fun e he => (HEB.out e he).grow H.below) HWA.out HWB.out).mono ?_); rintro e w1 ⟨v, rfl, hr⟩; obtain ⟨rfl, hb1⟩ := hr; replace H := H.grow hb1; clear hb1))
    go_ret
    exact ⟨_, rfl, by rw [HV.out]; rfl, H.below⟩
  · have hli : ¬ (n : Int) ≤ (m : Int) := by omega
    have HV : Hid (r0 = false) := Lib.hid (by
      rw [← hr0]
      unfold begD
      rw [evD_len, evD_len, hn, hm, decide_eq_false hle]; rfl)
    rw [hn, hm]
    clear ha hb hea heb hwa hwb hr0 hn hm hle hcap
    go_enter Try.func14, Try.ntmps14
    go_wp2_with fail
    go_ret
    exact ⟨_, rfl, by rw [HV.out]; rfl, H.below⟩
end Go.Proofs.Ytbepaafgcbgmfaa

namespace Go.Proofs.Ytbepaafgcbgmfaa
open Go.ChangeShapes Go.WideShapes Go.ChangeAt Go.RowKit Go.Maps
set_option linter.unusedVariables false
set_option linter.unusedSimpArgs false
set_option linter.unusedSectionVars false
set_option maxRecDepth 100000
set_option maxHeartbeats 4000000
/-- A slice of the call's own that holds events. -/
structure Inn where
  es : List Eh
  a : Option Addr
  c : Nat
def in0 : Inn := ⟨[], none, 0⟩
abbrev hv (x : Inn) : Value := .slice x.a x.es.length x.c
def InR (G : Nat → Prop) (w : World) (x : Inn) : Prop := SlG G w 9 x.es.length (hv x) (elE x.es) ∧ x.es.length ≤ x.c
theorem InR.loc {G : Nat → Prop} {w w' : World} {x : Inn} (hg : ∀ g, G g → w'.heap[g]? = w.heap[g]?) (h : InR G w x) : InR G w' x := ⟨h.1.loc hg, h.2⟩
theorem InR.mono {G G' : Nat → Prop} {w : World} {x : Inn} (hg : ∀ g, G g → G' g) (h : InR G w x) : InR G' w x := ⟨h.1.mono hg, h.2⟩
theorem InR.grow {G : Nat → Prop} {w w' : World} {x : Inn} (h : InR G w x) (hb : Below w.heap.size w w') : InR G w' x := ⟨h.1.grow hb, h.2⟩
def rdI (G : Nat → Prop) (S : List Inn) : Res := (G, fun w => ∀ x ∈ S, InR G w x)
theorem rdI_loc (G : Nat → Prop) (S : List Inn) : Loc (rdI G S) := fun _ _ hb h x hx => (h x hx).loc hb
theorem St.rdI0 {B : Nat} {w0 w : World} {L : List Res} (H : St B w0 w L) : St B w0 w (rdI (fun _ => False) [] :: L) :=
  St.emp (p := (rdI (fun _ => False) []).2) (fun W x hx => absurd hx List.not_mem_nil) H
theorem evc_one (V : Ev) (h : Hd) : ∀ u ∈ (evA V h).toList, u.oneCell' = true := by
  intro u hu
  simp only [evA, List.mem_cons, List.not_mem_nil, or_false] at hu
  rcases hu with rfl | rfl | rfl | rfl | rfl | rfl | rfl | rfl | rfl <;> rfl
theorem own_cap {w : World} {b : Nat} {e : TypeId} {size : Nat} {a : Option Addr} {n c : Nat} {xs : List Value} (h : w.ownsRow b e size (.slice a n c) n xs) : n ≤ c := by
  rcases h.2 with ⟨hv, h0⟩ | ⟨g, cap, cur, hv, _, _, h1, _⟩
  · omega
  · injection hv with _ _ e2; omega
theorem own_InR {w : World} {b : Nat} {x : Inn} (h : w.ownsRow b 62 9 (hv x) x.es.length (fv evc x.es)) (hl : x.es.length ≤ 1000000) : InR (fun g => (hv x).ownBlock = some g) w x :=
  ⟨SlG.of_own h (fun i hi j hj => by rw [fv_get evc_size x.es i x.es[i] (List.getElem?_eq_getElem hi) j hj]; unfold elE; rw [getD_at hi]) (by unfold maxLen; omega), own_cap h⟩
/-- What is no longer written is read only. -/
theorem St.shutI {B : Nat} {w0 w : World} {L : List Res} {G : Nat → Prop} {S : List Inn} (x : Inn) (hl : x.es.length ≤ 1000000) (H : St B w0 w (slc 62 9 (hv x) x.es.length (fv evc x.es) :: rdI G S :: L)) :
    ∃ G' : Nat → Prop, St B w0 w (rdI G' (S ++ [x]) :: L) :=
  ⟨fun g => (hv x).ownBlock = some g ∨ G g, H.join.conv (r' := rdI (fun g => (hv x).ownBlock = some g ∨ G g) (S ++ [x])) (fun g h => h) (fun hs => ⟨fun y hy => by
    rcases List.mem_append.1 hy with h1 | h1
    · exact (hs.here.2 y h1).mono (fun g hg => .inr hg)
    · obtain rfl := List.mem_singleton.1 h1
      exact (own_InR hs.here.1 hl).mono (fun g hg => .inl hg), hs.lt, rdI_loc _ _⟩)⟩
theorem hdr_set {S : List Inn} {m : Nat} {v u : Value} (hm : S.length = m) : (S.map hv ++ [v]).set m u = S.map hv ++ [u] := by
  subst hm
  rw [List.set_append]
  simp
theorem hdr_get {S : List Inn} {m : Nat} {v : Value} (hm : S.length = m) : (S.map hv ++ [v])[m]? = some v := by
  subst hm
  simp
/-! ### What the stays are -/
def stA (S : List (List Eh)) (e : Eh) : List (List Eh) := if e.1.kd = 1 then S ++ [[e]] else match S.getLast? with | none => [] | some x => S.dropLast ++ [x ++ [e]]
def staysH (l : List Eh) : List (List Eh) := l.foldl stA []
theorem staysH_snoc (l : List Eh) (e : Eh) : staysH (l ++ [e]) = stA (staysH l) e := by unfold staysH; rw [List.foldl_append]; rfl
theorem stA_new {S : List (List Eh)} {e : Eh} (h : e.1.kd = 1) : stA S e = S ++ [[e]] := if_pos h
theorem stA_nil {e : Eh} (h : e.1.kd ≠ 1) : stA [] e = [] := if_neg h
theorem stA_add {S : List (List Eh)} {x : List Eh} {e : Eh} (h : e.1.kd ≠ 1) : stA (S ++ [x]) e = S ++ [x ++ [e]] := by unfold stA; rw [if_neg h]; simp
/-- Slices of slices of events, read only. -/
def InnG (G : Nat → Prop) (w : World) (v : Value) (I : List Inn) : Prop := SlG G w 1 I.length v (fun i => #[hv (I.getD i in0)]) ∧ ∀ x ∈ I, InR G w x
def StaysP (w0 w : World) (v : Value) (T : List (List Eh)) : Prop := ∃ (I : List Inn) (oa : Option Addr) (oc : Nat) (G : Nat → Prop), v = .slice oa I.length oc ∧ I.map (·.es) = T ∧ (∀ g, G g → w0.heap.size ≤ g ∧ g < w.heap.size) ∧ InnG G w v I
theorem St.outI {w w' : World} {I : List Inn} {G : Nat → Prop} {oa : Option Addr} {oc n : Nat} (hn : I.length = n) (hl : n ≤ 1000000) (T : List (List Eh)) (hT : I.map (·.es) = T) (H : St w.heap.size w w' (slc 22 1 (.slice oa n oc) n (I.map hv) :: rdI G I :: [])) :
    StaysP w w' (.slice oa n oc) T := by
  subst hn
  have h1 := H.sound _ List.mem_cons_self
  have h2 := H.sound _ (List.mem_cons_of_mem _ List.mem_cons_self)
  have b1 := H.base _ List.mem_cons_self
  have b2 := H.base _ (List.mem_cons_of_mem _ List.mem_cons_self)
  refine ⟨I, oa, oc, fun g => (Value.slice oa I.length oc).ownBlock = some g ∨ G g, rfl, hT, fun g hg => ?_, ?_, fun x hx => (h2.here x hx).mono (fun g hg => .inr hg)⟩
  · rcases hg with hg | hg
    · exact ⟨b1 g hg, h1.lt g hg⟩
    · exact ⟨b2 g hg, h2.lt g hg⟩
  · refine (SlG.of_own h1.here (fun i hi j hj => ?_) (by unfold maxLen; omega)).mono (fun g hg => .inl hg)
    obtain rfl : j = 0 := by omega
    rw [Nat.mul_one, Nat.add_zero, List.getElem?_map, List.getElem?_eq_getElem hi]
    simp [List.getD, hi]
theorem St.own1 {B : Nat} {w0 w : World} {L : List Res} {g : Nat} {V : Ev} {h : Hd} (H : St B w0 w (row 62 g (evA V h) :: L)) : St B w0 w (slc 62 9 (.slice (some ⟨g, 0, none⟩) 1 1) 1 (fv evc [(V, h)]) :: L) :=
  H.shut_slc (n := 1) (cap := 1) (size := 9) (xs := fv evc [(V, h)]) uP (Nat.le_refl _) (by decide) rfl (by rw [fv_one]; rfl)
theorem stays_ok (va : Value) (l : List Eh) (w : World) (hs : Sl w 9 l.length va (elE l)) (hl : l.length ≤ 1000) :
    Calls Try.prog 11 #[va] w (Ret fun v w' => StaysP w w' v (staysH l) ∧ Below w.heap.size w w') := by
  have H := St.init w
  obtain ⟨aa, ca, rfl, hma, _⟩ := id hs
  unfold maxLen at hma
  obtain ⟨n, hn⟩ : ∃ n, l.length = n := ⟨_, rfl⟩
  have HN := Lib.hid hn
  rw [hn] at hs hma hl ⊢
  clear hn
  go_enter Try.func11, Try.ntmps11
  go_wp2_with (first | (with_reducible refine wpl rfl (ldQ (ty := 62) rfl ?_); first | (with_reducible refine (Stp.ldor rfl agg62 size62 rfl H (by assumption) sZ (by assumption) ?_); simp only [pS]) | (with_reducible refine (Stp.ldr rfl agg62 size62 rfl H mR sZ ?_); simp only [pS]) | (with_reducible refine (Stp.ldl rfl agg62 size62 rfl H mR (by simp) ?_); simp only [pS]; simp only [List.drop_succ_cons, List.drop_zero, List.take_succ_cons, List.take_zero])) | (with_reducible refine wpl rfl (dQ 5 rfl ?_); with_reducible refine (Stp.alloc 5 rfl rfl zero62 H ?_); clear H; intro g5 w1 H; simp only [pS]; simp only [nC] at H) | (with_reducible refine wpl rfl (stQ (ty := 62) rfl ?_); first | (with_reducible refine (Stp.str rfl size62 rfl rfl (by first | rfl | (simp [Value.oneCell']; done) | assumption) H uP sZ sZ ?_); clear H; intro w1 H; simp only [pS]) | (with_reducible refine (Stp.stl rfl size62 rfl rfl rfl rfl H uP (by simp) ?_); clear H; intro w1 H; simp only [pS]; simp only [List.drop_succ_cons, List.drop_zero, List.take_succ_cons, List.take_zero, List.nil_append, List.cons_append, Nat.reduceAdd] at H)) | (with_reducible refine wpl rfl (ldQ (ty := 3) rfl ?_); first | (with_reducible refine (Stp.ldo rfl agg3 rfl H (by assumption) (by assumption) ?_); simp only [pS]) | (with_reducible refine (Stp.ldc rfl agg3 rfl H mR cE ?_); simp only [pS])))
  replace H := H.nil 22 1
  go_loopw [3, 8] (fun o i wr => ∃ k : Nat, k ≤ n ∧ i = .int .i64 k ∧ ((Hid (staysH (l.take k) = []) ∧ o = .slice none 0 0 ∧ St w.heap.size w wr [slc 22 1 (.slice none 0 0) 0 []]) ∨ (∃ (S : List Inn) (m : Nat) (es : List Eh) (le : Nat) (xa : Option Addr) (xc : Nat) (oa : Option Addr) (oc : Nat) (G : Nat → Prop), Hid (S.length = m) ∧ Hid (es.length = le) ∧ Hid (staysH (l.take k) = S.map (·.es) ++ [es]) ∧ o = .slice oa (m + 1) oc ∧ le ≤ k ∧ m + 1 ≤ k ∧ St w.heap.size w wr [slc 22 1 (.slice oa (m + 1) oc) (m + 1) (S.map hv ++ [.slice xa le xc]), slc 62 9 (.slice xa le xc) le (fv evc es), rdI G S]))) (fun _ i _ => n - (intOf i).toNat)
  case atStart => exact ⟨0, Nat.zero_le _, rfl, .inl ⟨Lib.hid rfl, rfl, H⟩⟩
  case round =>
    clear H
    obtain ⟨k, hk, rfl, hrel⟩ := hrel
    by_cases hlt : k < n
    · have hl1 : k < l.length := by rw [HN.out]; exact hlt
      obtain ⟨b1, o1, rfl, hb1⟩ := hs.addr (by omega)
      have hc1 := hs.cell hlt
      rw [elE_at hl1] at hc1
      have HT := Lib.hid (List.take_succ_eq_append_getElem hl1)
      obtain ⟨⟨V, h⟩, hx⟩ : ∃ x, l[k] = x := ⟨_, rfl⟩
      rw [hx] at hc1 HT
      simp only at hc1
      have kli : (k : Int) < (n : Int) := by omega
      clear hx hl1
      by_cases hkd : V.kd = 1
      · have hki : (V.kd == 1) = true := by simpa using hkd
        have HK := Lib.hid hkd
        clear hkd
        rcases hrel with ⟨HS, rfl, H⟩ | ⟨S, m, es, le, xa, xc, oa, oc, G, HM, HL, HS, rfl, hle, hmk, H⟩
        · have HS2 : Hid (staysH (l.take (k + 1)) = ([] : List Inn).map (·.es) ++ [[(V, h)]]) := Lib.hid (by rw [HT.out, staysH_snoc, HS.out, stA_new HK.out]; rfl)
          go_wp2_with (first | (with_reducible refine wpl rfl (dQ 18 rfl ?_); with_reducible refine (Stp.bsl (e := 62) (cs := #[.int .i64 V.kd, .int .u64 (V.x.id : Int), .slice h.ma V.x.mem.length h.mc, .slice h.la V.x.lvs.length h.lc, .slice h.da V.x.ldr.length h.dc, .int .u16 (V.p.1 : Int), .int .u32 (V.p.2 : Int), .int .u64 (V.n : Int), .slice h.ba V.data.length h.bc]) 18 rfl rfl (fun W => by kernel_rfl) H ?_); clear H; intro g18 w1 H; simp only [pS]) | (with_reducible refine wpl rfl (dQ 19 rfl ?_); with_reducible refine (Stp.bsl (e := 22) (cs := #[.slice (some ⟨g18, 0, none⟩) 1 1]) 19 rfl rfl (fun W => by kernel_rfl) H ?_); clear H; intro g19 w1 H; simp only [pS]) | (with_reducible refine wpl rfl (dQ 20 rfl ?_); with_reducible refine (Stp.app 20 rfl rfl Try.underlying32 info22 rfl (by decide) rfl rfl H (fun _ => uP) (show ((#[.slice (some ⟨g18, 0, none⟩) 1 1] : Array Value).toList).length = 1 * 1 from rfl) (newN (H.gr 22)) (by simp [Value.oneCell']) (by unfold maxLen; omega) (by omega) ?_); clear H; intro a20 c20 w1 H; simp only [pS]) | (with_reducible refine wpl rfl (ldQ (ty := 62) rfl ?_); first | (with_reducible refine (Stp.ldor rfl agg62 size62 rfl H (by assumption) sZ (by assumption) ?_); simp only [pS]) | (with_reducible refine (Stp.ldr rfl agg62 size62 rfl H mR sZ ?_); simp only [pS]) | (with_reducible refine (Stp.ldl rfl agg62 size62 rfl H mR (by simp) ?_); simp only [pS]; simp only [List.drop_succ_cons, List.drop_zero, List.take_succ_cons, List.take_zero])) | (with_reducible refine wpl rfl (dQ 5 rfl ?_); with_reducible refine (Stp.alloc 5 rfl rfl zero62 H ?_); clear H; intro g5 w1 H; simp only [pS]; simp only [nC] at H) | (with_reducible refine wpl rfl (stQ (ty := 62) rfl ?_); first | (with_reducible refine (Stp.str rfl size62 rfl rfl (by first | rfl | (simp [Value.oneCell']; done) | assumption) H uP sZ sZ ?_); clear H; intro w1 H; simp only [pS]) | (with_reducible refine (Stp.stl rfl size62 rfl rfl rfl rfl H uP (by simp) ?_); clear H; intro w1 H; simp only [pS]; simp only [List.drop_succ_cons, List.drop_zero, List.take_succ_cons, List.take_zero, List.nil_append, List.cons_append, Nat.reduceAdd] at H)) | (with_reducible refine wpl rfl (ldQ (ty := 3) rfl ?_); first | (with_reducible refine (Stp.ldo rfl agg3 rfl H (by assumption) (by assumption) ?_); simp only [pS]) | (with_reducible refine (Stp.ldc rfl agg3 rfl H mR cE ?_); simp only [pS])))
          go_roundw
          case rel =>
            have H2 := ((H.pull (r := slc 22 1 _ _ _) pU).pull (r := row 62 g18 _) pU).own1
            have H4 := (((H2.rdI0.pull (r := slc 62 9 _ _ _) pU).pull (r := slc 22 1 _ _ _) pU)).sub (L' := _ :: _ :: _ :: []) sU
            exact ⟨k + 1, by omega, by go_num, .inr ⟨[], 0, [(V, h)], 1, some ⟨g18, 0, none⟩, 1, a20, c20, fun _ => False, Lib.hid rfl, Lib.hid rfl, HS2, rfl, by omega, by omega, H4⟩⟩
          case measure => simp [intOf]; omega
        · have HS2 : Hid (staysH (l.take (k + 1)) = (S ++ [(⟨es, xa, xc⟩ : Inn)]).map (·.es) ++ [[(V, h)]]) := Lib.hid (by rw [HT.out, staysH_snoc, HS.out, stA_new HK.out]; simp)
          have HM2 : Hid ((S ++ [(⟨es, xa, xc⟩ : Inn)]).length = m + 1) := Lib.hid (by rw [List.length_append, HM.out]; rfl)
          have HH2 : Hid (S.map hv ++ [.slice xa le xc] = (S ++ [(⟨es, xa, xc⟩ : Inn)]).map hv) := Lib.hid (by rw [List.map_append, ← HL.out]; rfl)
          have hl1 : es.length ≤ 1000000 := by rw [HL.out]; omega
          go_wp2_with (first | (with_reducible refine wpl rfl (dQ 18 rfl ?_); with_reducible refine (Stp.bsl (e := 62) (cs := #[.int .i64 V.kd, .int .u64 (V.x.id : Int), .slice h.ma V.x.mem.length h.mc, .slice h.la V.x.lvs.length h.lc, .slice h.da V.x.ldr.length h.dc, .int .u16 (V.p.1 : Int), .int .u32 (V.p.2 : Int), .int .u64 (V.n : Int), .slice h.ba V.data.length h.bc]) 18 rfl rfl (fun W => by kernel_rfl) H ?_); clear H; intro g18 w1 H; simp only [pS]) | (with_reducible refine wpl rfl (dQ 19 rfl ?_); with_reducible refine (Stp.bsl (e := 22) (cs := #[.slice (some ⟨g18, 0, none⟩) 1 1]) 19 rfl rfl (fun W => by kernel_rfl) H ?_); clear H; intro g19 w1 H; simp only [pS]) | (with_reducible refine wpl rfl (dQ 20 rfl ?_); with_reducible refine (Stp.app 20 rfl rfl Try.underlying32 info22 rfl (by decide) rfl rfl H (fun _ => uP) (show ((#[.slice (some ⟨g18, 0, none⟩) 1 1] : Array Value).toList).length = 1 * 1 from rfl) (newN (H.gr 22)) (by simp [Value.oneCell']) (by unfold maxLen; omega) (by omega) ?_); clear H; intro a20 c20 w1 H; simp only [pS]) | (with_reducible refine wpl rfl (ldQ (ty := 62) rfl ?_); first | (with_reducible refine (Stp.ldor rfl agg62 size62 rfl H (by assumption) sZ (by assumption) ?_); simp only [pS]) | (with_reducible refine (Stp.ldr rfl agg62 size62 rfl H mR sZ ?_); simp only [pS]) | (with_reducible refine (Stp.ldl rfl agg62 size62 rfl H mR (by simp) ?_); simp only [pS]; simp only [List.drop_succ_cons, List.drop_zero, List.take_succ_cons, List.take_zero])) | (with_reducible refine wpl rfl (dQ 5 rfl ?_); with_reducible refine (Stp.alloc 5 rfl rfl zero62 H ?_); clear H; intro g5 w1 H; simp only [pS]; simp only [nC] at H) | (with_reducible refine wpl rfl (stQ (ty := 62) rfl ?_); first | (with_reducible refine (Stp.str rfl size62 rfl rfl (by first | rfl | (simp [Value.oneCell']; done) | assumption) H uP sZ sZ ?_); clear H; intro w1 H; simp only [pS]) | (with_reducible refine (Stp.stl rfl size62 rfl rfl rfl rfl H uP (by simp) ?_); clear H; intro w1 H; simp only [pS]; simp only [List.drop_succ_cons, List.drop_zero, List.take_succ_cons, List.take_zero, List.nil_append, List.cons_append, Nat.reduceAdd] at H)) | (with_reducible refine wpl rfl (ldQ (ty := 3) rfl ?_); first | (with_reducible refine (Stp.ldo rfl agg3 rfl H (by assumption) (by assumption) ?_); simp only [pS]) | (with_reducible refine (Stp.ldc rfl agg3 rfl H mR cE ?_); simp only [pS])))
          go_roundw
          case rel =>
            have HL' := HL.out
            subst HL'
            obtain ⟨G', H2⟩ := ((H.pull (r := rdI G S) pU).pull (r := slc 62 9 _ _ _) pU).shutI ⟨es, xa, xc⟩ hl1
            have H3 := (H2.pull (r := row 62 g18 _) pU).own1
            have H4 := (H3.pull (r := slc 22 1 _ _ _) pU).sub (L' := _ :: _ :: _ :: []) sU
            rw [HH2.out] at H4
            exact ⟨k + 1, by omega, by go_num, .inr ⟨S ++ [⟨es, xa, xc⟩], m + 1, [(V, h)], 1, some ⟨g18, 0, none⟩, 1, a20, c20, G', HM2, Lib.hid rfl, HS2, rfl, by omega, by omega, H4⟩⟩
          case measure => simp [intOf]; omega
      · have hki : (V.kd == 1) = false := by simpa using hkd
        have HK := Lib.hid hkd
        clear hkd
        rcases hrel with ⟨HS, rfl, H⟩ | ⟨S, m, es, le, xa, xc, oa, oc, G, HM, HL, HS, rfl, hle, hmk, H⟩
        · have HS2 : Hid (staysH (l.take (k + 1)) = []) := Lib.hid (by rw [HT.out, staysH_snoc, HS.out, stA_nil HK.out])
          go_wp2_with (first | (with_reducible refine wpl rfl (ldQ (ty := 62) rfl ?_); first | (with_reducible refine (Stp.ldor rfl agg62 size62 rfl H (by assumption) sZ (by assumption) ?_); simp only [pS]) | (with_reducible refine (Stp.ldr rfl agg62 size62 rfl H mR sZ ?_); simp only [pS]) | (with_reducible refine (Stp.ldl rfl agg62 size62 rfl H mR (by simp) ?_); simp only [pS]; simp only [List.drop_succ_cons, List.drop_zero, List.take_succ_cons, List.take_zero])) | (with_reducible refine wpl rfl (dQ 5 rfl ?_); with_reducible refine (Stp.alloc 5 rfl rfl zero62 H ?_); clear H; intro g5 w1 H; simp only [pS]; simp only [nC] at H) | (with_reducible refine wpl rfl (stQ (ty := 62) rfl ?_); first | (with_reducible refine (Stp.str rfl size62 rfl rfl (by first | rfl | (simp [Value.oneCell']; done) | assumption) H uP sZ sZ ?_); clear H; intro w1 H; simp only [pS]) | (with_reducible refine (Stp.stl rfl size62 rfl rfl rfl rfl H uP (by simp) ?_); clear H; intro w1 H; simp only [pS]; simp only [List.drop_succ_cons, List.drop_zero, List.take_succ_cons, List.take_zero, List.nil_append, List.cons_append, Nat.reduceAdd] at H)) | (with_reducible refine wpl rfl (ldQ (ty := 3) rfl ?_); first | (with_reducible refine (Stp.ldo rfl agg3 rfl H (by assumption) (by assumption) ?_); simp only [pS]) | (with_reducible refine (Stp.ldc rfl agg3 rfl H mR cE ?_); simp only [pS])))
          go_roundw
          case rel => exact ⟨k + 1, by omega, by go_num, .inl ⟨HS2, rfl, H.sub sU⟩⟩
          case measure => simp [intOf]; omega
        · have HS2 : Hid (staysH (l.take (k + 1)) = S.map (·.es) ++ [es ++ [(V, h)]]) := Lib.hid (by rw [HT.out, staysH_snoc, HS.out, stA_add HK.out])
          have HL2 : Hid ((es ++ [(V, h)]).length = le + 1) := Lib.hid (by rw [List.length_append, HL.out]; rfl)
          have HF2 : Hid (fv evc es ++ (evA V h).toList = fv evc (es ++ [(V, h)])) := Lib.hid (by rw [fv_app, fv_one]; rfl)
          have HW : Hid (IntKind.i64.wrap (m : Int) = (m : Int)) := Lib.hid (by rw [IntKind.wrap_i64]; omega)
          have hm1i : (0 : Int) < ((m + 1 : Nat) : Int) := by omega
          have hmi : (m : Int) < (m : Int) + 1 := by omega
          obtain ⟨go, rfl⟩ := H.own_addr (e := 22) mE (Nat.succ_pos m)
          go_wp2_with (first | (with_reducible refine wpl rfl (ldQ (ty := 62) rfl ?_); first | (with_reducible refine (Stp.ldor rfl agg62 size62 rfl H (by assumption) sZ (by assumption) ?_); simp only [pS]) | (with_reducible refine (Stp.ldr rfl agg62 size62 rfl H mR sZ ?_); simp only [pS]) | (with_reducible refine (Stp.ldl rfl agg62 size62 rfl H mR (by simp) ?_); simp only [pS]; simp only [List.drop_succ_cons, List.drop_zero, List.take_succ_cons, List.take_zero])) | (with_reducible refine wpl rfl (dQ 5 rfl ?_); with_reducible refine (Stp.alloc 5 rfl rfl zero62 H ?_); clear H; intro g5 w1 H; simp only [pS]; simp only [nC] at H) | (with_reducible refine wpl rfl (stQ (ty := 62) rfl ?_); first | (with_reducible refine (Stp.str rfl size62 rfl rfl (by first | rfl | (simp [Value.oneCell']; done) | assumption) H uP sZ sZ ?_); clear H; intro w1 H; simp only [pS]) | (with_reducible refine (Stp.stl rfl size62 rfl rfl rfl rfl H uP (by simp) ?_); clear H; intro w1 H; simp only [pS]; simp only [List.drop_succ_cons, List.drop_zero, List.take_succ_cons, List.take_zero, List.nil_append, List.cons_append, Nat.reduceAdd] at H)) | (with_reducible refine wpl rfl (ldQ (ty := 3) rfl ?_); first | (with_reducible refine (Stp.ldo rfl agg3 rfl H (by assumption) (by assumption) ?_); simp only [pS]) | (with_reducible refine (Stp.ldc rfl agg3 rfl H mR cE ?_); simp only [pS])))
          refine rk_begin 14 15 (fun W => St w.heap.size w W (row 62 g5 #[.int .i64 V.kd, .int .u64 (V.x.id : Int), .slice h.ma V.x.mem.length h.mc, .slice h.la V.x.lvs.length h.lc, .slice h.da V.x.ldr.length h.dc, .int .u16 (V.p.1 : Int), .int .u32 (V.p.2 : Int), .int .u64 (V.n : Int), .slice h.ba V.data.length h.bc] :: slc 22 1 (.slice (some ⟨go, 0, none⟩) (m + 1) oc) (m + 1) (S.map hv ++ [.slice xa le xc]) :: [])) rfl (by kernel_rfl) ?_
          replace H := H.drew
          have HS := H
          refine rk_free (i := 0) rfl kR kR kR kR (Yld.move rfl rfl) (fun _ => (H.sub sU)) ?_; simp only [pS, pE]
          refine rk_free (i := 1) rfl kR kR kR kR (Yld.move rfl rfl) (fun _ => (H.sub sU)) ?_; simp only [pS, pE]
          refine rk_free (i := 2) rfl kR kR kR kR (Yld.o rfl) (fun _ => (H.sub sU)) ?_; simp only [pS]
          refine rk_free (i := 3) rfl kR kR kR kR (Yld.of (v := .int .i64 (m : Int)) rfl (fun W _ => by go_simp; first | done | exact HW.out | (rw [HW.out]))) (fun _ => (H.sub sU)) ?_; simp only [pS, pE]
          refine rk_free (i := 4) rfl kR kR kR kR (Yld.move rfl rfl) (fun _ => (H.sub sU)) ?_; simp only [pS, pE]
          refine rk_free (i := 5) rfl kR kR kR kR (Yld.move rfl rfl) (fun _ => (H.sub sU)) ?_; simp only [pS, pE]
          refine rk_free (i := 6) rfl kR kR kR kR (Yld.o rfl) (fun _ => (H.sub sU)) ?_; simp only [pS]
          refine rk_free (i := 7) rfl kR kR kR kR (Yld.of (v := .int .i64 (m : Int)) rfl (fun W _ => by go_simp; first | done | exact HW.out | (rw [HW.out]))) (fun _ => (H.sub sU)) ?_; simp only [pS, pE]
          refine rk_free (i := 8) rfl kR kR kR kR (Yld.o rfl) (fun _ => (H.sub sU)) ?_; simp only [pS]
          refine rk_take (i := 9) rfl kR kR kR kR kR kR (Yld.lsc rfl rfl agg22 rfl mE (hdr_get HM.out)) (H.sub sU) ?_; simp only [pS, pE]
          first | (refine rk_take (i := 10) rfl kR kR kR kR kR kR (Yld.ldr rfl rfl agg62 size62 rfl mR sZ) (H.sub sU) ?_; simp only [pS]) | (refine rk_take (i := 10) rfl kR kR kR kR kR kR (Yld.ldl rfl rfl agg62 size62 rfl mR (by simp)) (H.sub sU) ?_; simp only [pS]; simp only [List.drop_succ_cons, List.drop_zero, List.take_succ_cons, List.take_zero]) | (refine rk_take (i := 10) rfl kR kR kR kR kR kR (Yld.ldor rfl rfl agg62 size62 rfl (by assumption) sZ (by assumption)) (H.sub sU) ?_; simp only [pS])
          refine rk_one (i := 11) (by kernel_rfl) rfl rfl (fun K hK => ?_)
          refine Stp.wp (Stp.bsl (e := 62) (cs := #[.int .i64 V.kd, .int .u64 (V.x.id : Int), .slice h.ma V.x.mem.length h.mc, .slice h.la V.x.lvs.length h.lc, .slice h.da V.x.ldr.length h.dc, .int .u16 (V.p.1 : Int), .int .u32 (V.p.2 : Int), .int .u64 (V.n : Int), .slice h.ba V.data.length h.bc]) 36 rfl rfl (fun W => by kernel_rfl) H ?_)
          clear H
          intro g36 w1 H
          clear HS
          have HS := H
          refine hK.out _ _ (fun _ => (H.sub sU)) ?_
          clear hK K
          simp only [pS]
          refine rk_one (i := 12) (by kernel_rfl) rfl rfl (fun K hK => ?_)
          refine Stp.wp (Stp.app 37 rfl rfl Try.underlying22 info62 rfl (by decide) rfl rfl H (fun _ => uP) (show (#[.int .i64 V.kd, .int .u64 (V.x.id : Int), .slice h.ma V.x.mem.length h.mc, .slice h.la V.x.lvs.length h.lc, .slice h.da V.x.ldr.length h.dc, .int .u16 (V.p.1 : Int), .int .u32 (V.p.2 : Int), .int .u64 (V.n : Int), .slice h.ba V.data.length h.bc].toList).length = 1 * 9 from rfl) (newN (H.gr 62)) (evc_one V h) (by unfold maxLen; omega) (by omega) ?_)
          clear H
          intro a37 c37 w1 H
          clear HS
          have HS := H
          refine hK.out _ _ (fun _ => (H.sub sU)) ?_
          clear hK K
          simp only [pS]
          refine rk_free (i := 13) rfl kR kR kR kR (Yld.o rfl) (fun _ => (H.sub sU)) ?_; simp only [pS]
          refine rk_one (i := 14) (by kernel_rfl) rfl rfl (fun K hK => ?_)
          refine Stp.wp (Stp.ssc rfl size22 rfl rfl rfl rfl H uP (by omega) ?_)
          clear H
          intro w1 H
          rw [hdr_set HM.out] at H
          clear HS
          have HS := H
          refine hK.out _ _ (fun h => by cases (show true = false from h)) ?_
          clear hK K
          simp only [pS]
          refine rk_done (by kernel_rfl) ?_
          go_wp2_with (first | (with_reducible refine wpl rfl (ldQ (ty := 62) rfl ?_); first | (with_reducible refine (Stp.ldor rfl agg62 size62 rfl H (by assumption) sZ (by assumption) ?_); simp only [pS]) | (with_reducible refine (Stp.ldr rfl agg62 size62 rfl H mR sZ ?_); simp only [pS]) | (with_reducible refine (Stp.ldl rfl agg62 size62 rfl H mR (by simp) ?_); simp only [pS]; simp only [List.drop_succ_cons, List.drop_zero, List.take_succ_cons, List.take_zero])) | (with_reducible refine wpl rfl (dQ 5 rfl ?_); with_reducible refine (Stp.alloc 5 rfl rfl zero62 H ?_); clear H; intro g5 w1 H; simp only [pS]; simp only [nC] at H) | (with_reducible refine wpl rfl (stQ (ty := 62) rfl ?_); first | (with_reducible refine (Stp.str rfl size62 rfl rfl (by first | rfl | (simp [Value.oneCell']; done) | assumption) H uP sZ sZ ?_); clear H; intro w1 H; simp only [pS]) | (with_reducible refine (Stp.stl rfl size62 rfl rfl rfl rfl H uP (by simp) ?_); clear H; intro w1 H; simp only [pS]; simp only [List.drop_succ_cons, List.drop_zero, List.take_succ_cons, List.take_zero, List.nil_append, List.cons_append, Nat.reduceAdd] at H)) | (with_reducible refine wpl rfl (ldQ (ty := 3) rfl ?_); first | (with_reducible refine (Stp.ldo rfl agg3 rfl H (by assumption) (by assumption) ?_); simp only [pS]) | (with_reducible refine (Stp.ldc rfl agg3 rfl H mR cE ?_); simp only [pS])))
          go_roundw
          case rel =>
            have H2 := ((H.pull (r := rdI G S) pU).pull (r := slc 62 9 _ _ _) pU)
            have H4 := (H2.pull (r := slc 22 1 _ _ _) pU).sub (L' := _ :: _ :: _ :: []) sU
            rw [HF2.out] at H4
            exact ⟨k + 1, by omega, by go_num, .inr ⟨S, m, es ++ [(V, h)], le + 1, a37, c37, some ⟨go, 0, none⟩, oc, G, HM, HL2, HS2, rfl, by omega, by omega, H4⟩⟩
          case measure => simp [intOf]; omega
    · obtain rfl : k = n := by omega
      have HT : Hid (l.take k = l) := Lib.hid (List.take_of_length_le (by rw [HN.out]; omega))
      rcases hrel with ⟨HS, rfl, H⟩ | ⟨S, m, es, le, xa, xc, oa, oc, G, HM, HL, HS, rfl, hle, hmk, H⟩
      · go_wp2_with (first | (with_reducible refine wpl rfl (ldQ (ty := 62) rfl ?_); first | (with_reducible refine (Stp.ldor rfl agg62 size62 rfl H (by assumption) sZ (by assumption) ?_); simp only [pS]) | (with_reducible refine (Stp.ldr rfl agg62 size62 rfl H mR sZ ?_); simp only [pS]) | (with_reducible refine (Stp.ldl rfl agg62 size62 rfl H mR (by simp) ?_); simp only [pS]; simp only [List.drop_succ_cons, List.drop_zero, List.take_succ_cons, List.take_zero])) | (with_reducible refine wpl rfl (dQ 5 rfl ?_); with_reducible refine (Stp.alloc 5 rfl rfl zero62 H ?_); clear H; intro g5 w1 H; simp only [pS]; simp only [nC] at H) | (with_reducible refine wpl rfl (stQ (ty := 62) rfl ?_); first | (with_reducible refine (Stp.str rfl size62 rfl rfl (by first | rfl | (simp [Value.oneCell']; done) | assumption) H uP sZ sZ ?_); clear H; intro w1 H; simp only [pS]) | (with_reducible refine (Stp.stl rfl size62 rfl rfl rfl rfl H uP (by simp) ?_); clear H; intro w1 H; simp only [pS]; simp only [List.drop_succ_cons, List.drop_zero, List.take_succ_cons, List.take_zero, List.nil_append, List.cons_append, Nat.reduceAdd] at H)) | (with_reducible refine wpl rfl (ldQ (ty := 3) rfl ?_); first | (with_reducible refine (Stp.ldo rfl agg3 rfl H (by assumption) (by assumption) ?_); simp only [pS]) | (with_reducible refine (Stp.ldc rfl agg3 rfl H mR cE ?_); simp only [pS])))
        go_ret
        have H2 := H.rdI0.swap
        refine ⟨_, rfl, ?_, H.below⟩
        exact St.outI (I := []) rfl (Nat.zero_le _) _ (by rw [← HT.out, HS.out]; rfl) H2
      · go_wp2_with (first | (with_reducible refine wpl rfl (ldQ (ty := 62) rfl ?_); first | (with_reducible refine (Stp.ldor rfl agg62 size62 rfl H (by assumption) sZ (by assumption) ?_); simp only [pS]) | (with_reducible refine (Stp.ldr rfl agg62 size62 rfl H mR sZ ?_); simp only [pS]) | (with_reducible refine (Stp.ldl rfl agg62 size62 rfl H mR (by simp) ?_); simp only [pS]; simp only [List.drop_succ_cons, List.drop_zero, List.take_succ_cons, List.take_zero])) | (with_reducible refine wpl rfl (dQ 5 rfl ?_); with_reducible refine (Stp.alloc 5 rfl rfl zero62 H ?_); clear H; intro g5 w1 H; simp only [pS]; simp only [nC] at H) | (with_reducible refine wpl rfl (stQ (ty := 62) rfl ?_); first | (with_reducible refine (Stp.str rfl size62 rfl rfl (by first | rfl | (simp [Value.oneCell']; done) | assumption) H uP sZ sZ ?_); clear H; intro w1 H; simp only [pS]) | (with_reducible refine (Stp.stl rfl size62 rfl rfl rfl rfl H uP (by simp) ?_); clear H; intro w1 H; simp only [pS]; simp only [List.drop_succ_cons, List.drop_zero, List.take_succ_cons, List.take_zero, List.nil_append, List.cons_append, Nat.reduceAdd] at H)) | (with_reducible refine wpl rfl (ldQ (ty := 3) rfl ?_); first | (with_reducible refine (Stp.ldo rfl agg3 rfl H (by assumption) (by assumption) ?_); simp only [pS]) | (with_reducible refine (Stp.ldc rfl agg3 rfl H mR cE ?_); simp only [pS])))
        go_ret
        have hl1 : es.length ≤ 1000000 := by rw [HL.out]; omega
        have HL' := HL.out
        subst HL'
        refine ⟨_, rfl, ?_, H.below⟩
        obtain ⟨G', H2⟩ := ((H.pull (r := rdI G S) pU).pull (r := slc 62 9 _ _ _) pU).shutI ⟨es, xa, xc⟩ hl1
        have H3 := H2.swap
        exact St.outI (I := S ++ [⟨es, xa, xc⟩]) (by rw [List.length_append, HM.out]; rfl) (by omega) _ (by rw [← HT.out, HS.out]; simp) (by rw [List.map_append]; exact H3)
end Go.Proofs.Ytbepaafgcbgmfaa
