/- Regions that draw their order: a load that comes ahead of number k by a chain of operations; no condition. Processes, leaves, views and commands that came in, opened by their cells; no condition. Structs of one size as values of a slice; plain. Layer 29 (flat): events in memory, when two are one, beginnings; slices.Index and slices.Contains over processes, view.Has; no condition. The contract of layer 9's Check (cmd): what it answers; the bounds stand in it. Contracts of the reference's At (choragusref08); no condition. -/
import Derived.Test.YtbepaafgcbgmfaaFz9
import Derived.Test.YtbepaafgcbgmfaaFz5
import Derived.Test.YtbepaafgcbgmfaaFz1
import Derived.Test.YtbepaafgcbgmfaaFz8
namespace Go.Proofs.Ytbepaafgcbgmfaa
open Go.ChangeShapes Go.WideShapes Go.ChangeAt Go.RowKit
set_option linter.unusedVariables false
set_option linter.unusedSimpArgs false
/-! ### A load that comes ahead of number k by a chain of operations -/
def chainB (l : List Oper) : Nat → List Nat → Bool
  | _, [] => true
  | i, c :: r => (l[c]?.map fun o => o.after.any fun e => Region.binds .any e && e.on == i) == some true && chainB l c r
theorem chain_pre {l : List Oper} : ∀ (ch : List Nat) (i : Nat), chainB l i ch = true → ∀ c ∈ ch, ∃ p, (p = i ∨ p ∈ ch) ∧ ∃ o, l[c]? = some o ∧ ∃ e ∈ o.after, Region.binds .any e = true ∧ e.on = p
  | [], _, _, c, hc => by cases hc
  | x :: r, i, h, c, hc => by
    simp only [chainB, Bool.and_eq_true, beq_iff_eq] at h
    rcases List.mem_cons.1 hc with rfl | hc
    · cases ho : l[c]? with
      | none => rw [ho] at h; simp at h
      | some o =>
        rw [ho] at h
        simp only [Option.map_some, Option.some.injEq, Array.any_eq_true', Bool.and_eq_true, beq_iff_eq] at h
        obtain ⟨⟨e, he, hb, hon⟩, _⟩ := h
        exact ⟨i, .inl rfl, o, rfl, e, he, hb, hon⟩
    · obtain ⟨p, hp, q⟩ := chain_pre r x h.2 c hc
      refine ⟨p, .inr ?_, q⟩
      rcases hp with rfl | hp
      · exact List.mem_cons_self
      · exact List.mem_cons_of_mem _ hp
section
variable {P : Program} {Q : Exit → Act → World → Prop} {S : World → Prop} {k : Nat} {a : Act} {w : World} {l : List Oper} {i : Nat} {oi : Oper} {v : Value} {fuel : Nat} {listed : Array Bool}
theorem rk_via (ch : List Nat) (hi : l[i]? = some oi) (hs : Region.noSelect l.toArray = true) (hf : Region.free .any l.toArray listed i = true) (hr : (Region.ready .any l.toArray listed).contains i = true)
    (hc : chainB l i ch = true) (hk : ch.contains k = true) (hl : (ch.all fun c => listed.getD c true == false) = true) (hki : (k == i) = false)
    (hy : YieldsIf P l.toArray S oi v a) (hS : S w) (h : Kept P l.toArray (NoPanic Q) S k fuel (listed.setIfInBounds i true) (a.put oi.dst v) w) : Kept P l.toArray (NoPanic Q) S k (fuel + 1) listed a w := by
  have hik : i ≠ k := fun e => by subst e; simp at hki
  have hkm : k ∈ ch := by simpa using hk
  refine Kept.first (T := S) (J := fun l' => ∀ c ∈ ch, l'.getD c true = false) (by simpa using hi) hik (Region.noSelect_spec hs) (fun _ _ _ h => h) (fun l' w' hj hS' => hS' (hj k hkm)) (fun l' j hj hri hrj hji c hcm => ?_) fuel listed a w (Region.free_spec (by simpa using hi) hf) (by simpa using hr) (fun c hcm => by simpa using List.all_eq_true.1 hl c hcm) hy (fun _ => hS) h
  by_cases hjc : j = c
  · exfalso
    subst hjc
    obtain ⟨p, hp, o, ho, e, he, hb, hon⟩ := chain_pre ch i hc j hcm
    obtain ⟨_, ok, hok, hall⟩ := mem_ready.1 hrj
    have hok' : l[j]? = some ok := by simpa using hok
    rw [ho] at hok'
    cases hok'
    have h1 := hall e he hb
    rw [hon] at h1
    have h0 : l'.getD p true = false := by
      rcases hp with rfl | hp
      · exact (mem_ready.1 hri).1
      · exact hj p hp
    rcases Nat.lt_or_ge p l'.size with h' | h'
    · simp [h'] at h0 h1; rw [h0] at h1; cases h1
    · simp [Array.getElem?_eq_none h'] at h1
  · rw [getD_set_ne true hjc]; exact hj c hcm
end
theorem listed_keeps {l : Array Bool} {k i : Nat} (h : l.getD k false = true) : (l.setIfInBounds i true).getD k false = true ∧ ¬ (l.setIfInBounds i true).getD k true = false := by
  have hk : k < l.size := by
    rcases Nat.lt_or_ge k l.size with h' | h'
    · exact h'
    · simp [Array.getElem?_eq_none h'] at h
  have h1 : l[k] = true := by simpa [hk] using h
  by_cases hik : i = k
  · subst hik; simp [hk]
  · simp [hk, h1, Array.getElem_setIfInBounds, hik]
/-- Behind number k nothing is asked any more: from there on anything may be kept. -/
theorem Kept.later {ops : Array Oper} {S S' : World → Prop} {P : Program} {Q : Exit → Act → World → Prop} {k : Nat} : ∀ (fuel : Nat) (listed : Array Bool) (a : Act) (w : World), listed.getD k false = true → wpAnyH P .any ops Q S' fuel listed a w → Kept P ops Q S k fuel listed a w
  | 0, _, _, _, _, h => h
  | n + 1, l, _, _, hk, h => ⟨h.1, fun i hi => wpOp_mono (fun a' w' h' => ⟨fun hc => absurd hc (listed_keeps hk).2, Kept.later n _ a' w' (listed_keeps hk).1 h'.2⟩) (h.2 i hi)⟩
theorem rk_on {ops : Array Oper} {S : World → Prop} {P : Program} {Q : Exit → Act → World → Prop} {k fuel : Nat} {listed : Array Bool} {a : Act} {w : World} (S' : World → Prop) (hk : listed.getD k false = true) (h : wpAnyH P .any ops Q S' fuel listed a w) : Kept P ops Q S k fuel listed a w := Kept.later _ _ _ _ hk h
end Go.Proofs.Ytbepaafgcbgmfaa

namespace Go.Proofs.Ytbepaafgcbgmfaa
open Go.ChangeShapes Go.WideShapes Go.ChangeAt Go.RowKit Go.Deep
set_option linter.unusedVariables false
set_option linter.unusedSimpArgs false
set_option maxRecDepth 100000
/-- The blocks that were there. -/
abbrev Old (W : World) : Nat → Prop := fun b => b < W.heap.size
section
variable {H : Type} {enc : TypeId × Value → H}
theorem cells_ps {fuel : Nat} {W : World} {cs : List Value} {y : DataW H × List MemPlace} (hf : DataW.trod enc Try.prog W 0 (fun _ => true) true fuel 38 cs = some y) :
    ∃ (a : Option Addr) (c : Nat) (l : List Pr), cs = [.slice a l.length c] ∧ l.length ≤ c ∧ okPids l ∧ SlG (Old W) W 2 l.length (.slice a l.length c) (elQ l) := by
  obtain ⟨a, n, c, E, rfl, hc, hS, hel⟩ := cells_sl (size := 2) Try.underlying38 (by kernel_rfl) (by omega) hf
  have hex : ∀ i, ∃ q : Pr, i < n → E i = #[.int .u16 (q.1 : Int), .int .u32 (q.2 : Int)] ∧ q.1 < 65536 ∧ q.2 < 4294967296 := fun i => by
    by_cases hi : i < n
    · obtain ⟨hs, fuel, y, ht⟩ := hel i hi
      obtain ⟨p, q, e0, h1, h2⟩ := cells_pid ht
      exact ⟨(p, q), fun _ => ⟨Array.toList_inj.1 e0, h1, h2⟩⟩
    · exact ⟨(0, 0), fun hn => absurd hn hi⟩
  have hlen : ((List.range n).map fun i => Classical.choose (hex i)).length = n := by simp
  refine ⟨a, c, (List.range n).map fun i => Classical.choose (hex i), by rw [hlen], by rw [hlen]; exact hc, ?_, ?_⟩
  · intro q hq
    obtain ⟨i, hi, rfl⟩ := List.mem_map.1 hq
    exact ((Classical.choose_spec (hex i)) (by simpa using hi)).2
  · rw [hlen]
    refine SlG.of_sl ?_
    obtain ⟨a', c', e, hm, hc'⟩ := hS
    injection e with e1 e2 e3
    subst e1
    refine ⟨a, c, rfl, hm, fun h0 => ?_⟩
    obtain ⟨b, off, rfl, hb, hcell⟩ := hc' h0
    refine ⟨b, off, rfl, hb, fun i hi j hj => ?_⟩
    rw [hcell i hi j hj, (Classical.choose_spec (hex i) hi).1]
    simp [elQ, List.getD, hi]
theorem cells_lv {fuel : Nat} {W : World} {cs : List Value} {y : DataW H × List MemPlace} (hf : DataW.trod enc Try.prog W 0 (fun _ => true) true fuel 39 cs = some y) :
    ∃ (a : Option Addr) (c : Nat) (ls : List (List Pr)), cs = [.slice a ls.length c] ∧ ls.length ≤ c ∧ (∀ l ∈ ls, okPids l) ∧ LvG (Old W) W (.slice a ls.length c) ls := by
  obtain ⟨a, n, c, E, rfl, hc, hS, hel⟩ := cells_sl (size := 1) Try.underlying39 (by kernel_rfl) (by omega) hf
  have hex : ∀ i, ∃ q : Option Addr × Nat × List Pr, i < n → E i = #[.slice q.1 q.2.2.length q.2.1] ∧ okPids q.2.2 ∧ SlG (Old W) W 2 q.2.2.length (.slice q.1 q.2.2.length q.2.1) (elQ q.2.2) := fun i => by
    by_cases hi : i < n
    · obtain ⟨hs, fuel, y, ht⟩ := hel i hi
      obtain ⟨p, q, l, e0, _, h1, h2⟩ := cells_ps ht
      exact ⟨(p, q, l), fun _ => ⟨Array.toList_inj.1 e0, h1, h2⟩⟩
    · exact ⟨(none, 0, []), fun hn => absurd hn hi⟩
  have hlen : ((List.range n).map fun i => (Classical.choose (hex i)).2.2).length = n := by simp
  have hget : ∀ i, i < n → ((List.range n).map fun i => (Classical.choose (hex i)).2.2).getD i [] = (Classical.choose (hex i)).2.2 := fun i hi => by simp [List.getD, hi]
  refine ⟨a, c, (List.range n).map fun i => (Classical.choose (hex i)).2.2, by rw [hlen], by rw [hlen]; exact hc, ?_, ?_⟩
  · intro q hq
    obtain ⟨i, hi, rfl⟩ := List.mem_map.1 hq
    exact ((Classical.choose_spec (hex i)) (by simpa using hi)).2.1
  · refine ⟨fun i => .slice (Classical.choose (hex i)).1 (Classical.choose (hex i)).2.2.length (Classical.choose (hex i)).2.1, ?_, ?_⟩
    · rw [hlen]
      refine SlG.of_sl ?_
      obtain ⟨a', c', e, hm, hc'⟩ := hS
      injection e with e1 e2 e3
      subst e1
      refine ⟨a, c, rfl, hm, fun h0 => ?_⟩
      obtain ⟨b, off, rfl, hb, hcell⟩ := hc' h0
      refine ⟨b, off, rfl, hb, fun i hi j hj => ?_⟩
      rw [hcell i hi j hj, (Classical.choose_spec (hex i) hi).1]
    · intro i hi
      rw [hlen] at hi
      rw [hget i hi]
      exact ((Classical.choose_spec (hex i)) hi).2.2
theorem cells_vw {fuel : Nat} {W : World} {cs : List Value} {y : DataW H × List MemPlace} (hf : DataW.trod enc Try.prog W 0 (fun _ => true) true fuel 41 cs = some y) :
    ∃ (x : Vw) (ma la da : Option Addr) (mc lc dc : Nat), cs = (vwC x ma la da mc lc dc).toList ∧ wfV x ∧ VwG (Old W) W (.slice ma x.mem.length mc) (.slice la x.lvs.length lc) (.slice da x.ldr.length dc) x := by
  obtain ⟨xs, n, _, _, hl, hx, hfl⟩ := DataW.trod_struct Try.underlying41 hf
  have hC41 : Try.prog.cellsOf 41 = 4 := by kernel_rfl
  have hC37 : Try.prog.cellsOf 37 = 1 := by kernel_rfl
  have hC38 : Try.prog.cellsOf 38 = 1 := by kernel_rfl
  have hC39 : Try.prog.cellsOf 39 = 1 := by kernel_rfl
  rw [hC41] at hl
  match cs, hl with
  | [c0, c1, c2, c3], _ =>
    match xs, hx with
    | [x0, x1, x2, x3], _ =>
      have h0 := hfl 0 _ rfl
      have h1 := hfl 1 _ rfl
      have h2 := hfl 2 _ rfl
      have h3 := hfl 3 _ rfl
      simp only [List.getElem_toArray, List.getElem_cons_zero, List.getElem_cons_succ, hC37, hC38, hC39, List.drop_zero, List.drop_succ_cons, List.take_succ_cons, List.take_zero, List.getElem?_cons_zero, List.getElem?_cons_succ] at h0 h1 h2 h3
      obtain ⟨k0, e0, _, w0⟩ := DataW.trod_int Try.underlying37 h0
      obtain ⟨ma, mc, l1, e1, _, o1, s1⟩ := cells_ps h1
      obtain ⟨la, lc, l2, e2, _, o2, s2⟩ := cells_lv h2
      obtain ⟨da, dc, l3, e3, _, o3, s3⟩ := cells_ps h3
      have b0 := bounds_u64 w0
      simp only [List.cons.injEq, and_true] at e0 e1 e2 e3
      subst e0 e1 e2 e3
      refine ⟨⟨k0.toNat, l1, l2, l3⟩, ma, la, da, mc, lc, dc, ?_, ⟨by simp only; omega, o1, o2, o3⟩, s1, s2, s3⟩
      simp only [vwC]
      rw [show ((k0.toNat : Nat) : Int) = k0 by omega]
theorem open_vw {W : World} {base : Nat} {v : Value} {d : DataW H} {p : List MemPlace} (hv : Value.okWide Try.prog W .any base 41 v) (h : DataW.Trod enc Try.prog W 0 (fun _ => true) true 41 v d p) :
    ∃ (x : Vw) (ma la da : Option Addr) (mc lc dc : Nat), v = .agg (vwC x ma la da mc lc dc) ∧ wfV x ∧ VwG (Old W) W (.slice ma x.mem.length mc) (.slice la x.lvs.length lc) (.slice da x.ldr.length dc) x := by
  unfold Value.okWide at hv
  simp only [Try.underlying41] at hv
  obtain ⟨cs, rfl, hs, _⟩ := hv
  obtain ⟨fuel, hf⟩ := h
  obtain ⟨x, ma, la, da, mc, lc, dc, e, h1, h2⟩ := cells_vw hf
  exact ⟨x, ma, la, da, mc, lc, dc, congrArg Value.agg (Array.toList_inj.1 e), h1, h2⟩
end
end Go.Proofs.Ytbepaafgcbgmfaa

namespace Go.Proofs.Ytbepaafgcbgmfaa
set_option linter.unusedVariables false
set_option linter.unusedSimpArgs false
def fv {α : Type} (f : α → Array Value) (l : List α) : List Value := l.flatMap fun a => (f a).toList
section
variable {α : Type} {f : α → Array Value} {s : Nat}
theorem fv_cons (a : α) (l : List α) : fv f (a :: l) = (f a).toList ++ fv f l := by simp [fv]
theorem fv_len (hs : ∀ a, (f a).size = s) (l : List α) : (fv f l).length = l.length * s := by
  induction l with
  | nil => simp [fv]
  | cons a l ih => rw [fv_cons, List.length_append, ih, List.length_cons, Array.length_toList, hs, Nat.succ_mul, Nat.add_comm]
theorem fv_app (l m : List α) : fv f (l ++ m) = fv f l ++ fv f m := by unfold fv; rw [List.flatMap_append]
theorem fv_one (a : α) : fv f [a] = (f a).toList := by simp [fv]
theorem fv_get (hs : ∀ a, (f a).size = s) (l : List α) : ∀ (k : Nat) (a : α), l[k]? = some a → ∀ j, j < s → (fv f l)[k * s + j]? = (f a)[j]? := by
  induction l with
  | nil => intro k a h; cases h
  | cons b l ih =>
    intro k a h j hj
    rw [fv_cons]
    cases k with
    | zero =>
      have : b = a := by simpa using h
      subst this
      rw [Nat.zero_mul, Nat.zero_add, List.getElem?_append_left (by rw [Array.length_toList, hs]; exact hj)]
      simp
    | succ k =>
      have e : (k + 1) * s + j = s + (k * s + j) := by rw [Nat.succ_mul]; omega
      rw [List.getElem?_append_right (by rw [Array.length_toList, hs]; omega), e, Array.length_toList, hs, Nat.add_sub_cancel_left]
      exact ih k a (by simpa using h) j hj
end
end Go.Proofs.Ytbepaafgcbgmfaa

namespace Go.Proofs.Ytbepaafgcbgmfaa
open Go.ChangeShapes Go.WideShapes Go.ChangeAt Go.RowKit Go.Maps
set_option linter.unusedVariables false
set_option linter.unusedSimpArgs false
set_option linter.unusedSectionVars false
set_option maxRecDepth 100000
set_option maxHeartbeats 4000000
structure Hd where
  ba : Option Addr
  ma : Option Addr
  la : Option Addr
  da : Option Addr
  bc : Nat
  mc : Nat
  lc : Nat
  dc : Nat
def hd0 : Hd := ⟨none, none, none, none, 0, 0, 0, 0⟩
structure Ev where
  kd : Int
  x : Vw
  p : Pr
  n : Nat
  data : List Nat
def ev0 : Ev := ⟨0, vw0, (0, 0), 0, []⟩
/-- An event, and where what it names lies. -/
abbrev Eh := Ev × Hd
def eh0 : Eh := (ev0, hd0)
abbrev evA (v : Ev) (h : Hd) : Array Value := #[.int .i64 v.kd, .int .u64 (v.x.id : Int), .slice h.ma v.x.mem.length h.mc, .slice h.la v.x.lvs.length h.lc, .slice h.da v.x.ldr.length h.dc, .int .u16 (v.p.1 : Int), .int .u32 (v.p.2 : Int), .int .u64 (v.n : Int), .slice h.ba v.data.length h.bc]
def evc (p : Eh) : Array Value := evA p.1 p.2
theorem evc_size (p : Eh) : (evc p).size = 9 := rfl
def elE (l : List Eh) (i : Nat) : Array Value := evc (l.getD i eh0)
theorem elE_at {l : List Eh} {k : Nat} (h : k < l.length) : elE l k = evA l[k].1 l[k].2 := by unfold elE; rw [getD_at h]; rfl
/-- All blocks. -/
abbrev All (_ : Nat) : Prop := True
def EvG (w : World) (e : Eh) : Prop := VwG All w (.slice e.2.ma e.1.x.mem.length e.2.mc) (.slice e.2.la e.1.x.lvs.length e.2.lc) (.slice e.2.da e.1.x.ldr.length e.2.dc) e.1.x ∧ SlG All w 1 e.1.data.length (.slice e.2.ba e.1.data.length e.2.bc) (elB e.1.data)
theorem EvG.grow {w w' : World} {e : Eh} (hh : EvG w e) (hb : Below w.heap.size w w') : EvG w' e := ⟨hh.1.grow hb, hh.2.grow hb⟩
structure wfE (e : Eh) : Prop where
  x : wfV e.1.x
  p1 : e.1.p.1 < 65536
  p2 : e.1.p.2 < 4294967296
  n : e.1.n < 18446744073709551616
  data : ∀ x ∈ e.1.data, x < 256
/-- Two events are one. -/
def eSame (a b : Ev) : Bool := decide (a.kd = b.kd) && (decide (a.p = b.p) && (decide (a.n = b.n) && (decide (a.data = b.data) && vSame a.x b.x)))
theorem eSame_iff {a b : Ev} : eSame a b = true ↔ a = b := by
  obtain ⟨k1, x1, p1, n1, d1⟩ := a
  obtain ⟨k2, x2, p2, n2, d2⟩ := b
  unfold eSame
  simp only [Bool.and_eq_true, decide_eq_true_eq, vSame_iff, Ev.mk.injEq]
  constructor
  · rintro ⟨h1, h2, h3, h4, h5⟩; exact ⟨h1, h5, h2, h3, h4⟩
  · rintro ⟨h1, h5, h2, h3, h4⟩; exact ⟨h1, h2, h3, h4, h5⟩
instance decEv : DecidableEq Ev := fun a b => decidable_of_iff (eSame a b = true) eSame_iff
theorem esame_ok (a b : Ev) (h1 h2 : Hd) (w : World) (hx : EvG w (a, h1)) (hy : EvG w (b, h2)) (wa : ∀ x ∈ a.data, x < 256) (wb : ∀ x ∈ b.data, x < 256) :
    Calls Try.prog 29 #[.agg (evA a h1), .agg (evA b h2)] w (Ret fun v w' => v = .bool (eSame a b) ∧ Below w.heap.size w w') := by
  have H := St.init w
  have B1 := Lib.hid wa
  have B2 := Lib.hid wb
  obtain ⟨hx1, hx2⟩ := hx
  obtain ⟨hy1, hy2⟩ := hy
  have hg := eqg_PD
  by_cases g0 : a.kd = b.kd
  · have iK : (a.kd == b.kd) = true := by simp [g0]
    by_cases g1 : a.p = b.p
    · have eP := eqPD_is a.p.1 a.p.2 b.p.1 b.p.2 true (by simp [g1])
      by_cases g2 : a.n = b.n
      · have iN : ((a.n : Int) == (b.n : Int)) = true := by simp [g2]
        by_cases g3 : a.data = b.data
        · have E4 := Lib.hid (decide_eq_true g3)
          by_cases g4 : vSame a.x b.x = true
          · have E5 := Lib.hid g4
            have HV : Hid (eSame a b = true) := Lib.hid (by simp [eSame, g0, g1, g2, g3, g4])
            clear g0 g1 g2 g3 g4
            go_enter Try.func29, Try.ntmps29
            go_wp2_with (first | (go_at_call 34; (with_reducible refine (bequal_is _ _ a.data b.data B1.out B2.out _ _ (hx2.sl.grow H.below) (hy2.sl.grow H.below) E4.out).mono ?_); rintro e w1 ⟨v, rfl, hr⟩; obtain ⟨rfl, hb1⟩ := hr; replace H := H.grow hb1; clear hb1) | (go_at_call 35; (with_reducible refine (vsame_is a.x b.x _ _ _ _ _ _ _ _ _ _ _ _ _ _ (hx1.grow H.below) (hy1.grow H.below) E5.out).mono ?_); rintro e w1 ⟨v, rfl, hr⟩; obtain ⟨rfl, hb1⟩ := hr; replace H := H.grow hb1; clear hb1) | (with_reducible refine wpl rfl (dQ 2 rfl ?_); with_reducible refine (Stp.box 2 rfl rfl rfl H ?_); clear H; intro g2 w1 H; simp only [pS]; simp only [pE, nC, pS] at H) | (with_reducible refine wpl rfl (dQ 3 rfl ?_); with_reducible refine (Stp.box 3 rfl rfl rfl H ?_); clear H; intro g3 w1 H; simp only [pS]; simp only [pE, nC, pS] at H) | (with_reducible refine wpl rfl (ldQ (ty := 3) rfl ?_); first | (with_reducible refine (Stp.ldo rfl agg3 rfl H (by assumption) (by assumption) ?_); simp only [pS]) | (with_reducible refine (Stp.ldc rfl agg3 rfl H mR cE ?_); simp only [pS])) | (with_reducible refine wpl rfl (ldQ (ty := 27) rfl ?_); first | (with_reducible refine (Stp.ldor rfl agg27 size27 rfl H (by assumption) sZ (by assumption) ?_); simp only [pS]) | (with_reducible refine (Stp.ldr rfl agg27 size27 rfl H mR sZ ?_); simp only [pS]) | (with_reducible refine (Stp.ldl rfl agg27 size27 rfl H mR (by simp) ?_); simp only [pS]; simp only [List.drop_succ_cons, List.drop_zero, List.take_succ_cons, List.take_zero])) | (with_reducible refine wpl rfl (ldQ (ty := 37) rfl ?_); first | (with_reducible refine (Stp.ldo rfl agg37 rfl H (by assumption) (by assumption) ?_); simp only [pS]) | (with_reducible refine (Stp.ldc rfl agg37 rfl H mR cE ?_); simp only [pS])) | (with_reducible refine wpl rfl (ldQ (ty := 60) rfl ?_); first | (with_reducible refine (Stp.ldo rfl agg60 rfl H (by assumption) (by assumption) ?_); simp only [pS]) | (with_reducible refine (Stp.ldc rfl agg60 rfl H mR cE ?_); simp only [pS])) | (with_reducible refine wpl rfl (ldQ (ty := 41) rfl ?_); first | (with_reducible refine (Stp.ldor rfl agg41 size41 rfl H (by assumption) sZ (by assumption) ?_); simp only [pS]) | (with_reducible refine (Stp.ldr rfl agg41 size41 rfl H mR sZ ?_); simp only [pS]) | (with_reducible refine (Stp.ldl rfl agg41 size41 rfl H mR (by simp) ?_); simp only [pS]; simp only [List.drop_succ_cons, List.drop_zero, List.take_succ_cons, List.take_zero])))
            go_ret
            exact ⟨_, rfl, by rw [HV.out]; rfl, H.below⟩
          · have E5 := Lib.hid (show vSame a.x b.x = false by simpa using g4)
            have HV : Hid (eSame a b = false) := Lib.hid (by simp [eSame, g0, g1, g2, g3, g4])
            clear g0 g1 g2 g3 g4
            go_enter Try.func29, Try.ntmps29
            go_wp2_with (first | (go_at_call 34; (with_reducible refine (bequal_is _ _ a.data b.data B1.out B2.out _ _ (hx2.sl.grow H.below) (hy2.sl.grow H.below) E4.out).mono ?_); rintro e w1 ⟨v, rfl, hr⟩; obtain ⟨rfl, hb1⟩ := hr; replace H := H.grow hb1; clear hb1) | (go_at_call 35; (with_reducible refine (vsame_is a.x b.x _ _ _ _ _ _ _ _ _ _ _ _ _ _ (hx1.grow H.below) (hy1.grow H.below) E5.out).mono ?_); rintro e w1 ⟨v, rfl, hr⟩; obtain ⟨rfl, hb1⟩ := hr; replace H := H.grow hb1; clear hb1) | (with_reducible refine wpl rfl (dQ 2 rfl ?_); with_reducible refine (Stp.box 2 rfl rfl rfl H ?_); clear H; intro g2 w1 H; simp only [pS]; simp only [pE, nC, pS] at H) | (with_reducible refine wpl rfl (dQ 3 rfl ?_); with_reducible refine (Stp.box 3 rfl rfl rfl H ?_); clear H; intro g3 w1 H; simp only [pS]; simp only [pE, nC, pS] at H) | (with_reducible refine wpl rfl (ldQ (ty := 3) rfl ?_); first | (with_reducible refine (Stp.ldo rfl agg3 rfl H (by assumption) (by assumption) ?_); simp only [pS]) | (with_reducible refine (Stp.ldc rfl agg3 rfl H mR cE ?_); simp only [pS])) | (with_reducible refine wpl rfl (ldQ (ty := 27) rfl ?_); first | (with_reducible refine (Stp.ldor rfl agg27 size27 rfl H (by assumption) sZ (by assumption) ?_); simp only [pS]) | (with_reducible refine (Stp.ldr rfl agg27 size27 rfl H mR sZ ?_); simp only [pS]) | (with_reducible refine (Stp.ldl rfl agg27 size27 rfl H mR (by simp) ?_); simp only [pS]; simp only [List.drop_succ_cons, List.drop_zero, List.take_succ_cons, List.take_zero])) | (with_reducible refine wpl rfl (ldQ (ty := 37) rfl ?_); first | (with_reducible refine (Stp.ldo rfl agg37 rfl H (by assumption) (by assumption) ?_); simp only [pS]) | (with_reducible refine (Stp.ldc rfl agg37 rfl H mR cE ?_); simp only [pS])) | (with_reducible refine wpl rfl (ldQ (ty := 60) rfl ?_); first | (with_reducible refine (Stp.ldo rfl agg60 rfl H (by assumption) (by assumption) ?_); simp only [pS]) | (with_reducible refine (Stp.ldc rfl agg60 rfl H mR cE ?_); simp only [pS])) | (with_reducible refine wpl rfl (ldQ (ty := 41) rfl ?_); first | (with_reducible refine (Stp.ldor rfl agg41 size41 rfl H (by assumption) sZ (by assumption) ?_); simp only [pS]) | (with_reducible refine (Stp.ldr rfl agg41 size41 rfl H mR sZ ?_); simp only [pS]) | (with_reducible refine (Stp.ldl rfl agg41 size41 rfl H mR (by simp) ?_); simp only [pS]; simp only [List.drop_succ_cons, List.drop_zero, List.take_succ_cons, List.take_zero])))
            go_ret
            exact ⟨_, rfl, by rw [HV.out]; rfl, H.below⟩
        · have E4 := Lib.hid (decide_eq_false g3)
          have HV : Hid (eSame a b = false) := Lib.hid (by simp [eSame, g0, g1, g2, g3])
          clear g0 g1 g2 g3
          go_enter Try.func29, Try.ntmps29
          go_wp2_with (first | (go_at_call 34; (with_reducible refine (bequal_is _ _ a.data b.data B1.out B2.out _ _ (hx2.sl.grow H.below) (hy2.sl.grow H.below) E4.out).mono ?_); rintro e w1 ⟨v, rfl, hr⟩; obtain ⟨rfl, hb1⟩ := hr; replace H := H.grow hb1; clear hb1) | (go_at_call 35; (with_reducible refine (vsame_is a.x b.x _ _ _ _ _ _ _ _ _ _ _ _ _ _ (hx1.grow H.below) (hy1.grow H.below) E5.out).mono ?_); rintro e w1 ⟨v, rfl, hr⟩; obtain ⟨rfl, hb1⟩ := hr; replace H := H.grow hb1; clear hb1) | (with_reducible refine wpl rfl (dQ 2 rfl ?_); with_reducible refine (Stp.box 2 rfl rfl rfl H ?_); clear H; intro g2 w1 H; simp only [pS]; simp only [pE, nC, pS] at H) | (with_reducible refine wpl rfl (dQ 3 rfl ?_); with_reducible refine (Stp.box 3 rfl rfl rfl H ?_); clear H; intro g3 w1 H; simp only [pS]; simp only [pE, nC, pS] at H) | (with_reducible refine wpl rfl (ldQ (ty := 3) rfl ?_); first | (with_reducible refine (Stp.ldo rfl agg3 rfl H (by assumption) (by assumption) ?_); simp only [pS]) | (with_reducible refine (Stp.ldc rfl agg3 rfl H mR cE ?_); simp only [pS])) | (with_reducible refine wpl rfl (ldQ (ty := 27) rfl ?_); first | (with_reducible refine (Stp.ldor rfl agg27 size27 rfl H (by assumption) sZ (by assumption) ?_); simp only [pS]) | (with_reducible refine (Stp.ldr rfl agg27 size27 rfl H mR sZ ?_); simp only [pS]) | (with_reducible refine (Stp.ldl rfl agg27 size27 rfl H mR (by simp) ?_); simp only [pS]; simp only [List.drop_succ_cons, List.drop_zero, List.take_succ_cons, List.take_zero])) | (with_reducible refine wpl rfl (ldQ (ty := 37) rfl ?_); first | (with_reducible refine (Stp.ldo rfl agg37 rfl H (by assumption) (by assumption) ?_); simp only [pS]) | (with_reducible refine (Stp.ldc rfl agg37 rfl H mR cE ?_); simp only [pS])) | (with_reducible refine wpl rfl (ldQ (ty := 60) rfl ?_); first | (with_reducible refine (Stp.ldo rfl agg60 rfl H (by assumption) (by assumption) ?_); simp only [pS]) | (with_reducible refine (Stp.ldc rfl agg60 rfl H mR cE ?_); simp only [pS])) | (with_reducible refine wpl rfl (ldQ (ty := 41) rfl ?_); first | (with_reducible refine (Stp.ldor rfl agg41 size41 rfl H (by assumption) sZ (by assumption) ?_); simp only [pS]) | (with_reducible refine (Stp.ldr rfl agg41 size41 rfl H mR sZ ?_); simp only [pS]) | (with_reducible refine (Stp.ldl rfl agg41 size41 rfl H mR (by simp) ?_); simp only [pS]; simp only [List.drop_succ_cons, List.drop_zero, List.take_succ_cons, List.take_zero])))
          go_ret
          exact ⟨_, rfl, by rw [HV.out]; rfl, H.below⟩
      · have iN : ((a.n : Int) == (b.n : Int)) = false := by simp; omega
        have HV : Hid (eSame a b = false) := Lib.hid (by simp [eSame, g0, g1, g2])
        clear g0 g1 g2
        go_enter Try.func29, Try.ntmps29
        go_wp2_with (first | (go_at_call 34; (with_reducible refine (bequal_is _ _ a.data b.data B1.out B2.out _ _ (hx2.sl.grow H.below) (hy2.sl.grow H.below) E4.out).mono ?_); rintro e w1 ⟨v, rfl, hr⟩; obtain ⟨rfl, hb1⟩ := hr; replace H := H.grow hb1; clear hb1) | (go_at_call 35; (with_reducible refine (vsame_is a.x b.x _ _ _ _ _ _ _ _ _ _ _ _ _ _ (hx1.grow H.below) (hy1.grow H.below) E5.out).mono ?_); rintro e w1 ⟨v, rfl, hr⟩; obtain ⟨rfl, hb1⟩ := hr; replace H := H.grow hb1; clear hb1) | (with_reducible refine wpl rfl (dQ 2 rfl ?_); with_reducible refine (Stp.box 2 rfl rfl rfl H ?_); clear H; intro g2 w1 H; simp only [pS]; simp only [pE, nC, pS] at H) | (with_reducible refine wpl rfl (dQ 3 rfl ?_); with_reducible refine (Stp.box 3 rfl rfl rfl H ?_); clear H; intro g3 w1 H; simp only [pS]; simp only [pE, nC, pS] at H) | (with_reducible refine wpl rfl (ldQ (ty := 3) rfl ?_); first | (with_reducible refine (Stp.ldo rfl agg3 rfl H (by assumption) (by assumption) ?_); simp only [pS]) | (with_reducible refine (Stp.ldc rfl agg3 rfl H mR cE ?_); simp only [pS])) | (with_reducible refine wpl rfl (ldQ (ty := 27) rfl ?_); first | (with_reducible refine (Stp.ldor rfl agg27 size27 rfl H (by assumption) sZ (by assumption) ?_); simp only [pS]) | (with_reducible refine (Stp.ldr rfl agg27 size27 rfl H mR sZ ?_); simp only [pS]) | (with_reducible refine (Stp.ldl rfl agg27 size27 rfl H mR (by simp) ?_); simp only [pS]; simp only [List.drop_succ_cons, List.drop_zero, List.take_succ_cons, List.take_zero])) | (with_reducible refine wpl rfl (ldQ (ty := 37) rfl ?_); first | (with_reducible refine (Stp.ldo rfl agg37 rfl H (by assumption) (by assumption) ?_); simp only [pS]) | (with_reducible refine (Stp.ldc rfl agg37 rfl H mR cE ?_); simp only [pS])) | (with_reducible refine wpl rfl (ldQ (ty := 60) rfl ?_); first | (with_reducible refine (Stp.ldo rfl agg60 rfl H (by assumption) (by assumption) ?_); simp only [pS]) | (with_reducible refine (Stp.ldc rfl agg60 rfl H mR cE ?_); simp only [pS])) | (with_reducible refine wpl rfl (ldQ (ty := 41) rfl ?_); first | (with_reducible refine (Stp.ldor rfl agg41 size41 rfl H (by assumption) sZ (by assumption) ?_); simp only [pS]) | (with_reducible refine (Stp.ldr rfl agg41 size41 rfl H mR sZ ?_); simp only [pS]) | (with_reducible refine (Stp.ldl rfl agg41 size41 rfl H mR (by simp) ?_); simp only [pS]; simp only [List.drop_succ_cons, List.drop_zero, List.take_succ_cons, List.take_zero])))
        go_ret
        exact ⟨_, rfl, by rw [HV.out]; rfl, H.below⟩
    · have eP := eqPD_is a.p.1 a.p.2 b.p.1 b.p.2 false (by exact decide_eq_false g1)
      have HV : Hid (eSame a b = false) := Lib.hid (by simp [eSame, g0, g1])
      clear g0 g1
      go_enter Try.func29, Try.ntmps29
      go_wp2_with (first | (go_at_call 34; (with_reducible refine (bequal_is _ _ a.data b.data B1.out B2.out _ _ (hx2.sl.grow H.below) (hy2.sl.grow H.below) E4.out).mono ?_); rintro e w1 ⟨v, rfl, hr⟩; obtain ⟨rfl, hb1⟩ := hr; replace H := H.grow hb1; clear hb1) | (go_at_call 35; (with_reducible refine (vsame_is a.x b.x _ _ _ _ _ _ _ _ _ _ _ _ _ _ (hx1.grow H.below) (hy1.grow H.below) E5.out).mono ?_); rintro e w1 ⟨v, rfl, hr⟩; obtain ⟨rfl, hb1⟩ := hr; replace H := H.grow hb1; clear hb1) | (with_reducible refine wpl rfl (dQ 2 rfl ?_); with_reducible refine (Stp.box 2 rfl rfl rfl H ?_); clear H; intro g2 w1 H; simp only [pS]; simp only [pE, nC, pS] at H) | (with_reducible refine wpl rfl (dQ 3 rfl ?_); with_reducible refine (Stp.box 3 rfl rfl rfl H ?_); clear H; intro g3 w1 H; simp only [pS]; simp only [pE, nC, pS] at H) | (with_reducible refine wpl rfl (ldQ (ty := 3) rfl ?_); first | (with_reducible refine (Stp.ldo rfl agg3 rfl H (by assumption) (by assumption) ?_); simp only [pS]) | (with_reducible refine (Stp.ldc rfl agg3 rfl H mR cE ?_); simp only [pS])) | (with_reducible refine wpl rfl (ldQ (ty := 27) rfl ?_); first | (with_reducible refine (Stp.ldor rfl agg27 size27 rfl H (by assumption) sZ (by assumption) ?_); simp only [pS]) | (with_reducible refine (Stp.ldr rfl agg27 size27 rfl H mR sZ ?_); simp only [pS]) | (with_reducible refine (Stp.ldl rfl agg27 size27 rfl H mR (by simp) ?_); simp only [pS]; simp only [List.drop_succ_cons, List.drop_zero, List.take_succ_cons, List.take_zero])) | (with_reducible refine wpl rfl (ldQ (ty := 37) rfl ?_); first | (with_reducible refine (Stp.ldo rfl agg37 rfl H (by assumption) (by assumption) ?_); simp only [pS]) | (with_reducible refine (Stp.ldc rfl agg37 rfl H mR cE ?_); simp only [pS])) | (with_reducible refine wpl rfl (ldQ (ty := 60) rfl ?_); first | (with_reducible refine (Stp.ldo rfl agg60 rfl H (by assumption) (by assumption) ?_); simp only [pS]) | (with_reducible refine (Stp.ldc rfl agg60 rfl H mR cE ?_); simp only [pS])) | (with_reducible refine wpl rfl (ldQ (ty := 41) rfl ?_); first | (with_reducible refine (Stp.ldor rfl agg41 size41 rfl H (by assumption) sZ (by assumption) ?_); simp only [pS]) | (with_reducible refine (Stp.ldr rfl agg41 size41 rfl H mR sZ ?_); simp only [pS]) | (with_reducible refine (Stp.ldl rfl agg41 size41 rfl H mR (by simp) ?_); simp only [pS]; simp only [List.drop_succ_cons, List.drop_zero, List.take_succ_cons, List.take_zero])))
      go_ret
      exact ⟨_, rfl, by rw [HV.out]; rfl, H.below⟩
  · have iK : (a.kd == b.kd) = false := by simp [g0]
    have HV : Hid (eSame a b = false) := Lib.hid (by simp [eSame, g0])
    clear g0
    go_enter Try.func29, Try.ntmps29
    go_wp2_with (first | (go_at_call 34; (with_reducible refine (bequal_is _ _ a.data b.data B1.out B2.out _ _ (hx2.sl.grow H.below) (hy2.sl.grow H.below) E4.out).mono ?_); rintro e w1 ⟨v, rfl, hr⟩; obtain ⟨rfl, hb1⟩ := hr; replace H := H.grow hb1; clear hb1) | (go_at_call 35; (with_reducible refine (vsame_is a.x b.x _ _ _ _ _ _ _ _ _ _ _ _ _ _ (hx1.grow H.below) (hy1.grow H.below) E5.out).mono ?_); rintro e w1 ⟨v, rfl, hr⟩; obtain ⟨rfl, hb1⟩ := hr; replace H := H.grow hb1; clear hb1) | (with_reducible refine wpl rfl (dQ 2 rfl ?_); with_reducible refine (Stp.box 2 rfl rfl rfl H ?_); clear H; intro g2 w1 H; simp only [pS]; simp only [pE, nC, pS] at H) | (with_reducible refine wpl rfl (dQ 3 rfl ?_); with_reducible refine (Stp.box 3 rfl rfl rfl H ?_); clear H; intro g3 w1 H; simp only [pS]; simp only [pE, nC, pS] at H) | (with_reducible refine wpl rfl (ldQ (ty := 3) rfl ?_); first | (with_reducible refine (Stp.ldo rfl agg3 rfl H (by assumption) (by assumption) ?_); simp only [pS]) | (with_reducible refine (Stp.ldc rfl agg3 rfl H mR cE ?_); simp only [pS])) | (with_reducible refine wpl rfl (ldQ (ty := 27) rfl ?_); first | (with_reducible refine (Stp.ldor rfl agg27 size27 rfl H (by assumption) sZ (by assumption) ?_); simp only [pS]) | (with_reducible refine (Stp.ldr rfl agg27 size27 rfl H mR sZ ?_); simp only [pS]) | (with_reducible refine (Stp.ldl rfl agg27 size27 rfl H mR (by simp) ?_); simp only [pS]; simp only [List.drop_succ_cons, List.drop_zero, List.take_succ_cons, List.take_zero])) | (with_reducible refine wpl rfl (ldQ (ty := 37) rfl ?_); first | (with_reducible refine (Stp.ldo rfl agg37 rfl H (by assumption) (by assumption) ?_); simp only [pS]) | (with_reducible refine (Stp.ldc rfl agg37 rfl H mR cE ?_); simp only [pS])) | (with_reducible refine wpl rfl (ldQ (ty := 60) rfl ?_); first | (with_reducible refine (Stp.ldo rfl agg60 rfl H (by assumption) (by assumption) ?_); simp only [pS]) | (with_reducible refine (Stp.ldc rfl agg60 rfl H mR cE ?_); simp only [pS])) | (with_reducible refine wpl rfl (ldQ (ty := 41) rfl ?_); first | (with_reducible refine (Stp.ldor rfl agg41 size41 rfl H (by assumption) sZ (by assumption) ?_); simp only [pS]) | (with_reducible refine (Stp.ldr rfl agg41 size41 rfl H mR sZ ?_); simp only [pS]) | (with_reducible refine (Stp.ldl rfl agg41 size41 rfl H mR (by simp) ?_); simp only [pS]; simp only [List.drop_succ_cons, List.drop_zero, List.take_succ_cons, List.take_zero])))
    go_ret
    exact ⟨_, rfl, by rw [HV.out]; rfl, H.below⟩
theorem esame_is (a b : Ev) (h1 h2 : Hd) (e : Bool) (he : eSame a b = e) (w : World) (hx : EvG w (a, h1)) (hy : EvG w (b, h2)) (wa : ∀ x ∈ a.data, x < 256) (wb : ∀ x ∈ b.data, x < 256) :
    Calls Try.prog 29 #[.agg (evA a h1), .agg (evA b h2)] w (Ret fun v w' => v = .bool e ∧ Below w.heap.size w w') := by
  have := esame_ok a b h1 h2 w hx hy wa wb
  rw [he] at this; exact this
/-! ### Lists of events -/
def evD (l : List Eh) : List Ev := l.map (·.1)
theorem evD_take (l : List Eh) (k : Nat) : evD (l.take k) = (evD l).take k := by unfold evD; rw [List.map_take]
theorem evD_len (l : List Eh) : (evD l).length = l.length := by unfold evD; rw [List.length_map]
theorem evD_snoc {l : List Eh} {k : Nat} {e : Eh} (h : l.take (k + 1) = l.take k ++ [e]) : (evD l).take (k + 1) = (evD l).take k ++ [e.1] := by rw [← evD_take, h, ← evD_take]; unfold evD; simp
theorem eveq_is (va vb : Value) (a b : List Eh) (r : Bool) (hr : decide (evD a = evD b) = r) (w : World) (ha : Sl w 9 a.length va (elE a)) (hb : Sl w 9 b.length vb (elE b)) (hea : ∀ e ∈ a, EvG w e) (heb : ∀ e ∈ b, EvG w e) (hwa : ∀ e ∈ a, wfE e) (hwb : ∀ e ∈ b, wfE e) :
    Calls Try.prog 28 #[va, vb, .func (.func 29) #[] #[]] w (Ret fun v w' => v = .bool r ∧ Below w.heap.size w w') := by
  have H := St.init w
  obtain ⟨aa, ca, rfl, hma, _⟩ := id ha
  obtain ⟨ab, cb, rfl, hmb, _⟩ := id hb
  unfold maxLen at hma hmb
  have HEA := Lib.hid hea
  have HEB := Lib.hid heb
  have HWA := Lib.hid hwa
  have HWB := Lib.hid hwb
  have HR := Lib.hid hr
  clear hea heb hwa hwb hr
  by_cases hlen : a.length = b.length
  · obtain ⟨n, hn⟩ : ∃ n, b.length = n := ⟨_, rfl⟩
    have hln : a.length = n := hlen.trans hn
    have HN := Lib.hid hn
    have HL := Lib.hid hln
    rw [hn] at hb hmb
    rw [hln] at ha hma
    simp only [hn, hln]
    clear hn hln hlen
    go_enter Try.func28, Try.ntmps28
    go_wp2_with (first | (with_reducible refine wpl rfl (ldQ (ty := 62) rfl ?_); first | (with_reducible refine (Stp.ldor rfl agg62 size62 rfl H (by assumption) sZ (by assumption) ?_); simp only [pS]) | (with_reducible refine (Stp.ldr rfl agg62 size62 rfl H mR sZ ?_); simp only [pS]) | (with_reducible refine (Stp.ldl rfl agg62 size62 rfl H mR (by simp) ?_); simp only [pS]; simp only [List.drop_succ_cons, List.drop_zero, List.take_succ_cons, List.take_zero])) | (with_reducible refine wpl rfl (dQ 8 rfl ?_); with_reducible refine (Stp.alloc 8 rfl rfl zero62 H ?_); clear H; intro g8 w1 H; simp only [pS]; simp only [nC] at H) | (with_reducible refine wpl rfl (stQ (ty := 62) rfl ?_); first | (with_reducible refine (Stp.str rfl size62 rfl rfl (by first | rfl | (simp [Value.oneCell']; done) | assumption) H uP sZ sZ ?_); clear H; intro w1 H; simp only [pS]) | (with_reducible refine (Stp.stl rfl size62 rfl rfl rfl rfl H uP (by simp) ?_); clear H; intro w1 H; simp only [pS]; simp only [List.drop_succ_cons, List.drop_zero, List.take_succ_cons, List.take_zero, List.nil_append, List.cons_append, Nat.reduceAdd] at H)) | (with_reducible refine wpl rfl (dQ 9 rfl ?_); with_reducible refine (Stp.alloc 9 rfl rfl zero62 H ?_); clear H; intro g9 w1 H; simp only [pS]; simp only [nC] at H))
    go_loopw [17] (fun i wr => ∃ k : Nat, k ≤ n ∧ i = .int .i64 k ∧ Hid ((evD a).take k = (evD b).take k) ∧ St w.heap.size w wr []) (fun i _ => n - (intOf i).toNat)
    case atStart => exact ⟨0, Nat.zero_le _, rfl, Lib.hid (by simp), H⟩
    case round =>
      clear H
      obtain ⟨k, hk, rfl, HT, H⟩ := hrel
      by_cases hlt : k < n
      · have hl1 : k < a.length := by rw [HL.out]; exact hlt
        have hm1 : k < b.length := by rw [HN.out]; exact hlt
        obtain ⟨b1, o1, rfl, hb1⟩ := ha.addr (by omega)
        obtain ⟨b2, o2, rfl, hb2⟩ := hb.addr (by omega)
        have hc1 := ha.cell hlt
        have hc2 := hb.cell hlt
        rw [elE_at hl1] at hc1
        rw [elE_at hm1] at hc2
        have HE1 := Lib.hid (HEA.out _ (List.getElem_mem hl1))
        have HE2 := Lib.hid (HEB.out _ (List.getElem_mem hm1))
        have HW1 := Lib.hid (HWA.out _ (List.getElem_mem hl1)).data
        have HW2 := Lib.hid (HWB.out _ (List.getElem_mem hm1)).data
        have HT1 := Lib.hid (evD_snoc (List.take_succ_eq_append_getElem hl1))
        have HT2 := Lib.hid (evD_snoc (List.take_succ_eq_append_getElem hm1))
        obtain ⟨⟨x, hx⟩, hxe⟩ : ∃ x, a[k] = x := ⟨_, rfl⟩
        obtain ⟨⟨z, hz⟩, hze⟩ : ∃ z, b[k] = z := ⟨_, rfl⟩
        rw [hxe] at hc1 HE1 HW1 HT1
        rw [hze] at hc2 HE2 HW2 HT2
        simp only at hc1 hc2 HW1 HW2 HT1 HT2
        have kli : (k : Int) < (n : Int) := by omega
        obtain ⟨ee, hee⟩ : ∃ ee, eSame x z = ee := ⟨_, rfl⟩
        have HE := Lib.hid hee
        clear hee hl1 hm1 hxe hze
        cases ee
        · have HV : Hid (r = false) := Lib.hid (by
            rw [← HR.out]
            refine decide_eq_false (fun e => ?_)
            have e2 : (evD a).take (k + 1) = (evD b).take (k + 1) := by rw [e]
            rw [HT1.out, HT2.out, HT.out] at e2
            have e3 := List.append_cancel_left e2
            injection e3 with e4 _
            have := HE.out
            rw [eSame_iff.2 e4] at this
            cases this)
          go_wp2_with (first | (go_at_call 29; (with_reducible refine (esame_is x z hx hz _ HE.out _ (HE1.out.grow H.below) (HE2.out.grow H.below) HW1.out HW2.out).mono ?_); rintro e w1 ⟨v, rfl, hr⟩; obtain ⟨rfl, hb1⟩ := hr; replace H := H.grow hb1; clear hb1) | (with_reducible refine wpl rfl (ldQ (ty := 62) rfl ?_); first | (with_reducible refine (Stp.ldor rfl agg62 size62 rfl H (by assumption) sZ (by assumption) ?_); simp only [pS]) | (with_reducible refine (Stp.ldr rfl agg62 size62 rfl H mR sZ ?_); simp only [pS]) | (with_reducible refine (Stp.ldl rfl agg62 size62 rfl H mR (by simp) ?_); simp only [pS]; simp only [List.drop_succ_cons, List.drop_zero, List.take_succ_cons, List.take_zero])) | (with_reducible refine wpl rfl (dQ 8 rfl ?_); with_reducible refine (Stp.alloc 8 rfl rfl zero62 H ?_); clear H; intro g8 w1 H; simp only [pS]; simp only [nC] at H) | (with_reducible refine wpl rfl (stQ (ty := 62) rfl ?_); first | (with_reducible refine (Stp.str rfl size62 rfl rfl (by first | rfl | (simp [Value.oneCell']; done) | assumption) H uP sZ sZ ?_); clear H; intro w1 H; simp only [pS]) | (with_reducible refine (Stp.stl rfl size62 rfl rfl rfl rfl H uP (by simp) ?_); clear H; intro w1 H; simp only [pS]; simp only [List.drop_succ_cons, List.drop_zero, List.take_succ_cons, List.take_zero, List.nil_append, List.cons_append, Nat.reduceAdd] at H)) | (with_reducible refine wpl rfl (dQ 9 rfl ?_); with_reducible refine (Stp.alloc 9 rfl rfl zero62 H ?_); clear H; intro g9 w1 H; simp only [pS]; simp only [nC] at H))
          go_ret
          exact ⟨_, rfl, by rw [HV.out]; rfl, H.below⟩
        · have HV : Hid ((evD a).take (k + 1) = (evD b).take (k + 1)) := Lib.hid (by rw [HT1.out, HT2.out, HT.out, eSame_iff.1 HE.out])
          go_wp2_with (first | (go_at_call 29; (with_reducible refine (esame_is x z hx hz _ HE.out _ (HE1.out.grow H.below) (HE2.out.grow H.below) HW1.out HW2.out).mono ?_); rintro e w1 ⟨v, rfl, hr⟩; obtain ⟨rfl, hb1⟩ := hr; replace H := H.grow hb1; clear hb1) | (with_reducible refine wpl rfl (ldQ (ty := 62) rfl ?_); first | (with_reducible refine (Stp.ldor rfl agg62 size62 rfl H (by assumption) sZ (by assumption) ?_); simp only [pS]) | (with_reducible refine (Stp.ldr rfl agg62 size62 rfl H mR sZ ?_); simp only [pS]) | (with_reducible refine (Stp.ldl rfl agg62 size62 rfl H mR (by simp) ?_); simp only [pS]; simp only [List.drop_succ_cons, List.drop_zero, List.take_succ_cons, List.take_zero])) | (with_reducible refine wpl rfl (dQ 8 rfl ?_); with_reducible refine (Stp.alloc 8 rfl rfl zero62 H ?_); clear H; intro g8 w1 H; simp only [pS]; simp only [nC] at H) | (with_reducible refine wpl rfl (stQ (ty := 62) rfl ?_); first | (with_reducible refine (Stp.str rfl size62 rfl rfl (by first | rfl | (simp [Value.oneCell']; done) | assumption) H uP sZ sZ ?_); clear H; intro w1 H; simp only [pS]) | (with_reducible refine (Stp.stl rfl size62 rfl rfl rfl rfl H uP (by simp) ?_); clear H; intro w1 H; simp only [pS]; simp only [List.drop_succ_cons, List.drop_zero, List.take_succ_cons, List.take_zero, List.nil_append, List.cons_append, Nat.reduceAdd] at H)) | (with_reducible refine wpl rfl (dQ 9 rfl ?_); with_reducible refine (Stp.alloc 9 rfl rfl zero62 H ?_); clear H; intro g9 w1 H; simp only [pS]; simp only [nC] at H))
          go_roundw
          case rel => exact ⟨k + 1, by omega, by go_num, HV, H.sub sU⟩
          case measure => simp [intOf]; omega
      · obtain rfl : k = n := by omega
        have HV : Hid (r = true) := Lib.hid (by
          rw [← HR.out]
          have h := HT.out
          rw [List.take_of_length_le (by rw [evD_len, HL.out]; omega), List.take_of_length_le (by rw [evD_len, HN.out]; omega)] at h
          exact decide_eq_true h)
        go_wp2_with (first | (with_reducible refine wpl rfl (ldQ (ty := 62) rfl ?_); first | (with_reducible refine (Stp.ldor rfl agg62 size62 rfl H (by assumption) sZ (by assumption) ?_); simp only [pS]) | (with_reducible refine (Stp.ldr rfl agg62 size62 rfl H mR sZ ?_); simp only [pS]) | (with_reducible refine (Stp.ldl rfl agg62 size62 rfl H mR (by simp) ?_); simp only [pS]; simp only [List.drop_succ_cons, List.drop_zero, List.take_succ_cons, List.take_zero])) | (with_reducible refine wpl rfl (dQ 8 rfl ?_); with_reducible refine (Stp.alloc 8 rfl rfl zero62 H ?_); clear H; intro g8 w1 H; simp only [pS]; simp only [nC] at H) | (with_reducible refine wpl rfl (stQ (ty := 62) rfl ?_); first | (with_reducible refine (Stp.str rfl size62 rfl rfl (by first | rfl | (simp [Value.oneCell']; done) | assumption) H uP sZ sZ ?_); clear H; intro w1 H; simp only [pS]) | (with_reducible refine (Stp.stl rfl size62 rfl rfl rfl rfl H uP (by simp) ?_); clear H; intro w1 H; simp only [pS]; simp only [List.drop_succ_cons, List.drop_zero, List.take_succ_cons, List.take_zero, List.nil_append, List.cons_append, Nat.reduceAdd] at H)) | (with_reducible refine wpl rfl (dQ 9 rfl ?_); with_reducible refine (Stp.alloc 9 rfl rfl zero62 H ?_); clear H; intro g9 w1 H; simp only [pS]; simp only [nC] at H))
        go_ret
        exact ⟨_, rfl, by rw [HV.out]; rfl, H.below⟩
  · have hli : ((a.length : Int) == (b.length : Int)) = false := by simp; omega
    have HV : Hid (r = false) := Lib.hid (by
      rw [← HR.out]
      refine decide_eq_false (fun e => hlen ?_)
      have := congrArg List.length e
      simpa [evD] using this)
    clear hlen
    go_enter Try.func28, Try.ntmps28
    go_wp2_with (first | (with_reducible refine wpl rfl (ldQ (ty := 62) rfl ?_); first | (with_reducible refine (Stp.ldor rfl agg62 size62 rfl H (by assumption) sZ (by assumption) ?_); simp only [pS]) | (with_reducible refine (Stp.ldr rfl agg62 size62 rfl H mR sZ ?_); simp only [pS]) | (with_reducible refine (Stp.ldl rfl agg62 size62 rfl H mR (by simp) ?_); simp only [pS]; simp only [List.drop_succ_cons, List.drop_zero, List.take_succ_cons, List.take_zero])) | (with_reducible refine wpl rfl (dQ 8 rfl ?_); with_reducible refine (Stp.alloc 8 rfl rfl zero62 H ?_); clear H; intro g8 w1 H; simp only [pS]; simp only [nC] at H) | (with_reducible refine wpl rfl (stQ (ty := 62) rfl ?_); first | (with_reducible refine (Stp.str rfl size62 rfl rfl (by first | rfl | (simp [Value.oneCell']; done) | assumption) H uP sZ sZ ?_); clear H; intro w1 H; simp only [pS]) | (with_reducible refine (Stp.stl rfl size62 rfl rfl rfl rfl H uP (by simp) ?_); clear H; intro w1 H; simp only [pS]; simp only [List.drop_succ_cons, List.drop_zero, List.take_succ_cons, List.take_zero, List.nil_append, List.cons_append, Nat.reduceAdd] at H)) | (with_reducible refine wpl rfl (dQ 9 rfl ?_); with_reducible refine (Stp.alloc 9 rfl rfl zero62 H ?_); clear H; intro g9 w1 H; simp only [pS]; simp only [nC] at H))
    go_ret
    exact ⟨_, rfl, by rw [HV.out]; rfl, H.below⟩
end Go.Proofs.Ytbepaafgcbgmfaa

namespace Go.Proofs.Ytbepaafgcbgmfaa
open Go.ChangeShapes Go.WideShapes Go.ChangeAt Go.RowKit Go.Maps
set_option linter.unusedVariables false
set_option linter.unusedSimpArgs false
/-! ### When a command may be -/
def cnt (n : Nat) : Bool := decide (1 ≤ n) && decide (n ≤ 4611686018427387904)
/-- What a command of that kind has besides its kind. -/
def only (c : Cm) : Cm := if c.kind = 2 then ⟨c.kind, c.fr, c.num, c.vw, c.data, vw0⟩ else if c.kind = 3 then ⟨c.kind, (0, 0), 0, 0, [], c.v⟩ else ⟨c.kind, (0, 0), 0, 0, [], vw0⟩
def kindOk (c : Cm) : Bool := decide (c.kind = 1) || (decide (c.kind = 2) && may c.fr.1 c.fr.2 && cnt c.num && cnt c.vw) || (decide (c.kind = 3) && vOk c.v)
def cErr (c : Cm) : Int := if kindOk c = true then (if cSame c (only c) = true then (if 200 < c.data.length then 14 else 0) else 1) else 1
attribute [local irreducible] cnt may vOk cSame
end Go.Proofs.Ytbepaafgcbgmfaa

namespace Go.Proofs.Ytbepaafgcbgmfaa
open Go.ChangeShapes Go.WideShapes Go.ChangeAt Go.RowKit Go.Maps
set_option linter.unusedVariables false
set_option linter.unusedSimpArgs false
/-- Where a process stands first; -1 if it does not. -/
def atR (l : List Pr) (p : Pr) : Int := match rank l p with | some k => (k : Int) | none => -1
theorem rank_at {l : List Pr} {p : Pr} {k : Nat} (hk : k < l.length) (h0 : rank (l.take k) p = none) (h : l[k] = p) : rank l p = some k := by
  induction l generalizing k with
  | nil => cases hk
  | cons x l ih =>
    cases k with
    | zero => simp only [List.getElem_cons_zero] at h; simp [rank, h]
    | succ k =>
      simp only [List.take_succ_cons, rank] at h0
      unfold rank
      by_cases hx : x = p
      · rw [if_pos hx] at h0; cases h0
      · rw [if_neg hx] at h0 ⊢
        rw [ih (by simpa using hk) (Option.map_eq_none_iff.1 h0) (by simpa using h)]
        rfl
end Go.Proofs.Ytbepaafgcbgmfaa
