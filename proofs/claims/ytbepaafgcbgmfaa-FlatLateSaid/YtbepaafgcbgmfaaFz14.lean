/- Layer 29 (flat): messages that were sent, and the map of them; was one sent (was)? No condition. Layer 29 (flat): the checker as it is read; was a message sent (was)? No condition. -/
import Derived.Test.YtbepaafgcbgmfaaFz13
namespace Go.Proofs.Ytbepaafgcbgmfaa
open Go.ChangeShapes Go.WideShapes Go.ChangeAt Go.RowKit Go.Maps Go.Deep
set_option linter.unusedVariables false
set_option linter.unusedSimpArgs false
set_option linter.unusedSectionVars false
set_option maxRecDepth 100000
set_option maxHeartbeats 4000000
structure Sn where
  p : Pr
  vw : Nat
  num : Nat
  data : List Nat
  a : Option Addr
  c : Nat
  seen : Int
def sn0 : Sn := ⟨(0, 0), 0, 0, [], none, 0, 0⟩
def snc (x : Sn) : Array Value := #[.int .u16 (x.p.1 : Int), .int .u32 (x.p.2 : Int), .int .u64 (x.vw : Int), .int .u64 (x.num : Int), .slice x.a x.data.length x.c, .int .i64 x.seen]
theorem snc_size (x : Sn) : (snc x).size = 6 := rfl
def elN (l : List Sn) (i : Nat) : Array Value := snc (l.getD i sn0)
theorem elN_at {l : List Sn} {k : Nat} (h : k < l.length) : elN l k = #[.int .u16 (l[k].p.1 : Int), .int .u32 (l[k].p.2 : Int), .int .u64 (l[k].vw : Int), .int .u64 (l[k].num : Int), .slice l[k].a l[k].data.length l[k].c, .int .i64 l[k].seen] := by unfold elN; rw [getD_at h]; rfl
structure SnW (w : World) (x : Sn) : Prop where
  d : Sl w 1 x.data.length (.slice x.a x.data.length x.c) (elB x.data)
  by_ : ∀ b ∈ x.data, b < 256
  p1 : x.p.1 < 65536
  p2 : x.p.2 < 4294967296
  vw : x.vw < 18446744073709551616
  num : x.num < 18446744073709551616
theorem SnW.grow {w w' : World} {x : Sn} (h : SnW w x) (hb : Below w.heap.size w w') : SnW w' x := ⟨h.d.grow hb, h.by_, h.p1, h.p2, h.vw, h.num⟩
/-! ### The keys -/
abbrev Ky := Pr × Nat × Nat
abbrev ekK (q : Ky) : Value := .agg #[.int .u16 (q.1.1 : Int), .int .u32 (q.1.2 : Int), .int .u64 (q.2.1 : Int), .int .u64 (q.2.2 : Int)]
theorem ekK_inj : ∀ x y : Ky, ekK x = ekK y → x = y := by
  rintro ⟨⟨a, b⟩, c, d⟩ ⟨⟨a', b'⟩, c', d'⟩ h
  simp only [ekK, Value.agg.injEq, Array.mk.injEq, List.cons.injEq, Value.int.injEq, true_and, and_true] at h
  obtain ⟨h1, h2, h3, h4⟩ := h
  have e1 : a = a' := by omega
  have e2 : b = b' := by omega
  have e3 : c = c' := by omega
  have e4 : d = d' := by omega
  rw [e1, e2, e3, e4]
theorem keyedK : Keyed Try.prog 75 := Keyed.of_law (deep_law_laid laidOut (m := 6) (by decide) (of_decide_eq_true (by kernel_rfl)) (by kernel_rfl) (by kernel_rfl))
theorem klU64 (d : Nat) (a : Nat) (h : a < 18446744073709551616) : Try.prog.keyLits (d + 1) 37 [.int .u64 (a : Int)] = some [.int .u64 (a : Int)] := by
  have : (Lit.int .u64 (a : Int)).wf = true := WalkArith.wf_u64 ⟨by omega, by omega⟩
  unfold Program.keyLits
  simp only [Try.underlying37, this, and_self, if_true]
structure okK (q : Ky) : Prop where
  a : q.1.1 < 65536
  b : q.1.2 < 4294967296
  c : q.2.1 < 18446744073709551616
  d : q.2.2 < 18446744073709551616
theorem klK (d : Nat) (q : Ky) (h : okK q) : Try.prog.keyLits (d + 1 + 1 + 1) 75 [.int .u16 (q.1.1 : Int), .int .u32 (q.1.2 : Int), .int .u64 (q.2.1 : Int), .int .u64 (q.2.2 : Int)] = some [.int .u16 (q.1.1 : Int), .int .u32 (q.1.2 : Int), .int .u64 (q.2.1 : Int), .int .u64 (q.2.2 : Int)] := by
  have hc : Try.prog.cellsOf 75 = 4 := by kernel_rfl
  have hc1 : Try.prog.cellsOf 27 = 2 := by kernel_rfl
  have hc2 : Try.prog.cellsOf 37 = 1 := by kernel_rfl
  have h1 := klP d q.1.1 q.1.2 h.a h.b
  have h2 := klU64 (d + 1) q.2.1 h.c
  have h3 := klU64 (d + 1) q.2.2 h.d
  unfold Program.keyLits
  simp only [Try.underlying75, hc]
  rw [if_pos ⟨rfl, by kernel_rfl⟩]
  simp only [List.mapM_cons, List.mapM_nil, hc1, hc2, List.drop_zero, List.drop_succ_cons, List.take_succ_cons, List.take_zero, h1, h2, h3]
  rfl
theorem keyK (q : Ky) (h : okK q) : ∃ l, keyOf Try.prog 75 (ekK q) = some l := by
  have hk : Try.prog.keyType 75 = true := by kernel_rfl
  have hc : Try.prog.cellsOf 75 = 4 := by kernel_rfl
  obtain ⟨n, hn⟩ : ∃ n, Try.prog.types.size + 1 = n + 1 + 1 + 1 := ⟨Try.prog.types.size - 2, by kernel_rfl⟩
  have h1 := klK n q h
  refine ⟨.string (keyBytes [.int .u16 (q.1.1 : Int), .int .u32 (q.1.2 : Int), .int .u64 (q.2.1 : Int), .int .u64 (q.2.2 : Int)]), ?_⟩
  unfold keyOf
  simp only [Try.underlying75, hk, ekK, Value.formed, hc, Value.cells, hn, h1]
  rfl
/-- The messages of a key, and where they lie. -/
structure Sv where
  l : List Sn
  a : Option Addr
  c : Nat
abbrev evS (s : Sv) : Value := .slice s.a s.l.length s.c
/-! ### Is one of them so? -/
theorem was1_ok (x : Sn) (ge gm : Nat) (V : Ev) (h : Hd) (most : Int) (r : Bool) (hr : (decide (x.data = V.data) && decide (x.seen ≤ most)) = r) (w : World) (hx : SnW w x)
    (he : ∀ j, j < 9 → w.cell? ⟨ge, j, none⟩ = (#[.int .i64 V.kd, .int .u64 (V.x.id : Int), .slice h.ma V.x.mem.length h.mc, .slice h.la V.x.lvs.length h.lc, .slice h.da V.x.ldr.length h.dc, .int .u16 (V.p.1 : Int), .int .u32 (V.p.2 : Int), .int .u64 (V.n : Int), .slice h.ba V.data.length h.bc] : Array Value)[j]?) (hge : ge < w.heap.size) (hm : w.cell? ⟨gm, 0, none⟩ = some (.int .i64 most)) (hgm : gm < w.heap.size) (hv : EvG w (V, h)) (hb : ∀ b ∈ V.data, b < 256) :
    Calls Try.prog 66 #[.agg #[.int .u16 (x.p.1 : Int), .int .u32 (x.p.2 : Int), .int .u64 (x.vw : Int), .int .u64 (x.num : Int), .slice x.a x.data.length x.c, .int .i64 x.seen], .pointer (some ⟨ge, 0, none⟩), .pointer (some ⟨gm, 0, none⟩)] w (Ret fun v w' => v = .bool r ∧ Below w.heap.size w w') := by
  have H := St.init w
  have B1 := Lib.hid hx.by_
  have B2 := Lib.hid hb
  have HX := Lib.hid hx.d
  have HVD : Hid (Sl w 1 V.data.length (.slice h.ba V.data.length h.bc) (elB V.data)) := Lib.hid hv.2.sl
  have he8 : w.cell? ⟨ge, 8, none⟩ = some (.slice h.ba V.data.length h.bc) := he 8 (by omega)
  clear hx hv hb he
  obtain ⟨e1, h1⟩ : ∃ e, decide (x.data = V.data) = e := ⟨_, rfl⟩
  have HE1 := Lib.hid h1
  rw [h1] at hr
  clear h1
  by_cases h2 : x.seen ≤ most
  · rw [decide_eq_true h2] at hr
    have h2d : decide (x.seen ≤ most) = true := decide_eq_true h2
    subst hr
    cases e1
    all_goals
      go_enter Try.func66, Try.ntmps66
      go_wp2_with (first | (go_at_call 34; (with_reducible refine (bequal_is _ _ x.data V.data B1.out B2.out _ _ (HX.out.grow H.below) (HVD.out.grow H.below) HE1.out).mono ?_); rintro e w1 ⟨v, rfl, hr⟩; obtain ⟨rfl, hb1⟩ := hr; replace H := H.grow hb1; clear hb1) | (with_reducible refine wpl rfl (dQ 3 rfl ?_); with_reducible refine (Stp.box 3 rfl rfl rfl H ?_); clear H; intro g3 w1 H; simp only [pS]; simp only [pE, nC, pS, cells_func] at H) | (with_reducible refine wpl rfl (ldQ (ty := 60) rfl ?_); first | (with_reducible refine (Stp.ldo rfl agg60 rfl H (by assumption) (by assumption) ?_); simp only [pS]) | (with_reducible refine (Stp.ldc rfl agg60 rfl H mR cE ?_); simp only [pS])) | (with_reducible refine wpl rfl (ldQ (ty := 3) rfl ?_); first | (with_reducible refine (Stp.ldo rfl agg3 rfl H (by assumption) (by assumption) ?_); simp only [pS]) | (with_reducible refine (Stp.ldc rfl agg3 rfl H mR cE ?_); simp only [pS])))
      go_ret
      exact ⟨_, rfl, rfl, H.below⟩
  · rw [decide_eq_false h2] at hr
    have h2d : decide (x.seen ≤ most) = false := decide_eq_false h2
    subst hr
    cases e1
    all_goals
      go_enter Try.func66, Try.ntmps66
      go_wp2_with (first | (go_at_call 34; (with_reducible refine (bequal_is _ _ x.data V.data B1.out B2.out _ _ (HX.out.grow H.below) (HVD.out.grow H.below) HE1.out).mono ?_); rintro e w1 ⟨v, rfl, hr⟩; obtain ⟨rfl, hb1⟩ := hr; replace H := H.grow hb1; clear hb1) | (with_reducible refine wpl rfl (dQ 3 rfl ?_); with_reducible refine (Stp.box 3 rfl rfl rfl H ?_); clear H; intro g3 w1 H; simp only [pS]; simp only [pE, nC, pS, cells_func] at H) | (with_reducible refine wpl rfl (ldQ (ty := 60) rfl ?_); first | (with_reducible refine (Stp.ldo rfl agg60 rfl H (by assumption) (by assumption) ?_); simp only [pS]) | (with_reducible refine (Stp.ldc rfl agg60 rfl H mR cE ?_); simp only [pS])) | (with_reducible refine wpl rfl (ldQ (ty := 3) rfl ?_); first | (with_reducible refine (Stp.ldo rfl agg3 rfl H (by assumption) (by assumption) ?_); simp only [pS]) | (with_reducible refine (Stp.ldc rfl agg3 rfl H mR cE ?_); simp only [pS])))
      go_ret
      exact ⟨_, rfl, rfl, H.below⟩
/-- Where the first one stands that is so. -/
def fidx {α : Type} (p : α → Bool) : List α → Int
  | [] => -1
  | a :: l => if p a then 0 else if fidx p l = -1 then -1 else fidx p l + 1
theorem fidx_no {α : Type} {p : α → Bool} {l : List α} (h : l.any p = false) : fidx p l = -1 := by
  induction l with
  | nil => rfl
  | cons a l ih =>
    simp only [List.any_cons, Bool.or_eq_false_iff] at h
    unfold fidx
    rw [h.1, ih h.2]; rfl
theorem fidx_at {α : Type} {p : α → Bool} {l : List α} {k : Nat} (hk : k < l.length) (h0 : (l.take k).any p = false) (h : p l[k] = true) : fidx p l = (k : Int) := by
  induction l generalizing k with
  | nil => cases hk
  | cons a l ih =>
    cases k with
    | zero => simp only [List.getElem_cons_zero] at h; unfold fidx; rw [h]; rfl
    | succ k =>
      simp only [List.take_succ_cons, List.any_cons, Bool.or_eq_false_iff] at h0
      unfold fidx
      have := ih (k := k) (by simpa using hk) h0.2 (by simpa using h)
      rw [h0.1, this]
      rw [if_neg (by decide), if_neg (by omega)]
      omega
theorem fidx_any {α : Type} (p : α → Bool) (l : List α) : decide (0 ≤ fidx p l) = l.any p := by
  induction l with
  | nil => rfl
  | cons a l ih =>
    unfold fidx
    cases h : p a
    · rw [if_neg (by decide), List.any_cons, h, Bool.false_or, ← ih]
      by_cases h1 : fidx p l = -1
      · rw [if_pos h1, h1]
      · rw [if_neg h1]
        have : fidx p l ≥ -1 := by
          clear ih h h1
          induction l with
          | nil => exact Int.le_refl _
          | cons b l ih2 => unfold fidx; split; omega; split; omega; omega
        rw [decide_eq_decide]; omega
    · rw [if_pos rfl, List.any_cons, h]; rfl
theorem index_ok (va : Option Addr) (n vc : Nat) (l : List Sn) (hn : l.length = n) (kf : Nat) (fi ca : Array Value) (ekf : ∀ xs (W : World), (callFunc kf xs).run Try.prog W = .ok (.enter kf xs) W) (okD : Sn → Bool) (z : Int) (hz : fidx okD l = z) (w : World) (hs : Sl w 6 n (.slice va n vc) (elN l))
    (hf : ∀ x ∈ l, ∀ W : World, Below w.heap.size w W → Calls Try.prog kf (fi.push (.agg #[.int .u16 (x.p.1 : Int), .int .u32 (x.p.2 : Int), .int .u64 (x.vw : Int), .int .u64 (x.num : Int), .slice x.a x.data.length x.c, .int .i64 x.seen]) ++ ca) W (Ret fun v w' => v = .bool (okD x) ∧ Below W.heap.size W w')) :
    Calls Try.prog 71 #[.slice va n vc, .func (.func kf) fi ca] w (Ret fun v w' => v = .int .i64 z ∧ Below w.heap.size w w') := by
  have H := St.init w
  have HN := Lib.hid hn
  have HF := Lib.hid hf
  have HZ := Lib.hid hz
  have hmx : n ≤ 9223372036854775807 := by obtain ⟨_, _, _, h, _⟩ := hs; exact h
  clear hn hf hz
  go_enter Try.func71, Try.ntmps71
  go_wp2_with (first | (with_reducible refine wpl rfl (ldQ (ty := 64) rfl ?_); first | (with_reducible refine (Stp.ldor rfl agg64 size64 rfl H (by assumption) sZ (by assumption) ?_); simp only [pS]) | (with_reducible refine (Stp.ldr rfl agg64 size64 rfl H mR sZ ?_); simp only [pS]) | (with_reducible refine (Stp.ldl rfl agg64 size64 rfl H mR (by simp) ?_); simp only [pS]; simp only [List.drop_succ_cons, List.drop_zero, List.take_succ_cons, List.take_zero])))
  go_loopw [8] (fun i wr => ∃ q : Nat, q ≤ n ∧ i = .int .i64 q ∧ Hid ((l.take q).any okD = false) ∧ St w.heap.size w wr []) (fun i _ => n - (intOf i).toNat)
  case atStart => exact ⟨0, Nat.zero_le _, rfl, Lib.hid (by simp), H⟩
  case round =>
    clear H
    obtain ⟨q, hq, rfl, HT, H⟩ := hrel
    by_cases hlt2 : q < n
    · have hl1 : q < l.length := by rw [HN.out]; exact hlt2
      obtain ⟨b1, o1, rfl, hb1⟩ := hs.addr (by omega)
      have hc1 := hs.cell hlt2
      rw [elN_at hl1] at hc1
      have hme := Lib.hid (List.getElem_mem hl1)
      have HTk := Lib.hid (List.take_succ_eq_append_getElem hl1)
      have HAT := Lib.hid (fun h => fidx_at (p := okD) hl1 HT.out h)
      obtain ⟨x, hx⟩ : ∃ x, l[q] = x := ⟨_, rfl⟩
      rw [hx] at hc1 hme HTk HAT
      have qli : (q : Int) < (n : Int) := by omega
      obtain ⟨ee, hee⟩ : ∃ ee, okD x = ee := ⟨_, rfl⟩
      have HE := Lib.hid hee
      clear hee hx hl1
      cases ee
      · have HV : Hid ((l.take (q + 1)).any okD = false) := Lib.hid (by rw [HTk.out, List.any_append, HT.out]; simp [HE.out])
        go_wp2_with (first | (go_at_fn kf; (with_reducible refine (HF.out x hme.out _ H.below).mono ?_); rintro e w1 ⟨v, rfl, hr⟩; obtain ⟨rfl, hb1⟩ := hr; replace H := H.grow hb1; clear hb1; rw [HE.out]) | (with_reducible refine wpl rfl (ldQ (ty := 64) rfl ?_); first | (with_reducible refine (Stp.ldor rfl agg64 size64 rfl H (by assumption) sZ (by assumption) ?_); simp only [pS]) | (with_reducible refine (Stp.ldr rfl agg64 size64 rfl H mR sZ ?_); simp only [pS]) | (with_reducible refine (Stp.ldl rfl agg64 size64 rfl H mR (by simp) ?_); simp only [pS]; simp only [List.drop_succ_cons, List.drop_zero, List.take_succ_cons, List.take_zero])))
        go_roundw
        case rel => exact ⟨q + 1, by omega, by go_num, HV, H.sub sU⟩
        case measure => simp [intOf]; omega
      · have HV : Hid (z = (q : Int)) := Lib.hid (by rw [← HZ.out]; exact HAT.out HE.out)
        go_wp2_with (first | (go_at_fn kf; (with_reducible refine (HF.out x hme.out _ H.below).mono ?_); rintro e w1 ⟨v, rfl, hr⟩; obtain ⟨rfl, hb1⟩ := hr; replace H := H.grow hb1; clear hb1; rw [HE.out]) | (with_reducible refine wpl rfl (ldQ (ty := 64) rfl ?_); first | (with_reducible refine (Stp.ldor rfl agg64 size64 rfl H (by assumption) sZ (by assumption) ?_); simp only [pS]) | (with_reducible refine (Stp.ldr rfl agg64 size64 rfl H mR sZ ?_); simp only [pS]) | (with_reducible refine (Stp.ldl rfl agg64 size64 rfl H mR (by simp) ?_); simp only [pS]; simp only [List.drop_succ_cons, List.drop_zero, List.take_succ_cons, List.take_zero])))
        go_ret
        exact ⟨_, rfl, by rw [HV.out]; rfl, H.below⟩
    · obtain rfl : q = n := by omega
      have HV : Hid (z = -1) := Lib.hid (by
        have := HT.out
        rw [List.take_of_length_le (by rw [HN.out]; omega)] at this
        rw [← HZ.out]; exact fidx_no this)
      go_wp2_with (first | (with_reducible refine wpl rfl (ldQ (ty := 64) rfl ?_); first | (with_reducible refine (Stp.ldor rfl agg64 size64 rfl H (by assumption) sZ (by assumption) ?_); simp only [pS]) | (with_reducible refine (Stp.ldr rfl agg64 size64 rfl H mR sZ ?_); simp only [pS]) | (with_reducible refine (Stp.ldl rfl agg64 size64 rfl H mR (by simp) ?_); simp only [pS]; simp only [List.drop_succ_cons, List.drop_zero, List.take_succ_cons, List.take_zero])))
      go_ret
      exact ⟨_, rfl, by rw [HV.out]; rfl, H.below⟩
theorem contains_ok (va : Option Addr) (n vc : Nat) (l : List Sn) (hn : l.length = n) (kf : Nat) (fi ca : Array Value) (ekf : ∀ xs (W : World), (callFunc kf xs).run Try.prog W = .ok (.enter kf xs) W) (okD : Sn → Bool) (r : Bool) (hr : l.any okD = r) (w : World) (hs : Sl w 6 n (.slice va n vc) (elN l))
    (hf : ∀ x ∈ l, ∀ W : World, Below w.heap.size w W → Calls Try.prog kf (fi.push (.agg #[.int .u16 (x.p.1 : Int), .int .u32 (x.p.2 : Int), .int .u64 (x.vw : Int), .int .u64 (x.num : Int), .slice x.a x.data.length x.c, .int .i64 x.seen]) ++ ca) W (Ret fun v w' => v = .bool (okD x) ∧ Below W.heap.size W w')) :
    Calls Try.prog 65 #[.slice va n vc, .func (.func kf) fi ca] w (Ret fun v w' => v = .bool r ∧ Below w.heap.size w w') := by
  have H := St.init w
  have HN := Lib.hid hn
  have HF := Lib.hid hf
  obtain ⟨z, hz⟩ : ∃ z, fidx okD l = z := ⟨_, rfl⟩
  have hd : decide (0 ≤ z) = r := by rw [← hz, ← hr]; exact fidx_any okD l
  have HZ := Lib.hid hz
  clear hn hf hz hr
  go_enter Try.func65, Try.ntmps65
  go_wp2_with (first | (go_at_call 71; (with_reducible refine (index_ok va n vc l HN.out kf fi ca ekf okD z HZ.out _ (hs.grow H.below) (fun x hx W hW => HF.out x hx W (H.below.trans (hW.mono H.below.size)))).mono ?_); rintro e w1 ⟨v, rfl, hr⟩; obtain ⟨rfl, hb1⟩ := hr; replace H := H.grow hb1; clear hb1))
  go_ret
  exact ⟨_, rfl, rfl, H.below⟩
end Go.Proofs.Ytbepaafgcbgmfaa

namespace Go.Proofs.Ytbepaafgcbgmfaa
open Go.ChangeShapes Go.WideShapes Go.ChangeAt Go.RowKit Go.Maps Go.Deep
set_option linter.unusedVariables false
set_option linter.unusedSimpArgs false
set_option linter.unusedSectionVars false
set_option maxRecDepth 100000
set_option maxHeartbeats 4000000
/-- Stays of one life, and where they lie. -/
structure By where
  ss : List Sy
  a : Option Addr
  c : Nat
def by0 : By := ⟨[], none, 0⟩
abbrev hvB (b : By) : Value := .slice b.a b.ss.length b.c
def lvc (x : Lv) : Array Value := #[.int .u16 (x.p.1 : Int), .int .u32 (x.p.2 : Int), .slice x.a x.l.length x.c]
def lv0 : Lv := ⟨(0, 0), [], none, 0⟩
def elL (l : List Lv) (i : Nat) : Array Value := lvc (l.getD i lv0)
theorem elL_at {l : List Lv} {k : Nat} (h : k < l.length) : elL l k = #[.int .u16 (l[k].p.1 : Int), .int .u32 (l[k].p.2 : Int), .slice l[k].a l[k].l.length l[k].c] := by unfold elL; rw [getD_at h]; rfl
/-- What is read of a life. -/
structure LvW (w : World) (x : Lv) : Prop where
  l : Sl w 9 x.l.length (.slice x.a x.l.length x.c) (elE x.l)
  cap : x.l.length ≤ x.c
  len : x.l.length ≤ 1000
  p1 : x.p.1 < 65536
  p2 : x.p.2 < 4294967296
  ev : ∀ e ∈ x.l, EvG w e
  wf : ∀ e ∈ x.l, wfE e
  sm : ∀ e ∈ x.l, smV e.1.x
theorem LvW.grow {w w' : World} {x : Lv} (h : LvW w x) (hb : Below w.heap.size w w') : LvW w' x := ⟨h.l.grow hb, h.cap, h.len, h.p1, h.p2, fun e he => (h.ev e he).grow hb, h.wf, h.sm⟩
/-- A checker: lives, stays by life, all stays, messages sent. -/
structure Ck where
  ls : List Lv
  la : Option Addr
  lc : Nat
  bys : List By
  ba : Option Addr
  bc : Nat
  ss : List Sy
  oa : Option Addr
  oc : Nat
  gm : Nat
  M : List (Ky × Sv)
structure CkW (w : World) (gc : Nat) (D : Ck) : Prop where
  c : ∀ j, j < 4 → w.cell? ⟨gc, j, none⟩ = (#[.slice D.la D.ls.length D.lc, .slice D.ba D.bys.length D.bc, .slice D.oa D.ss.length D.oc, .map (some D.gm)] : Array Value)[j]?
  lt : gc < w.heap.size
  m : MapAt Try.prog 75 ekK evS D.gm D.M w
  mv : ∀ p ∈ D.M, Sl w 6 p.2.l.length (evS p.2) (elN p.2.l) ∧ ∀ x ∈ p.2.l, SnW w x
  f : Sl w 9 D.ss.length (.slice D.oa D.ss.length D.oc) (elS D.ss)
  fy : ∀ y ∈ D.ss, SyW w y
  b : Sl w 1 D.bys.length (.slice D.ba D.bys.length D.bc) (fun i => #[hvB (D.bys.getD i by0)])
  by_ : ∀ b ∈ D.bys, Sl w 9 b.ss.length (hvB b) (elS b.ss) ∧ ∀ y ∈ b.ss, SyW w y
  l : Sl w 3 D.ls.length (.slice D.la D.ls.length D.lc) (elL D.ls)
  lw : ∀ x ∈ D.ls, LvW w x
theorem CkW.grow {w w' : World} {gc : Nat} {D : Ck} (h : CkW w gc D) (hb : Below w.heap.size w w') : CkW w' gc D :=
  ⟨fun j hj => (hb.cell h.lt).trans (h.c j hj), Nat.lt_of_lt_of_le h.lt hb.size, h.m.grow hb, fun p hp => ⟨(h.mv p hp).1.grow hb, fun x hx => ((h.mv p hp).2 x hx).grow hb⟩, h.f.grow hb, fun y hy => (h.fy y hy).grow hb, h.b.grow hb, fun b hb2 => ⟨(h.by_ b hb2).1.grow hb, fun y hy => ((h.by_ b hb2).2 y hy).grow hb⟩, h.l.grow hb, fun x hx => (h.lw x hx).grow hb⟩
theorem ent_w1 : ∀ (xs : Array Value) (W : World), (callFunc 66 xs).run Try.prog W = .ok (.enter 66 xs) W := fun _ _ => by kernel_rfl
theorem mz44 : ∀ W : World, (zeroValue 44).run Try.prog W = .ok (.slice none 0 0) W := fun _ => by kernel_rfl
/-- What was sent under a key. -/
def sentOf (D : Ck) (q : Ky) : List Sn := ((mget D.M q).map (·.l)).getD []
/-- Was a message sent, by who had been told no more than some? -/
def wasD (D : Ck) (id : Nat) (V : Ev) (most : Int) : Bool := (sentOf D (V.p, id, V.n)).any fun x => decide (x.data = V.data) && decide (x.seen ≤ most)
theorem w1_fn (x : Sn) (V : Ev) (h : Hd) (most : Int) (g6 g7 : Nat) (w1 W : World) (hW : Below w1.heap.size w1 W) (h6 : rowAt w1 g6 = some #[.int .i64 V.kd, .int .u64 (V.x.id : Int), .slice h.ma V.x.mem.length h.mc, .slice h.la V.x.lvs.length h.lc, .slice h.da V.x.ldr.length h.dc, .int .u16 (V.p.1 : Int), .int .u32 (V.p.2 : Int), .int .u64 (V.n : Int), .slice h.ba V.data.length h.bc]) (h7 : rowAt w1 g7 = some #[.int .i64 most]) (hx : SnW W x) (hv : EvG W (V, h)) (hb : ∀ b ∈ V.data, b < 256) :
    Calls Try.prog 66 ((#[] : Array Value).push (.agg #[.int .u16 (x.p.1 : Int), .int .u32 (x.p.2 : Int), .int .u64 (x.vw : Int), .int .u64 (x.num : Int), .slice x.a x.data.length x.c, .int .i64 x.seen]) ++ #[.pointer (some ⟨g6, 0, none⟩), .pointer (some ⟨g7, 0, none⟩)]) W (Ret fun v w' => v = .bool (decide (x.data = V.data) && decide (x.seen ≤ most)) ∧ Below W.heap.size W w') :=
  was1_ok x g6 g7 V h most _ rfl W hx (fun j hj => (hW.cell (rowAt_lt h6)).trans (cell_of_rowAt h6 j)) (Nat.lt_of_lt_of_le (rowAt_lt h6) hW.size) ((hW.cell (rowAt_lt h7)).trans (cell_of_rowAt h7 0)) (Nat.lt_of_lt_of_le (rowAt_lt h7) hW.size) hv hb
section
variable {α β : Type} [DecidableEq α] {P : Program} {ops : Array Oper} {k e t : TypeId} {ek : α → Value} {ev : β → Value} {a : Act} {w0 : World} {L : List Res} {o : Oper} {M : List (α × β)} {b : Nat} {x y : Operand} {q : α} {l : Lit}
theorem Yld.lookF2 (hw : Region.wanted o (yielded ops a.tmps) = true) (ho : o.op = .lookup t x y false) (K : Keyed P k) (hi : ∀ x y, ek x = ek y → x = y) (ht : P.underlying t = some (.map k e)) {z : Value} (hz : ∀ W : World, (zeroValue e).run P W = .ok z W) (hx : a.eval x = .map (some b)) (hy : a.eval y = ek q) (ha : keyOf P k (ek q) = some l)
    (hm : MapAt P k ek ev b M w0) : YieldsIf P ops (fun W => St w0.heap.size w0 W L) o (((mget M q).map ev).getD z) a :=
  .inl ⟨hw, fun W H => by
    unfold execOp; simp only [ho, hx, hy]
    simp [run_look false K hi ht (hz W) (hm.grow H.below) ha]⟩
end
theorem was_ok (gc : Nat) (D : Ck) (q0 q1 q3 q4 q5 q6 q7 q8 : Value) (id : Nat) (V : Ev) (h : Hd) (most : Int) (r : Bool) (hr : wasD D id V most = r) (w : World) (hD : CkW w gc D) (hy : id < 18446744073709551616) (hwf : wfE (V, h)) (hv : EvG w (V, h)) :
    Calls Try.prog 57 #[.pointer (some ⟨gc, 0, none⟩), .agg #[q0, q1, .int .u64 (id : Int), q3, q4, q5, q6, q7, q8], .agg #[.int .i64 V.kd, .int .u64 (V.x.id : Int), .slice h.ma V.x.mem.length h.mc, .slice h.la V.x.lvs.length h.lc, .slice h.da V.x.ldr.length h.dc, .int .u16 (V.p.1 : Int), .int .u32 (V.p.2 : Int), .int .u64 (V.n : Int), .slice h.ba V.data.length h.bc], .int .i64 most] w (Ret fun v w' => v = .bool r ∧ Below w.heap.size w w') := by
  have H := St.init w
  obtain ⟨sv, hsv⟩ : ∃ sv : Sv, (mget D.M (V.p, id, V.n)).getD ⟨[], none, 0⟩ = sv := ⟨_, rfl⟩
  have HSVE : Hid (((mget D.M (V.p, id, V.n)).map evS).getD (.slice none 0 0) = evS sv) := Lib.hid (by
    rw [← hsv]; cases mget D.M (V.p, id, V.n) <;> rfl)
  have HSV : Hid (Sl w 6 sv.l.length (.slice sv.a sv.l.length sv.c) (elN sv.l) ∧ ∀ x ∈ sv.l, SnW w x) := Lib.hid (by
    rw [← hsv]
    cases hm : mget D.M (V.p, id, V.n) with
    | none => exact ⟨⟨none, 0, rfl, by simp [maxLen], fun h => absurd h (Nat.lt_irrefl _)⟩, fun x hx => absurd hx List.not_mem_nil⟩
    | some s => exact hD.mv _ (mget_mem hm))
  have HR : Hid ((sv.l.any fun x => decide (x.data = V.data) && decide (x.seen ≤ most)) = r) := Lib.hid (by
    rw [← hr, ← hsv]; unfold wasD sentOf; cases mget D.M (V.p, id, V.n) <;> rfl)
  have hc3 : w.cell? ⟨gc, 3, none⟩ = some (.map (some D.gm)) := hD.c 3 (by omega)
  have hlt := hD.lt
  have HMP := Lib.hid hD.m
  obtain ⟨kl, hkl⟩ := keyK (V.p, id, V.n) ⟨hwf.p1, hwf.p2, hy, hwf.n⟩
  have HKY := Lib.hid hkl
  have HB := Lib.hid hwf.data
  have HV := Lib.hid hv
  clear hr hD hwf hv hkl hsv
  go_enter Try.func57, Try.ntmps57
  go_wp2_with (first | (with_reducible refine wpl rfl (dQ 5 rfl ?_); with_reducible refine (Stp.box 5 rfl rfl rfl H ?_); clear H; intro g5 w1 H; simp only [pS]; simp only [pE, nC, pS, cells_func] at H) | (with_reducible refine wpl rfl (dQ 6 rfl ?_); with_reducible refine (Stp.box 6 rfl rfl rfl H ?_); clear H; intro g6 w1 H; simp only [pS]; simp only [pE, nC, pS, cells_func] at H) | (with_reducible refine wpl rfl (dQ 7 rfl ?_); with_reducible refine (Stp.box 7 rfl rfl rfl H ?_); clear H; intro g7 w1 H; simp only [pS]; simp only [pE, nC, pS, cells_func] at H))
  refine rg_begin 14 rfl (S := fun W => St _ _ W (row 3 g7 #[.int .i64 most] :: row 62 g6 #[.int .i64 V.kd, .int .u64 (V.x.id : Int), .slice h.ma V.x.mem.length h.mc, .slice h.la V.x.lvs.length h.lc, .slice h.da V.x.ldr.length h.dc, .int .u16 (V.p.1 : Int), .int .u32 (V.p.2 : Int), .int .u64 (V.n : Int), .slice h.ba V.data.length h.bc] :: row 78 g5 #[q0, q1, .int .u64 (id : Int), q3, q4, q5, q6, q7, q8] :: [])) (by kernel_rfl) (H.drew.sub sU) ?_
  replace H := H.drew
  have HS := H
  refine rg_take (i := 0) rfl kR kR kR (Yld.move rfl rfl) (H.sub sU) ?_; simp only [pS, pE]
  refine rg_take (i := 1) rfl kR kR kR (Yld.o rfl) (H.sub sU) ?_; simp only [pS]
  refine rg_take (i := 2) rfl kR kR kR (Yld.o rfl) (H.sub sU) ?_; simp only [pS]
  first | (refine rg_take (i := 3) rfl kR kR kR (Yld.ldo rfl rfl agg68 rfl (by assumption) (by assumption)) (H.sub sU) ?_; simp only [pS]) | (refine rg_take (i := 3) rfl kR kR kR (Yld.ldc rfl rfl agg68 rfl mR cE) (H.sub sU) ?_; simp only [pS])
  refine rg_take (i := 4) rfl kR kR kR (Yld.o rfl) (H.sub sU) ?_; simp only [pS]
  first | (refine rg_take (i := 5) rfl kR kR kR (Yld.ldor rfl rfl agg27 size27 rfl (by assumption) sZ (by assumption)) (H.sub sU) ?_; simp only [pS]) | (refine rg_take (i := 5) rfl kR kR kR (Yld.ldr rfl rfl agg27 size27 rfl mR sZ) (H.sub sU) ?_; simp only [pS]) | (refine rg_take (i := 5) rfl kR kR kR (Yld.ldl rfl rfl agg27 size27 rfl mR (by simp)) (H.sub sU) ?_; simp only [pS]; simp only [List.drop_succ_cons, List.drop_zero, List.take_succ_cons, List.take_zero])
  refine rg_take (i := 6) rfl kR kR kR (Yld.o rfl) (H.sub sU) ?_; simp only [pS]
  refine rg_take (i := 7) rfl kR kR kR (Yld.o rfl) (H.sub sU) ?_; simp only [pS]
  first | (refine rg_take (i := 8) rfl kR kR kR (Yld.ldo rfl rfl agg37 rfl (by assumption) (by assumption)) (H.sub sU) ?_; simp only [pS]) | (refine rg_take (i := 8) rfl kR kR kR (Yld.ldc rfl rfl agg37 rfl mR cE) (H.sub sU) ?_; simp only [pS])
  refine rg_take (i := 9) rfl kR kR kR (Yld.o rfl) (H.sub sU) ?_; simp only [pS]
  first | (refine rg_take (i := 10) rfl kR kR kR (Yld.ldo rfl rfl agg37 rfl (by assumption) (by assumption)) (H.sub sU) ?_; simp only [pS]) | (refine rg_take (i := 10) rfl kR kR kR (Yld.ldc rfl rfl agg37 rfl mR cE) (H.sub sU) ?_; simp only [pS])
  refine rg_take (i := 11) rfl kR kR kR (Yld.of (v := (.agg #[.int .u16 (V.p.1 : Int), .int .u32 (V.p.2 : Int), .int .u64 (id : Int), .int .u64 (V.n : Int)])) rfl (fun W _ => by kernel_rfl)) (H.sub sU) ?_; simp only [pS, pE]
  refine rg_take (i := 12) rfl kR kR kR (Yld.lookF2 (ek := ekK) (ev := evS) (M := D.M) (q := ((V.p, id, V.n) : Ky)) (b := D.gm) (w0 := w) rfl rfl keyedK ekK_inj Try.underlying68 mz44 rfl rfl HKY.out HMP.out) (H.sub sU) ?_; simp only [pS, pE]
  refine rg_take (i := 13) rfl kR kR kR (Yld.assign rfl rfl) (H.sub sU) ?_; simp only [pS, pE]
  refine rg_done (by kernel_rfl) ?_
  rw [HSVE.out]
  go_wp2_with (first | (go_at_call 65; (with_reducible refine (contains_ok _ sv.l.length _ sv.l rfl 66 #[] #[.pointer (some ⟨g6, 0, none⟩), .pointer (some ⟨g7, 0, none⟩)] ent_w1 (fun x => decide (x.data = V.data) && decide (x.seen ≤ most)) r HR.out _ (HSV.out.1.grow H.below) (fun x hx W hW => w1_fn x V h most g6 g7 _ W hW (H.getRow (t := 62) mE) (H.getRow (t := 3) mE) ((HSV.out.2 x hx).grow (H.below.trans (hW.mono H.below.size))) (HV.out.grow (H.below.trans (hW.mono H.below.size))) HB.out)).mono ?_); rintro e w1 ⟨v, rfl, hr⟩; obtain ⟨rfl, hb1⟩ := hr; replace H := H.grow hb1; clear hb1) | (with_reducible refine wpl rfl (dQ 5 rfl ?_); with_reducible refine (Stp.box 5 rfl rfl rfl H ?_); clear H; intro g5 w1 H; simp only [pS]; simp only [pE, nC, pS, cells_func] at H) | (with_reducible refine wpl rfl (dQ 6 rfl ?_); with_reducible refine (Stp.box 6 rfl rfl rfl H ?_); clear H; intro g6 w1 H; simp only [pS]; simp only [pE, nC, pS, cells_func] at H) | (with_reducible refine wpl rfl (dQ 7 rfl ?_); with_reducible refine (Stp.box 7 rfl rfl rfl H ?_); clear H; intro g7 w1 H; simp only [pS]; simp only [pE, nC, pS, cells_func] at H))
  go_ret
  exact ⟨_, rfl, rfl, H.below⟩
end Go.Proofs.Ytbepaafgcbgmfaa
