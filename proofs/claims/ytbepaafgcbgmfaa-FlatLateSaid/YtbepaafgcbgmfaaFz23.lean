/- Layer 29's reference: is there more than is looked at (Great); layer 19's SameEvent and SameEvents; Begins; no condition. -/
import Derived.Test.YtbepaafgcbgmfaaFz22
namespace Go.Proofs.Ytbepaafgcbgmfaa
open Go.ChangeShapes Go.WideShapes Go.ChangeAt Go.RowKit Go.Maps Go.Deep
set_option linter.unusedVariables false
set_option linter.unusedSimpArgs false
set_option linter.unusedSectionVars false
set_option maxRecDepth 100000
set_option maxHeartbeats 4000000
def gE (e : Ev) : Bool := gV e.x || decide (300 < e.data.length)
def gL1 (l : List Eh) : Bool := decide (60 < l.length) || l.any fun e => gE e.1
def gF (ls : List Lv) (m : Nat) : Bool := decide (12 < ls.length) || (decide (60 < m) || ls.any fun x => gL1 x.l)
theorem any_snocF {α : Type} {l : List α} {p : α → Bool} {k : Nat} {x : α} (h : l.take (k + 1) = l.take k ++ [x]) (h0 : (l.take k).any p = false) (hp : p x = false) : (l.take (k + 1)).any p = false := by
  rw [h, List.any_append, h0]; simp [hp]
theorem any_hit {α : Type} {l : List α} {p : α → Bool} {x : α} (h : x ∈ l) (hp : p x = true) : l.any p = true := List.any_eq_true.2 ⟨x, h, hp⟩
theorem rgreat_ev (V : Ev) (h : Hd) (e : Bool) (he : gV V.x = e) (w : World) (hv : EvG w (V, h)) : Calls Try.prog 26 #[.agg #[.int .u64 (V.x.id : Int), .slice h.ma V.x.mem.length h.mc, .slice h.la V.x.lvs.length h.lc, .slice h.da V.x.ldr.length h.dc]] w (Ret fun v w' => v = .bool e ∧ Below w.heap.size w w') :=
  rgreat_is V.x _ _ _ _ _ _ w e he hv.1
attribute [local irreducible] gV
theorem great29_is (ls : List Lv) (la : Option Addr) (lc n : Nat) (hn : ls.length = n) (sa : Option Addr) (sc m : Nat) (hm : m ≤ 9223372036854775807) (e : Bool) (he : gF ls m = e) (w : World) (hl : Sl w 3 n (.slice la n lc) (elL ls)) (hlw : ∀ x ∈ ls, LvO w x) :
    Calls Try.prog 9 #[.slice la n lc, .slice sa m sc] w (Ret fun v w' => v = .bool e ∧ Below w.heap.size w w') := by
  have H := St.init w
  have HN := Lib.hid hn
  have HG := Lib.hid he
  have HLW := Lib.hid hlw
  obtain ⟨_, _, _, hmx, _⟩ := id hl
  unfold maxLen at hmx
  clear hn he hlw
  rcases Nat.lt_or_ge 12 n with h12 | h12
  · have HV : Hid (e = true) := Lib.hid (by rw [← HG.out]; unfold gF; rw [HN.out, decide_eq_true (by omega)]; rfl)
    have i12 : (12 : Int) < (n : Int) := by omega
    clear h12
    go_enter Try.func9, Try.ntmps9
    go_wp2_with (first | (with_reducible refine wpl rfl (ldQ (ty := 22) rfl ?_); first | (with_reducible refine (Stp.ldo rfl agg22 rfl H (by assumption) (by assumption) ?_); simp only [pS]) | (with_reducible refine (Stp.ldc rfl agg22 rfl H mR cE ?_); simp only [pS])) | (with_reducible refine wpl rfl (ldQ (ty := 41) rfl ?_); first | (with_reducible refine (Stp.ldor rfl agg41 size41 rfl H (by assumption) sZ (by assumption) ?_); simp only [pS]) | (with_reducible refine (Stp.ldr rfl agg41 size41 rfl H mR sZ ?_); simp only [pS]) | (with_reducible refine (Stp.ldl rfl agg41 size41 rfl H mR (by simp) ?_); simp only [pS]; simp only [List.drop_succ_cons, List.drop_zero, List.take_succ_cons, List.take_zero])) | (with_reducible refine wpl rfl (ldQ (ty := 60) rfl ?_); first | (with_reducible refine (Stp.ldo rfl agg60 rfl H (by assumption) (by assumption) ?_); simp only [pS]) | (with_reducible refine (Stp.ldc rfl agg60 rfl H mR cE ?_); simp only [pS])))
    go_ret
    exact ⟨_, rfl, by rw [HV.out]; rfl, H.below⟩
  have i12 : ¬ (12 : Int) < (n : Int) := by omega
  rcases Nat.lt_or_ge 60 m with h60 | h60
  · have HV : Hid (e = true) := Lib.hid (by rw [← HG.out]; unfold gF; rw [HN.out, decide_eq_true (show 60 < m by omega)]; simp)
    have i60 : (60 : Int) < (m : Int) := by omega
    clear h60
    go_enter Try.func9, Try.ntmps9
    go_wp2_with (first | (with_reducible refine wpl rfl (ldQ (ty := 22) rfl ?_); first | (with_reducible refine (Stp.ldo rfl agg22 rfl H (by assumption) (by assumption) ?_); simp only [pS]) | (with_reducible refine (Stp.ldc rfl agg22 rfl H mR cE ?_); simp only [pS])) | (with_reducible refine wpl rfl (ldQ (ty := 41) rfl ?_); first | (with_reducible refine (Stp.ldor rfl agg41 size41 rfl H (by assumption) sZ (by assumption) ?_); simp only [pS]) | (with_reducible refine (Stp.ldr rfl agg41 size41 rfl H mR sZ ?_); simp only [pS]) | (with_reducible refine (Stp.ldl rfl agg41 size41 rfl H mR (by simp) ?_); simp only [pS]; simp only [List.drop_succ_cons, List.drop_zero, List.take_succ_cons, List.take_zero])) | (with_reducible refine wpl rfl (ldQ (ty := 60) rfl ?_); first | (with_reducible refine (Stp.ldo rfl agg60 rfl H (by assumption) (by assumption) ?_); simp only [pS]) | (with_reducible refine (Stp.ldc rfl agg60 rfl H mR cE ?_); simp only [pS])))
    go_ret
    exact ⟨_, rfl, by rw [HV.out]; rfl, H.below⟩
  have i60 : ¬ (60 : Int) < (m : Int) := by omega
  have HGA : Hid ((ls.any fun x => gL1 x.l) = e) := Lib.hid (by
    have := HG.out
    unfold gF at this
    rw [HN.out, decide_eq_false (by omega), decide_eq_false (by omega)] at this
    simpa using this)
  go_enter Try.func9, Try.ntmps9
  go_wp2_with (first | (with_reducible refine wpl rfl (ldQ (ty := 22) rfl ?_); first | (with_reducible refine (Stp.ldo rfl agg22 rfl H (by assumption) (by assumption) ?_); simp only [pS]) | (with_reducible refine (Stp.ldc rfl agg22 rfl H mR cE ?_); simp only [pS])) | (with_reducible refine wpl rfl (ldQ (ty := 41) rfl ?_); first | (with_reducible refine (Stp.ldor rfl agg41 size41 rfl H (by assumption) sZ (by assumption) ?_); simp only [pS]) | (with_reducible refine (Stp.ldr rfl agg41 size41 rfl H mR sZ ?_); simp only [pS]) | (with_reducible refine (Stp.ldl rfl agg41 size41 rfl H mR (by simp) ?_); simp only [pS]; simp only [List.drop_succ_cons, List.drop_zero, List.take_succ_cons, List.take_zero])) | (with_reducible refine wpl rfl (ldQ (ty := 60) rfl ?_); first | (with_reducible refine (Stp.ldo rfl agg60 rfl H (by assumption) (by assumption) ?_); simp only [pS]) | (with_reducible refine (Stp.ldc rfl agg60 rfl H mR cE ?_); simp only [pS])))
  go_loopw [5] (fun i wr => ∃ q : Nat, q ≤ n ∧ i = .int .i64 q ∧ Hid ((ls.take q).any (fun x => gL1 x.l) = false) ∧ St w.heap.size w wr []) (fun i _ => n - (intOf i).toNat)
  case atStart => exact ⟨0, Nat.zero_le _, rfl, Lib.hid (by simp), H⟩
  case round =>
    clear H
    obtain ⟨q, hq, rfl, HT, H⟩ := hrel
    by_cases hlt : q < n
    · have hl1 : q < ls.length := by rw [HN.out]; exact hlt
      obtain ⟨b1, o1, rfl, hb1⟩ := hl.addr (by omega)
      have hc1 := hl.cell hlt
      rw [elL_at hl1] at hc1
      have hme := List.getElem_mem hl1
      have HTk := Lib.hid (List.take_succ_eq_append_getElem hl1)
      obtain ⟨x, hx⟩ : ∃ x, ls[q] = x := ⟨_, rfl⟩
      rw [hx] at hc1 hme HTk
      have HME := Lib.hid hme
      have HXW := Lib.hid (HLW.out x hme)
      have qli : (q : Int) < (n : Int) := by omega
      obtain ⟨L, hL⟩ : ∃ L, x.l.length = L := ⟨_, rfl⟩
      have HL := Lib.hid hL
      have hxl := HXW.out.l
      have hcl : w.cell? ⟨b1, o1 + q * 3 + 2, none⟩ = some (.slice x.a L x.c) := by have := hc1 2 (by omega); rw [hL] at this; exact this
      rw [hL] at hxl
      obtain ⟨xa, hxa0⟩ : ∃ a, x.a = a := ⟨_, rfl⟩
      rw [hxa0] at hxl hcl
      clear hxa0
      obtain ⟨_, _, _, hmL, _⟩ := id hxl
      unfold maxLen at hmL
      clear hc1 hme hx hl1 hL
      rcases Nat.lt_or_ge 60 L with hL60 | hL60
      · have iL : (60 : Int) < (L : Int) := by omega
        have HV : Hid (e = true) := Lib.hid (by rw [← HGA.out]; exact any_hit HME.out (by unfold gL1; rw [HL.out, decide_eq_true (by omega)]; rfl))
        clear hL60
        go_wp2_with (first | (with_reducible refine wpl rfl (ldQ (ty := 22) rfl ?_); first | (with_reducible refine (Stp.ldo rfl agg22 rfl H (by assumption) (by assumption) ?_); simp only [pS]) | (with_reducible refine (Stp.ldc rfl agg22 rfl H mR cE ?_); simp only [pS])) | (with_reducible refine wpl rfl (ldQ (ty := 41) rfl ?_); first | (with_reducible refine (Stp.ldor rfl agg41 size41 rfl H (by assumption) sZ (by assumption) ?_); simp only [pS]) | (with_reducible refine (Stp.ldr rfl agg41 size41 rfl H mR sZ ?_); simp only [pS]) | (with_reducible refine (Stp.ldl rfl agg41 size41 rfl H mR (by simp) ?_); simp only [pS]; simp only [List.drop_succ_cons, List.drop_zero, List.take_succ_cons, List.take_zero])) | (with_reducible refine wpl rfl (ldQ (ty := 60) rfl ?_); first | (with_reducible refine (Stp.ldo rfl agg60 rfl H (by assumption) (by assumption) ?_); simp only [pS]) | (with_reducible refine (Stp.ldc rfl agg60 rfl H mR cE ?_); simp only [pS])))
        go_ret
        exact ⟨_, rfl, by rw [HV.out]; rfl, H.below⟩
      have iL : ¬ (60 : Int) < (L : Int) := by omega
      go_wp2_with (first | (with_reducible refine wpl rfl (ldQ (ty := 22) rfl ?_); first | (with_reducible refine (Stp.ldo rfl agg22 rfl H (by assumption) (by assumption) ?_); simp only [pS]) | (with_reducible refine (Stp.ldc rfl agg22 rfl H mR cE ?_); simp only [pS])) | (with_reducible refine wpl rfl (ldQ (ty := 41) rfl ?_); first | (with_reducible refine (Stp.ldor rfl agg41 size41 rfl H (by assumption) sZ (by assumption) ?_); simp only [pS]) | (with_reducible refine (Stp.ldr rfl agg41 size41 rfl H mR sZ ?_); simp only [pS]) | (with_reducible refine (Stp.ldl rfl agg41 size41 rfl H mR (by simp) ?_); simp only [pS]; simp only [List.drop_succ_cons, List.drop_zero, List.take_succ_cons, List.take_zero])) | (with_reducible refine wpl rfl (ldQ (ty := 60) rfl ?_); first | (with_reducible refine (Stp.ldo rfl agg60 rfl H (by assumption) (by assumption) ?_); simp only [pS]) | (with_reducible refine (Stp.ldc rfl agg60 rfl H mR cE ?_); simp only [pS])))
      go_loopw [6] (fun i wr => ∃ k : Nat, k ≤ L ∧ i = .int .i64 k ∧ Hid ((x.l.take k).any (fun e => gE e.1) = false) ∧ St w.heap.size w wr []) (fun i _ => L - (intOf i).toNat)
      case atStart => exact ⟨0, Nat.zero_le _, rfl, Lib.hid (by simp), H⟩
      case round =>
        clear H
        obtain ⟨k, hk, rfl, HK, H⟩ := hrel
        by_cases hlk : k < L
        · have hl2 : k < x.l.length := by rw [HL.out]; exact hlk
          obtain ⟨b2, o2, rfl, hb2⟩ := hxl.addr (by omega)
          have hc2 := hxl.cell hlk
          rw [elE_at hl2] at hc2
          have hme := List.getElem_mem hl2
          have HTj := Lib.hid (List.take_succ_eq_append_getElem hl2)
          obtain ⟨⟨V, h⟩, hv⟩ : ∃ v, x.l[k] = v := ⟨_, rfl⟩
          rw [hv] at hc2 hme HTj
          have HEV := Lib.hid (HXW.out.ev _ hme)
          have HM2 := Lib.hid hme
          simp only at hc2
          have kli : (k : Int) < (L : Int) := by omega
          have hvw : ∀ j, j < 4 → w.cell? ⟨b2, o2 + k * 9 + 1 + j, none⟩ = (#[.int .u64 (V.x.id : Int), .slice h.ma V.x.mem.length h.mc, .slice h.la V.x.lvs.length h.lc, .slice h.da V.x.ldr.length h.dc] : Array Value)[j]? := fun j hj => by
            rw [show o2 + k * 9 + 1 + j = o2 + k * 9 + (1 + j) by omega, hc2 (1 + j) (by omega)]
            have hj' : j = 0 ∨ j = 1 ∨ j = 2 ∨ j = 3 := by omega
            rcases hj' with rfl | rfl | rfl | rfl <;> rfl
          have hdt : w.cell? ⟨b2, o2 + k * 9 + 8, none⟩ = some (.slice h.ba V.data.length h.bc) := hc2 8 (by omega)
          obtain ⟨gv, hgv⟩ : ∃ gv, gV V.x = gv := ⟨_, rfl⟩
          have HGV := Lib.hid hgv
          clear hc2 hme hv hl2 hgv
          cases gv
          · by_cases hd : V.data.length ≤ 300
            · have id3 : ¬ (300 : Int) < (V.data.length : Int) := by omega
              have HK2 : Hid ((x.l.take (k + 1)).any (fun e => gE e.1) = false) := Lib.hid (any_snocF HTj.out HK.out (by show gE V = false; unfold gE; rw [HGV.out, decide_eq_false (by omega)]; rfl))
              go_wp2_with (first | (go_at_call 26; (with_reducible refine (rgreat_ev V h _ HGV.out _ (HEV.out.grow H.below)).mono ?_); rintro e w1 ⟨v, rfl, hr⟩; obtain ⟨rfl, hb1⟩ := hr; replace H := H.grow hb1; clear hb1) | (with_reducible refine wpl rfl (ldQ (ty := 22) rfl ?_); first | (with_reducible refine (Stp.ldo rfl agg22 rfl H (by assumption) (by assumption) ?_); simp only [pS]) | (with_reducible refine (Stp.ldc rfl agg22 rfl H mR cE ?_); simp only [pS])) | (with_reducible refine wpl rfl (ldQ (ty := 41) rfl ?_); first | (with_reducible refine (Stp.ldor rfl agg41 size41 rfl H (by assumption) sZ (by assumption) ?_); simp only [pS]) | (with_reducible refine (Stp.ldr rfl agg41 size41 rfl H mR sZ ?_); simp only [pS]) | (with_reducible refine (Stp.ldl rfl agg41 size41 rfl H mR (by simp) ?_); simp only [pS]; simp only [List.drop_succ_cons, List.drop_zero, List.take_succ_cons, List.take_zero])) | (with_reducible refine wpl rfl (ldQ (ty := 60) rfl ?_); first | (with_reducible refine (Stp.ldo rfl agg60 rfl H (by assumption) (by assumption) ?_); simp only [pS]) | (with_reducible refine (Stp.ldc rfl agg60 rfl H mR cE ?_); simp only [pS])))
              go_roundw
              case rel => exact ⟨k + 1, by omega, by go_num, HK2, H⟩
              case measure => simp [intOf]; omega
            · have id3 : (300 : Int) < (V.data.length : Int) := by omega
              have HV : Hid (e = true) := Lib.hid (by
                rw [← HGA.out]
                refine any_hit HME.out ?_
                unfold gL1
                rw [any_hit HM2.out (by show gE V = true; unfold gE; rw [decide_eq_true (by omega)]; simp)]; simp)
              go_wp2_with (first | (go_at_call 26; (with_reducible refine (rgreat_ev V h _ HGV.out _ (HEV.out.grow H.below)).mono ?_); rintro e w1 ⟨v, rfl, hr⟩; obtain ⟨rfl, hb1⟩ := hr; replace H := H.grow hb1; clear hb1) | (with_reducible refine wpl rfl (ldQ (ty := 22) rfl ?_); first | (with_reducible refine (Stp.ldo rfl agg22 rfl H (by assumption) (by assumption) ?_); simp only [pS]) | (with_reducible refine (Stp.ldc rfl agg22 rfl H mR cE ?_); simp only [pS])) | (with_reducible refine wpl rfl (ldQ (ty := 41) rfl ?_); first | (with_reducible refine (Stp.ldor rfl agg41 size41 rfl H (by assumption) sZ (by assumption) ?_); simp only [pS]) | (with_reducible refine (Stp.ldr rfl agg41 size41 rfl H mR sZ ?_); simp only [pS]) | (with_reducible refine (Stp.ldl rfl agg41 size41 rfl H mR (by simp) ?_); simp only [pS]; simp only [List.drop_succ_cons, List.drop_zero, List.take_succ_cons, List.take_zero])) | (with_reducible refine wpl rfl (ldQ (ty := 60) rfl ?_); first | (with_reducible refine (Stp.ldo rfl agg60 rfl H (by assumption) (by assumption) ?_); simp only [pS]) | (with_reducible refine (Stp.ldc rfl agg60 rfl H mR cE ?_); simp only [pS])))
              go_ret
              exact ⟨_, rfl, by rw [HV.out]; rfl, H.below⟩
          · have HV : Hid (e = true) := Lib.hid (by
              rw [← HGA.out]
              refine any_hit HME.out ?_
              unfold gL1
              rw [any_hit HM2.out (by show gE V = true; unfold gE; rw [HGV.out]; rfl)]; simp)
            go_wp2_with (first | (go_at_call 26; (with_reducible refine (rgreat_ev V h _ HGV.out _ (HEV.out.grow H.below)).mono ?_); rintro e w1 ⟨v, rfl, hr⟩; obtain ⟨rfl, hb1⟩ := hr; replace H := H.grow hb1; clear hb1) | (with_reducible refine wpl rfl (ldQ (ty := 22) rfl ?_); first | (with_reducible refine (Stp.ldo rfl agg22 rfl H (by assumption) (by assumption) ?_); simp only [pS]) | (with_reducible refine (Stp.ldc rfl agg22 rfl H mR cE ?_); simp only [pS])) | (with_reducible refine wpl rfl (ldQ (ty := 41) rfl ?_); first | (with_reducible refine (Stp.ldor rfl agg41 size41 rfl H (by assumption) sZ (by assumption) ?_); simp only [pS]) | (with_reducible refine (Stp.ldr rfl agg41 size41 rfl H mR sZ ?_); simp only [pS]) | (with_reducible refine (Stp.ldl rfl agg41 size41 rfl H mR (by simp) ?_); simp only [pS]; simp only [List.drop_succ_cons, List.drop_zero, List.take_succ_cons, List.take_zero])) | (with_reducible refine wpl rfl (ldQ (ty := 60) rfl ?_); first | (with_reducible refine (Stp.ldo rfl agg60 rfl H (by assumption) (by assumption) ?_); simp only [pS]) | (with_reducible refine (Stp.ldc rfl agg60 rfl H mR cE ?_); simp only [pS])))
            go_ret
            exact ⟨_, rfl, by rw [HV.out]; rfl, H.below⟩
        · obtain rfl : k = L := by omega
          have HT2 : Hid ((ls.take (q + 1)).any (fun x => gL1 x.l) = false) := Lib.hid (any_snocF HTk.out HT.out (by
            unfold gL1
            have h1 := HK.out
            rw [List.take_of_length_le (by rw [HL.out]; omega)] at h1
            rw [h1, HL.out, decide_eq_false (by omega)]; rfl))
          go_wp2_with (first | (with_reducible refine wpl rfl (ldQ (ty := 22) rfl ?_); first | (with_reducible refine (Stp.ldo rfl agg22 rfl H (by assumption) (by assumption) ?_); simp only [pS]) | (with_reducible refine (Stp.ldc rfl agg22 rfl H mR cE ?_); simp only [pS])) | (with_reducible refine wpl rfl (ldQ (ty := 41) rfl ?_); first | (with_reducible refine (Stp.ldor rfl agg41 size41 rfl H (by assumption) sZ (by assumption) ?_); simp only [pS]) | (with_reducible refine (Stp.ldr rfl agg41 size41 rfl H mR sZ ?_); simp only [pS]) | (with_reducible refine (Stp.ldl rfl agg41 size41 rfl H mR (by simp) ?_); simp only [pS]; simp only [List.drop_succ_cons, List.drop_zero, List.take_succ_cons, List.take_zero])) | (with_reducible refine wpl rfl (ldQ (ty := 60) rfl ?_); first | (with_reducible refine (Stp.ldo rfl agg60 rfl H (by assumption) (by assumption) ?_); simp only [pS]) | (with_reducible refine (Stp.ldc rfl agg60 rfl H mR cE ?_); simp only [pS])))
          go_roundw
          case rel => exact ⟨q + 1, by omega, by go_num, HT2, H⟩
          case measure => simp [intOf]; omega
    · obtain rfl : q = n := by omega
      have HV : Hid (e = false) := Lib.hid (by
        rw [← HGA.out]
        have h1 := HT.out
        rw [List.take_of_length_le (by rw [HN.out]; omega)] at h1
        exact h1)
      go_wp2_with (first | (with_reducible refine wpl rfl (ldQ (ty := 22) rfl ?_); first | (with_reducible refine (Stp.ldo rfl agg22 rfl H (by assumption) (by assumption) ?_); simp only [pS]) | (with_reducible refine (Stp.ldc rfl agg22 rfl H mR cE ?_); simp only [pS])) | (with_reducible refine wpl rfl (ldQ (ty := 41) rfl ?_); first | (with_reducible refine (Stp.ldor rfl agg41 size41 rfl H (by assumption) sZ (by assumption) ?_); simp only [pS]) | (with_reducible refine (Stp.ldr rfl agg41 size41 rfl H mR sZ ?_); simp only [pS]) | (with_reducible refine (Stp.ldl rfl agg41 size41 rfl H mR (by simp) ?_); simp only [pS]; simp only [List.drop_succ_cons, List.drop_zero, List.take_succ_cons, List.take_zero])) | (with_reducible refine wpl rfl (ldQ (ty := 60) rfl ?_); first | (with_reducible refine (Stp.ldo rfl agg60 rfl H (by assumption) (by assumption) ?_); simp only [pS]) | (with_reducible refine (Stp.ldc rfl agg60 rfl H mR cE ?_); simp only [pS])))
      go_ret
      exact ⟨_, rfl, by rw [HV.out]; rfl, H.below⟩
/-- Two events are one, as layer 19's reference tells. -/
theorem rsev_ok (a b : Ev) (h1 h2 : Hd) (w : World) (hx : EvG w (a, h1)) (hy : EvG w (b, h2)) (wa : ∀ x ∈ a.data, x < 256) (wb : ∀ x ∈ b.data, x < 256) :
    Calls Try.prog 27 #[.agg (evA a h1), .agg (evA b h2)] w (Ret fun v w' => v = .bool (eSame a b) ∧ Below w.heap.size w w') := by
  have H := St.init w
  obtain ⟨hx1, hx2⟩ := hx
  obtain ⟨hy1, hy2⟩ := hy
  have HD1 := Lib.hid hx2.sl
  have HD2 := Lib.hid hy2.sl
  have hg := eqg_PD
  by_cases g0 : a.kd = b.kd
  · have iK : (a.kd == b.kd) = true := by simp [g0]
    by_cases g1 : vSame a.x b.x = true
    · have E5 := Lib.hid g1
      by_cases g2 : a.p = b.p
      · have eP := eqPD_is a.p.1 a.p.2 b.p.1 b.p.2 true (by simp [g2])
        by_cases g3 : a.n = b.n
        · have iN : ((a.n : Int) == (b.n : Int)) = true := by simp [g3]
          by_cases g4 : a.data = b.data
          · have iS : ((strOf a.data).toList == (strOf b.data).toList) = true := by rw [strOf_inj wa wb]; simp [g4]
            have HV : Hid (eSame a b = true) := Lib.hid (by simp [eSame, g0, g1, g2, g3, g4])
            clear g0 g1 g2 g3 g4
            go_enter Try.func27, Try.ntmps27
            go_wp2_with (first | (go_at_call 33; (with_reducible refine (rvsame_is a.x b.x _ _ _ _ _ _ _ _ _ _ _ _ _ _ (hx1.grow H.below) (hy1.grow H.below) E5.out).mono ?_); rintro e w1 ⟨v, rfl, hr⟩; obtain ⟨rfl, hb1⟩ := hr; replace H := H.grow hb1; clear hb1) | (with_reducible refine wpl rfl (dQ 34 rfl ?_); with_reducible refine (Stp.b2s (v := .slice h1.ba a.data.length h1.bc) (l := a.data) 34 rfl rfl rfl (HD1.out.grow H.below) ?_); simp only [pS]) | (with_reducible refine wpl rfl (dQ 37 rfl ?_); with_reducible refine (Stp.b2s (v := .slice h2.ba b.data.length h2.bc) (l := b.data) 37 rfl rfl rfl (HD2.out.grow H.below) ?_); simp only [pS]) | (with_reducible refine wpl rfl (dQ 2 rfl ?_); with_reducible refine (Stp.box 2 rfl rfl rfl H ?_); clear H; intro g2 w1 H; simp only [pS]; simp only [pE, nC, pS] at H) | (with_reducible refine wpl rfl (dQ 3 rfl ?_); with_reducible refine (Stp.box 3 rfl rfl rfl H ?_); clear H; intro g3 w1 H; simp only [pS]; simp only [pE, nC, pS] at H) | (with_reducible refine wpl rfl (ldQ (ty := 3) rfl ?_); first | (with_reducible refine (Stp.ldo rfl agg3 rfl H (by assumption) (by assumption) ?_); simp only [pS]) | (with_reducible refine (Stp.ldc rfl agg3 rfl H mR cE ?_); simp only [pS])) | (with_reducible refine wpl rfl (ldQ (ty := 41) rfl ?_); first | (with_reducible refine (Stp.ldor rfl agg41 size41 rfl H (by assumption) sZ (by assumption) ?_); simp only [pS]) | (with_reducible refine (Stp.ldr rfl agg41 size41 rfl H mR sZ ?_); simp only [pS]) | (with_reducible refine (Stp.ldl rfl agg41 size41 rfl H mR (by simp) ?_); simp only [pS]; simp only [List.drop_succ_cons, List.drop_zero, List.take_succ_cons, List.take_zero])) | (with_reducible refine wpl rfl (ldQ (ty := 27) rfl ?_); first | (with_reducible refine (Stp.ldor rfl agg27 size27 rfl H (by assumption) sZ (by assumption) ?_); simp only [pS]) | (with_reducible refine (Stp.ldr rfl agg27 size27 rfl H mR sZ ?_); simp only [pS]) | (with_reducible refine (Stp.ldl rfl agg27 size27 rfl H mR (by simp) ?_); simp only [pS]; simp only [List.drop_succ_cons, List.drop_zero, List.take_succ_cons, List.take_zero])) | (with_reducible refine wpl rfl (ldQ (ty := 37) rfl ?_); first | (with_reducible refine (Stp.ldo rfl agg37 rfl H (by assumption) (by assumption) ?_); simp only [pS]) | (with_reducible refine (Stp.ldc rfl agg37 rfl H mR cE ?_); simp only [pS])) | (with_reducible refine wpl rfl (ldQ (ty := 60) rfl ?_); first | (with_reducible refine (Stp.ldo rfl agg60 rfl H (by assumption) (by assumption) ?_); simp only [pS]) | (with_reducible refine (Stp.ldc rfl agg60 rfl H mR cE ?_); simp only [pS])))
            go_ret
            exact ⟨_, rfl, by rw [HV.out]; rfl, H.below⟩
          · have iS : ((strOf a.data).toList == (strOf b.data).toList) = false := by rw [strOf_inj wa wb]; simp [g4]
            have HV : Hid (eSame a b = false) := Lib.hid (by simp [eSame, g0, g1, g2, g3, g4])
            clear g0 g1 g2 g3 g4
            go_enter Try.func27, Try.ntmps27
            go_wp2_with (first | (go_at_call 33; (with_reducible refine (rvsame_is a.x b.x _ _ _ _ _ _ _ _ _ _ _ _ _ _ (hx1.grow H.below) (hy1.grow H.below) E5.out).mono ?_); rintro e w1 ⟨v, rfl, hr⟩; obtain ⟨rfl, hb1⟩ := hr; replace H := H.grow hb1; clear hb1) | (with_reducible refine wpl rfl (dQ 34 rfl ?_); with_reducible refine (Stp.b2s (v := .slice h1.ba a.data.length h1.bc) (l := a.data) 34 rfl rfl rfl (HD1.out.grow H.below) ?_); simp only [pS]) | (with_reducible refine wpl rfl (dQ 37 rfl ?_); with_reducible refine (Stp.b2s (v := .slice h2.ba b.data.length h2.bc) (l := b.data) 37 rfl rfl rfl (HD2.out.grow H.below) ?_); simp only [pS]) | (with_reducible refine wpl rfl (dQ 2 rfl ?_); with_reducible refine (Stp.box 2 rfl rfl rfl H ?_); clear H; intro g2 w1 H; simp only [pS]; simp only [pE, nC, pS] at H) | (with_reducible refine wpl rfl (dQ 3 rfl ?_); with_reducible refine (Stp.box 3 rfl rfl rfl H ?_); clear H; intro g3 w1 H; simp only [pS]; simp only [pE, nC, pS] at H) | (with_reducible refine wpl rfl (ldQ (ty := 3) rfl ?_); first | (with_reducible refine (Stp.ldo rfl agg3 rfl H (by assumption) (by assumption) ?_); simp only [pS]) | (with_reducible refine (Stp.ldc rfl agg3 rfl H mR cE ?_); simp only [pS])) | (with_reducible refine wpl rfl (ldQ (ty := 41) rfl ?_); first | (with_reducible refine (Stp.ldor rfl agg41 size41 rfl H (by assumption) sZ (by assumption) ?_); simp only [pS]) | (with_reducible refine (Stp.ldr rfl agg41 size41 rfl H mR sZ ?_); simp only [pS]) | (with_reducible refine (Stp.ldl rfl agg41 size41 rfl H mR (by simp) ?_); simp only [pS]; simp only [List.drop_succ_cons, List.drop_zero, List.take_succ_cons, List.take_zero])) | (with_reducible refine wpl rfl (ldQ (ty := 27) rfl ?_); first | (with_reducible refine (Stp.ldor rfl agg27 size27 rfl H (by assumption) sZ (by assumption) ?_); simp only [pS]) | (with_reducible refine (Stp.ldr rfl agg27 size27 rfl H mR sZ ?_); simp only [pS]) | (with_reducible refine (Stp.ldl rfl agg27 size27 rfl H mR (by simp) ?_); simp only [pS]; simp only [List.drop_succ_cons, List.drop_zero, List.take_succ_cons, List.take_zero])) | (with_reducible refine wpl rfl (ldQ (ty := 37) rfl ?_); first | (with_reducible refine (Stp.ldo rfl agg37 rfl H (by assumption) (by assumption) ?_); simp only [pS]) | (with_reducible refine (Stp.ldc rfl agg37 rfl H mR cE ?_); simp only [pS])) | (with_reducible refine wpl rfl (ldQ (ty := 60) rfl ?_); first | (with_reducible refine (Stp.ldo rfl agg60 rfl H (by assumption) (by assumption) ?_); simp only [pS]) | (with_reducible refine (Stp.ldc rfl agg60 rfl H mR cE ?_); simp only [pS])))
            go_ret
            exact ⟨_, rfl, by rw [HV.out]; rfl, H.below⟩
        · have iN : ((a.n : Int) == (b.n : Int)) = false := by simp; omega
          have HV : Hid (eSame a b = false) := Lib.hid (by simp [eSame, g0, g1, g2, g3])
          clear g0 g1 g2 g3
          go_enter Try.func27, Try.ntmps27
          go_wp2_with (first | (go_at_call 33; (with_reducible refine (rvsame_is a.x b.x _ _ _ _ _ _ _ _ _ _ _ _ _ _ (hx1.grow H.below) (hy1.grow H.below) E5.out).mono ?_); rintro e w1 ⟨v, rfl, hr⟩; obtain ⟨rfl, hb1⟩ := hr; replace H := H.grow hb1; clear hb1) | (with_reducible refine wpl rfl (dQ 34 rfl ?_); with_reducible refine (Stp.b2s (v := .slice h1.ba a.data.length h1.bc) (l := a.data) 34 rfl rfl rfl (HD1.out.grow H.below) ?_); simp only [pS]) | (with_reducible refine wpl rfl (dQ 37 rfl ?_); with_reducible refine (Stp.b2s (v := .slice h2.ba b.data.length h2.bc) (l := b.data) 37 rfl rfl rfl (HD2.out.grow H.below) ?_); simp only [pS]) | (with_reducible refine wpl rfl (dQ 2 rfl ?_); with_reducible refine (Stp.box 2 rfl rfl rfl H ?_); clear H; intro g2 w1 H; simp only [pS]; simp only [pE, nC, pS] at H) | (with_reducible refine wpl rfl (dQ 3 rfl ?_); with_reducible refine (Stp.box 3 rfl rfl rfl H ?_); clear H; intro g3 w1 H; simp only [pS]; simp only [pE, nC, pS] at H) | (with_reducible refine wpl rfl (ldQ (ty := 3) rfl ?_); first | (with_reducible refine (Stp.ldo rfl agg3 rfl H (by assumption) (by assumption) ?_); simp only [pS]) | (with_reducible refine (Stp.ldc rfl agg3 rfl H mR cE ?_); simp only [pS])) | (with_reducible refine wpl rfl (ldQ (ty := 41) rfl ?_); first | (with_reducible refine (Stp.ldor rfl agg41 size41 rfl H (by assumption) sZ (by assumption) ?_); simp only [pS]) | (with_reducible refine (Stp.ldr rfl agg41 size41 rfl H mR sZ ?_); simp only [pS]) | (with_reducible refine (Stp.ldl rfl agg41 size41 rfl H mR (by simp) ?_); simp only [pS]; simp only [List.drop_succ_cons, List.drop_zero, List.take_succ_cons, List.take_zero])) | (with_reducible refine wpl rfl (ldQ (ty := 27) rfl ?_); first | (with_reducible refine (Stp.ldor rfl agg27 size27 rfl H (by assumption) sZ (by assumption) ?_); simp only [pS]) | (with_reducible refine (Stp.ldr rfl agg27 size27 rfl H mR sZ ?_); simp only [pS]) | (with_reducible refine (Stp.ldl rfl agg27 size27 rfl H mR (by simp) ?_); simp only [pS]; simp only [List.drop_succ_cons, List.drop_zero, List.take_succ_cons, List.take_zero])) | (with_reducible refine wpl rfl (ldQ (ty := 37) rfl ?_); first | (with_reducible refine (Stp.ldo rfl agg37 rfl H (by assumption) (by assumption) ?_); simp only [pS]) | (with_reducible refine (Stp.ldc rfl agg37 rfl H mR cE ?_); simp only [pS])) | (with_reducible refine wpl rfl (ldQ (ty := 60) rfl ?_); first | (with_reducible refine (Stp.ldo rfl agg60 rfl H (by assumption) (by assumption) ?_); simp only [pS]) | (with_reducible refine (Stp.ldc rfl agg60 rfl H mR cE ?_); simp only [pS])))
          go_ret
          exact ⟨_, rfl, by rw [HV.out]; rfl, H.below⟩
      · have eP := eqPD_is a.p.1 a.p.2 b.p.1 b.p.2 false (by exact decide_eq_false g2)
        have HV : Hid (eSame a b = false) := Lib.hid (by simp [eSame, g0, g1, g2])
        clear g0 g1 g2
        go_enter Try.func27, Try.ntmps27
        go_wp2_with (first | (go_at_call 33; (with_reducible refine (rvsame_is a.x b.x _ _ _ _ _ _ _ _ _ _ _ _ _ _ (hx1.grow H.below) (hy1.grow H.below) E5.out).mono ?_); rintro e w1 ⟨v, rfl, hr⟩; obtain ⟨rfl, hb1⟩ := hr; replace H := H.grow hb1; clear hb1) | (with_reducible refine wpl rfl (dQ 34 rfl ?_); with_reducible refine (Stp.b2s (v := .slice h1.ba a.data.length h1.bc) (l := a.data) 34 rfl rfl rfl (HD1.out.grow H.below) ?_); simp only [pS]) | (with_reducible refine wpl rfl (dQ 37 rfl ?_); with_reducible refine (Stp.b2s (v := .slice h2.ba b.data.length h2.bc) (l := b.data) 37 rfl rfl rfl (HD2.out.grow H.below) ?_); simp only [pS]) | (with_reducible refine wpl rfl (dQ 2 rfl ?_); with_reducible refine (Stp.box 2 rfl rfl rfl H ?_); clear H; intro g2 w1 H; simp only [pS]; simp only [pE, nC, pS] at H) | (with_reducible refine wpl rfl (dQ 3 rfl ?_); with_reducible refine (Stp.box 3 rfl rfl rfl H ?_); clear H; intro g3 w1 H; simp only [pS]; simp only [pE, nC, pS] at H) | (with_reducible refine wpl rfl (ldQ (ty := 3) rfl ?_); first | (with_reducible refine (Stp.ldo rfl agg3 rfl H (by assumption) (by assumption) ?_); simp only [pS]) | (with_reducible refine (Stp.ldc rfl agg3 rfl H mR cE ?_); simp only [pS])) | (with_reducible refine wpl rfl (ldQ (ty := 41) rfl ?_); first | (with_reducible refine (Stp.ldor rfl agg41 size41 rfl H (by assumption) sZ (by assumption) ?_); simp only [pS]) | (with_reducible refine (Stp.ldr rfl agg41 size41 rfl H mR sZ ?_); simp only [pS]) | (with_reducible refine (Stp.ldl rfl agg41 size41 rfl H mR (by simp) ?_); simp only [pS]; simp only [List.drop_succ_cons, List.drop_zero, List.take_succ_cons, List.take_zero])) | (with_reducible refine wpl rfl (ldQ (ty := 27) rfl ?_); first | (with_reducible refine (Stp.ldor rfl agg27 size27 rfl H (by assumption) sZ (by assumption) ?_); simp only [pS]) | (with_reducible refine (Stp.ldr rfl agg27 size27 rfl H mR sZ ?_); simp only [pS]) | (with_reducible refine (Stp.ldl rfl agg27 size27 rfl H mR (by simp) ?_); simp only [pS]; simp only [List.drop_succ_cons, List.drop_zero, List.take_succ_cons, List.take_zero])) | (with_reducible refine wpl rfl (ldQ (ty := 37) rfl ?_); first | (with_reducible refine (Stp.ldo rfl agg37 rfl H (by assumption) (by assumption) ?_); simp only [pS]) | (with_reducible refine (Stp.ldc rfl agg37 rfl H mR cE ?_); simp only [pS])) | (with_reducible refine wpl rfl (ldQ (ty := 60) rfl ?_); first | (with_reducible refine (Stp.ldo rfl agg60 rfl H (by assumption) (by assumption) ?_); simp only [pS]) | (with_reducible refine (Stp.ldc rfl agg60 rfl H mR cE ?_); simp only [pS])))
        go_ret
        exact ⟨_, rfl, by rw [HV.out]; rfl, H.below⟩
    · have E5 := Lib.hid (show vSame a.x b.x = false by simpa using g1)
      have HV : Hid (eSame a b = false) := Lib.hid (by simp [eSame, g0, g1])
      clear g0 g1
      go_enter Try.func27, Try.ntmps27
      go_wp2_with (first | (go_at_call 33; (with_reducible refine (rvsame_is a.x b.x _ _ _ _ _ _ _ _ _ _ _ _ _ _ (hx1.grow H.below) (hy1.grow H.below) E5.out).mono ?_); rintro e w1 ⟨v, rfl, hr⟩; obtain ⟨rfl, hb1⟩ := hr; replace H := H.grow hb1; clear hb1) | (with_reducible refine wpl rfl (dQ 34 rfl ?_); with_reducible refine (Stp.b2s (v := .slice h1.ba a.data.length h1.bc) (l := a.data) 34 rfl rfl rfl (HD1.out.grow H.below) ?_); simp only [pS]) | (with_reducible refine wpl rfl (dQ 37 rfl ?_); with_reducible refine (Stp.b2s (v := .slice h2.ba b.data.length h2.bc) (l := b.data) 37 rfl rfl rfl (HD2.out.grow H.below) ?_); simp only [pS]) | (with_reducible refine wpl rfl (dQ 2 rfl ?_); with_reducible refine (Stp.box 2 rfl rfl rfl H ?_); clear H; intro g2 w1 H; simp only [pS]; simp only [pE, nC, pS] at H) | (with_reducible refine wpl rfl (dQ 3 rfl ?_); with_reducible refine (Stp.box 3 rfl rfl rfl H ?_); clear H; intro g3 w1 H; simp only [pS]; simp only [pE, nC, pS] at H) | (with_reducible refine wpl rfl (ldQ (ty := 3) rfl ?_); first | (with_reducible refine (Stp.ldo rfl agg3 rfl H (by assumption) (by assumption) ?_); simp only [pS]) | (with_reducible refine (Stp.ldc rfl agg3 rfl H mR cE ?_); simp only [pS])) | (with_reducible refine wpl rfl (ldQ (ty := 41) rfl ?_); first | (with_reducible refine (Stp.ldor rfl agg41 size41 rfl H (by assumption) sZ (by assumption) ?_); simp only [pS]) | (with_reducible refine (Stp.ldr rfl agg41 size41 rfl H mR sZ ?_); simp only [pS]) | (with_reducible refine (Stp.ldl rfl agg41 size41 rfl H mR (by simp) ?_); simp only [pS]; simp only [List.drop_succ_cons, List.drop_zero, List.take_succ_cons, List.take_zero])) | (with_reducible refine wpl rfl (ldQ (ty := 27) rfl ?_); first | (with_reducible refine (Stp.ldor rfl agg27 size27 rfl H (by assumption) sZ (by assumption) ?_); simp only [pS]) | (with_reducible refine (Stp.ldr rfl agg27 size27 rfl H mR sZ ?_); simp only [pS]) | (with_reducible refine (Stp.ldl rfl agg27 size27 rfl H mR (by simp) ?_); simp only [pS]; simp only [List.drop_succ_cons, List.drop_zero, List.take_succ_cons, List.take_zero])) | (with_reducible refine wpl rfl (ldQ (ty := 37) rfl ?_); first | (with_reducible refine (Stp.ldo rfl agg37 rfl H (by assumption) (by assumption) ?_); simp only [pS]) | (with_reducible refine (Stp.ldc rfl agg37 rfl H mR cE ?_); simp only [pS])) | (with_reducible refine wpl rfl (ldQ (ty := 60) rfl ?_); first | (with_reducible refine (Stp.ldo rfl agg60 rfl H (by assumption) (by assumption) ?_); simp only [pS]) | (with_reducible refine (Stp.ldc rfl agg60 rfl H mR cE ?_); simp only [pS])))
      go_ret
      exact ⟨_, rfl, by rw [HV.out]; rfl, H.below⟩
  · have iK : (a.kd == b.kd) = false := by simp [g0]
    have HV : Hid (eSame a b = false) := Lib.hid (by simp [eSame, g0])
    clear g0
    go_enter Try.func27, Try.ntmps27
    go_wp2_with (first | (go_at_call 33; (with_reducible refine (rvsame_is a.x b.x _ _ _ _ _ _ _ _ _ _ _ _ _ _ (hx1.grow H.below) (hy1.grow H.below) E5.out).mono ?_); rintro e w1 ⟨v, rfl, hr⟩; obtain ⟨rfl, hb1⟩ := hr; replace H := H.grow hb1; clear hb1) | (with_reducible refine wpl rfl (dQ 34 rfl ?_); with_reducible refine (Stp.b2s (v := .slice h1.ba a.data.length h1.bc) (l := a.data) 34 rfl rfl rfl (HD1.out.grow H.below) ?_); simp only [pS]) | (with_reducible refine wpl rfl (dQ 37 rfl ?_); with_reducible refine (Stp.b2s (v := .slice h2.ba b.data.length h2.bc) (l := b.data) 37 rfl rfl rfl (HD2.out.grow H.below) ?_); simp only [pS]) | (with_reducible refine wpl rfl (dQ 2 rfl ?_); with_reducible refine (Stp.box 2 rfl rfl rfl H ?_); clear H; intro g2 w1 H; simp only [pS]; simp only [pE, nC, pS] at H) | (with_reducible refine wpl rfl (dQ 3 rfl ?_); with_reducible refine (Stp.box 3 rfl rfl rfl H ?_); clear H; intro g3 w1 H; simp only [pS]; simp only [pE, nC, pS] at H) | (with_reducible refine wpl rfl (ldQ (ty := 3) rfl ?_); first | (with_reducible refine (Stp.ldo rfl agg3 rfl H (by assumption) (by assumption) ?_); simp only [pS]) | (with_reducible refine (Stp.ldc rfl agg3 rfl H mR cE ?_); simp only [pS])) | (with_reducible refine wpl rfl (ldQ (ty := 41) rfl ?_); first | (with_reducible refine (Stp.ldor rfl agg41 size41 rfl H (by assumption) sZ (by assumption) ?_); simp only [pS]) | (with_reducible refine (Stp.ldr rfl agg41 size41 rfl H mR sZ ?_); simp only [pS]) | (with_reducible refine (Stp.ldl rfl agg41 size41 rfl H mR (by simp) ?_); simp only [pS]; simp only [List.drop_succ_cons, List.drop_zero, List.take_succ_cons, List.take_zero])) | (with_reducible refine wpl rfl (ldQ (ty := 27) rfl ?_); first | (with_reducible refine (Stp.ldor rfl agg27 size27 rfl H (by assumption) sZ (by assumption) ?_); simp only [pS]) | (with_reducible refine (Stp.ldr rfl agg27 size27 rfl H mR sZ ?_); simp only [pS]) | (with_reducible refine (Stp.ldl rfl agg27 size27 rfl H mR (by simp) ?_); simp only [pS]; simp only [List.drop_succ_cons, List.drop_zero, List.take_succ_cons, List.take_zero])) | (with_reducible refine wpl rfl (ldQ (ty := 37) rfl ?_); first | (with_reducible refine (Stp.ldo rfl agg37 rfl H (by assumption) (by assumption) ?_); simp only [pS]) | (with_reducible refine (Stp.ldc rfl agg37 rfl H mR cE ?_); simp only [pS])) | (with_reducible refine wpl rfl (ldQ (ty := 60) rfl ?_); first | (with_reducible refine (Stp.ldo rfl agg60 rfl H (by assumption) (by assumption) ?_); simp only [pS]) | (with_reducible refine (Stp.ldc rfl agg60 rfl H mR cE ?_); simp only [pS])))
    go_ret
    exact ⟨_, rfl, by rw [HV.out]; rfl, H.below⟩
theorem rsev_is (a b : Ev) (h1 h2 : Hd) (e : Bool) (he : eSame a b = e) (w : World) (hx : EvG w (a, h1)) (hy : EvG w (b, h2)) (wa : ∀ x ∈ a.data, x < 256) (wb : ∀ x ∈ b.data, x < 256) :
    Calls Try.prog 27 #[.agg (evA a h1), .agg (evA b h2)] w (Ret fun v w' => v = .bool e ∧ Below w.heap.size w w') := by
  have := rsev_ok a b h1 h2 w hx hy wa wb
  rw [he] at this; exact this
theorem rsevs_is (aa ab : Option Addr) (ca cb : Nat) (a b : List Eh) {n m : Nat} (hna : a.length = n) (hnb : b.length = m) (r : Bool) (hr : decide (evD a = evD b) = r) (w : World) (ha : Sl w 9 n (.slice aa n ca) (elE a)) (hb : Sl w 9 m (.slice ab m cb) (elE b)) (hea : ∀ e ∈ a, EvG w e) (heb : ∀ e ∈ b, EvG w e) (hwa : ∀ e ∈ a, wfE e) (hwb : ∀ e ∈ b, wfE e) :
    Calls Try.prog 13 #[.slice aa n ca, .slice ab m cb] w (Ret fun v w' => v = .bool r ∧ Below w.heap.size w w') := by
  have H := St.init w
  obtain ⟨_, _, _, hma, _⟩ := id ha
  obtain ⟨_, _, _, hmb, _⟩ := id hb
  unfold maxLen at hma hmb
  have HEA := Lib.hid hea
  have HEB := Lib.hid heb
  have HWA := Lib.hid hwa
  have HWB := Lib.hid hwb
  have HR := Lib.hid hr
  have HL := Lib.hid hna
  have HM := Lib.hid hnb
  clear hea heb hwa hwb hr hna hnb
  by_cases hlen : n = m
  · subst hlen
    go_enter Try.func13, Try.ntmps13
    go_wp2_with fail
    go_loopw [5] (fun i wr => ∃ k : Nat, k ≤ n ∧ i = .int .i64 k ∧ Hid ((evD a).take k = (evD b).take k) ∧ St w.heap.size w wr []) (fun i _ => n - (intOf i).toNat)
    case atStart => exact ⟨0, Nat.zero_le _, rfl, Lib.hid (by simp), H⟩
    case round =>
      clear H
      obtain ⟨k, hk, rfl, HT, H⟩ := hrel
      by_cases hlt : k < n
      · have hl1 : k < a.length := by rw [HL.out]; exact hlt
        have hm1 : k < b.length := by rw [HM.out]; exact hlt
        obtain ⟨b1, o1, rfl, hb1⟩ := ha.addr (by omega)
        obtain ⟨b2, o2, rfl, hb2⟩ := hb.addr (by omega)
        have hc1 := ha.cell hlt
        have hc2 := hb.cell hlt
        rw [elE_at hl1] at hc1
        rw [elE_at hm1] at hc2
        have HE1 := Lib.hid (HEA.out _ (List.getElem_mem hl1))
        have HE2 := Lib.hid (HEB.out _ (List.getElem_mem hm1))
        have HW1 := Lib.hid (HWA.out _ (List.getElem_mem hl1)).data
        have HW2 := Lib.hid (HWB.out _ (List.getElem_mem hm1)).data
        have HT1 := Lib.hid (evD_snoc (List.take_succ_eq_append_getElem hl1))
        have HT2 := Lib.hid (evD_snoc (List.take_succ_eq_append_getElem hm1))
        obtain ⟨⟨x, hx⟩, hxe⟩ : ∃ x, a[k] = x := ⟨_, rfl⟩
        obtain ⟨⟨z, hz⟩, hze⟩ : ∃ z, b[k] = z := ⟨_, rfl⟩
        rw [hxe] at hc1 HE1 HW1 HT1
        rw [hze] at hc2 HE2 HW2 HT2
        simp only at hc1 hc2 HW1 HW2 HT1 HT2
        have kli : (k : Int) < (n : Int) := by omega
        obtain ⟨ee, hee⟩ : ∃ ee, eSame x z = ee := ⟨_, rfl⟩
        have HE := Lib.hid hee
        clear hee hl1 hm1 hxe hze
        cases ee
        · have HV : Hid (r = false) := Lib.hid (by
            rw [← HR.out]
            refine decide_eq_false (fun e => ?_)
            have e2 : (evD a).take (k + 1) = (evD b).take (k + 1) := by rw [e]
            rw [HT1.out, HT2.out, HT.out] at e2
            have e3 := List.append_cancel_left e2
            injection e3 with e4 _
            have := HE.out
            rw [eSame_iff.2 e4] at this
            cases this)
          go_wp2_with fail
          refine rg_begin 10 rfl (S := fun W => St _ _ W ([] : List Res)) (by kernel_rfl) (H.drew.sub sU) ?_
          replace H := H.drew
          have HS := H
          refine rg_take (i := 0) rfl kR kR kR (Yld.move rfl rfl) (H.sub sU) ?_; simp only [pS, pE]
          refine rg_take (i := 1) rfl kR kR kR (Yld.move rfl rfl) (H.sub sU) ?_; simp only [pS, pE]
          refine rg_take (i := 2) rfl kR kR kR (Yld.o rfl) (H.sub sU) ?_; simp only [pS]
          first | (refine rg_take (i := 3) rfl kR kR kR (Yld.ldor rfl rfl agg62 size62 rfl (by assumption) sZ (by assumption)) (H.sub sU) ?_; simp only [pS]) | (refine rg_take (i := 3) rfl kR kR kR (Yld.ldr rfl rfl agg62 size62 rfl mR sZ) (H.sub sU) ?_; simp only [pS]) | (refine rg_take (i := 3) rfl kR kR kR (Yld.ldl rfl rfl agg62 size62 rfl mR (by simp)) (H.sub sU) ?_; simp only [pS]; simp only [List.drop_succ_cons, List.drop_zero, List.take_succ_cons, List.take_zero])
          refine rg_take (i := 4) rfl kR kR kR (Yld.move rfl rfl) (H.sub sU) ?_; simp only [pS, pE]
          refine rg_take (i := 5) rfl kR kR kR (Yld.move rfl rfl) (H.sub sU) ?_; simp only [pS, pE]
          refine rg_take (i := 6) rfl kR kR kR (Yld.o rfl) (H.sub sU) ?_; simp only [pS]
          first | (refine rg_take (i := 7) rfl kR kR kR (Yld.ldor rfl rfl agg62 size62 rfl (by assumption) sZ (by assumption)) (H.sub sU) ?_; simp only [pS]) | (refine rg_take (i := 7) rfl kR kR kR (Yld.ldr rfl rfl agg62 size62 rfl mR sZ) (H.sub sU) ?_; simp only [pS]) | (refine rg_take (i := 7) rfl kR kR kR (Yld.ldl rfl rfl agg62 size62 rfl mR (by simp)) (H.sub sU) ?_; simp only [pS]; simp only [List.drop_succ_cons, List.drop_zero, List.take_succ_cons, List.take_zero])
          refine rg_one (i := 8) (by kernel_rfl) rfl rfl (fun K hK => ?_)
          refine wp_callf rfl ent27 (rsev_is x z hx hz _ HE.out _ (HE1.out.grow H.below) (HE2.out.grow H.below) HW1.out HW2.out) rfl (fun v w1 hr => ?_)
          obtain ⟨rfl, hb1⟩ := hr
          replace H := H.grow hb1
          clear hb1
          clear HS
          have HS := H
          refine hK.out _ _ (H.sub sU) ?_
          clear hK K
          simp only [pS]
          refine rg_take (i := 9) rfl kR kR kR (Yld.o rfl) (H.sub sU) ?_; simp only [pS]
          refine rg_done (by kernel_rfl) ?_
          go_wp2_with fail
          go_ret
          exact ⟨_, rfl, by rw [HV.out]; rfl, H.below⟩
        · have HV : Hid ((evD a).take (k + 1) = (evD b).take (k + 1)) := Lib.hid (by rw [HT1.out, HT2.out, HT.out, eSame_iff.1 HE.out])
          go_wp2_with fail
          refine rg_begin 10 rfl (S := fun W => St _ _ W ([] : List Res)) (by kernel_rfl) (H.drew.sub sU) ?_
          replace H := H.drew
          have HS := H
          refine rg_take (i := 0) rfl kR kR kR (Yld.move rfl rfl) (H.sub sU) ?_; simp only [pS, pE]
          refine rg_take (i := 1) rfl kR kR kR (Yld.move rfl rfl) (H.sub sU) ?_; simp only [pS, pE]
          refine rg_take (i := 2) rfl kR kR kR (Yld.o rfl) (H.sub sU) ?_; simp only [pS]
          first | (refine rg_take (i := 3) rfl kR kR kR (Yld.ldor rfl rfl agg62 size62 rfl (by assumption) sZ (by assumption)) (H.sub sU) ?_; simp only [pS]) | (refine rg_take (i := 3) rfl kR kR kR (Yld.ldr rfl rfl agg62 size62 rfl mR sZ) (H.sub sU) ?_; simp only [pS]) | (refine rg_take (i := 3) rfl kR kR kR (Yld.ldl rfl rfl agg62 size62 rfl mR (by simp)) (H.sub sU) ?_; simp only [pS]; simp only [List.drop_succ_cons, List.drop_zero, List.take_succ_cons, List.take_zero])
          refine rg_take (i := 4) rfl kR kR kR (Yld.move rfl rfl) (H.sub sU) ?_; simp only [pS, pE]
          refine rg_take (i := 5) rfl kR kR kR (Yld.move rfl rfl) (H.sub sU) ?_; simp only [pS, pE]
          refine rg_take (i := 6) rfl kR kR kR (Yld.o rfl) (H.sub sU) ?_; simp only [pS]
          first | (refine rg_take (i := 7) rfl kR kR kR (Yld.ldor rfl rfl agg62 size62 rfl (by assumption) sZ (by assumption)) (H.sub sU) ?_; simp only [pS]) | (refine rg_take (i := 7) rfl kR kR kR (Yld.ldr rfl rfl agg62 size62 rfl mR sZ) (H.sub sU) ?_; simp only [pS]) | (refine rg_take (i := 7) rfl kR kR kR (Yld.ldl rfl rfl agg62 size62 rfl mR (by simp)) (H.sub sU) ?_; simp only [pS]; simp only [List.drop_succ_cons, List.drop_zero, List.take_succ_cons, List.take_zero])
          refine rg_one (i := 8) (by kernel_rfl) rfl rfl (fun K hK => ?_)
          refine wp_callf rfl ent27 (rsev_is x z hx hz _ HE.out _ (HE1.out.grow H.below) (HE2.out.grow H.below) HW1.out HW2.out) rfl (fun v w1 hr => ?_)
          obtain ⟨rfl, hb1⟩ := hr
          replace H := H.grow hb1
          clear hb1
          clear HS
          have HS := H
          refine hK.out _ _ (H.sub sU) ?_
          clear hK K
          simp only [pS]
          refine rg_take (i := 9) rfl kR kR kR (Yld.o rfl) (H.sub sU) ?_; simp only [pS]
          refine rg_done (by kernel_rfl) ?_
          go_wp2_with fail
          go_roundw
          case rel => exact ⟨k + 1, by omega, by go_num, HV, H.sub sU⟩
          case measure => simp [intOf]; omega
      · obtain rfl : k = n := by omega
        have HV : Hid (r = true) := Lib.hid (by
          rw [← HR.out]
          have h := HT.out
          rw [List.take_of_length_le (by rw [evD_len, HL.out]; omega), List.take_of_length_le (by rw [evD_len, HM.out]; omega)] at h
          exact decide_eq_true h)
        go_wp2_with fail
        go_ret
        exact ⟨_, rfl, by rw [HV.out]; rfl, H.below⟩
  · have hli : ((n : Int) != (m : Int)) = true := by simp; omega
    have HV : Hid (r = false) := Lib.hid (by
      rw [← HR.out]
      refine decide_eq_false (fun e => hlen ?_)
      have := congrArg List.length e
      rw [evD_len, evD_len, HL.out, HM.out] at this
      exact this)
    clear hlen
    go_enter Try.func13, Try.ntmps13
    go_wp2_with fail
    go_ret
    exact ⟨_, rfl, by rw [HV.out]; rfl, H.below⟩
/-- Are events a beginning of others, as the reference tells? -/
theorem rbegins_is (aa ab : Option Addr) (ca cb : Nat) (a b : List Eh) {n m : Nat} (hna : a.length = n) (hnb : b.length = m) (r0 : Bool) (hr0 : begD (evD a) (evD b) = r0) (hcap : m ≤ cb) (w : World) (ha : Sl w 9 n (.slice aa n ca) (elE a)) (hb : Sl w 9 m (.slice ab m cb) (elE b)) (hea : ∀ e ∈ a, EvG w e) (heb : ∀ e ∈ b, EvG w e) (hwa : ∀ e ∈ a, wfE e) (hwb : ∀ e ∈ b, wfE e) :
    Calls Try.prog 15 #[.slice aa n ca, .slice ab m cb] w (Ret fun v w' => v = .bool r0 ∧ Below w.heap.size w w') := by
  have H := St.init w
  have HEA := Lib.hid hea
  have HWA := Lib.hid hwa
  have HLA := Lib.hid hna
  have HA := Lib.hid ha
  obtain ⟨_, _, _, hma, _⟩ := id ha
  obtain ⟨_, _, _, hmb, _⟩ := id hb
  unfold maxLen at hma hmb
  by_cases hle : n ≤ m
  · have hbl : (b.take n).length = n := by rw [List.length_take, hnb]; omega
    have HLB := Lib.hid hbl
    have HB : Hid (Sl w 9 n (.slice ab n cb) (elE (b.take n))) := Lib.hid (by
      have := Sl.takeE (n := n) (b := b) (ab := ab) (cb := cb) (w := w) (by rw [hnb]; exact hb) (by omega)
      rw [hbl] at this; exact this)
    obtain ⟨r, hr⟩ : ∃ r, decide (evD a = evD (b.take n)) = r := ⟨_, rfl⟩
    have HR := Lib.hid hr
    have HV : Hid (r0 = r) := Lib.hid (by
      rw [← hr0, ← hr]
      unfold begD
      rw [evD_len, evD_len, hna, hnb, decide_eq_true hle, evD_take]; rfl)
    have HEB : Hid (∀ e ∈ b.take n, EvG w e) := Lib.hid (fun e he => heb e (List.mem_of_mem_take he))
    have HWB : Hid (∀ e ∈ b.take n, wfE e) := Lib.hid (fun e he => hwb e (List.mem_of_mem_take he))
    have hcn : n ≤ cb := Nat.le_trans hle hcap
    have hli : ¬ (m : Int) < (n : Int) := by omega
    clear ha hb hea heb hwa hwb hr hr0 hna hnb hbl
    go_enter Try.func15, Try.ntmps15
    go_wp2_with (first | (go_at_call 13; (with_reducible refine (rsevs_is aa ab ca cb a (b.take n) HLA.out HLB.out r HR.out _ (HA.out.grow H.below) (HB.out.grow H.below) (fun e he => (HEA.out e he).grow H.below) (fun e he => (HEB.out e he).grow H.below) HWA.out HWB.out).mono ?_); rintro e w1 ⟨v, rfl, hr⟩; obtain ⟨rfl, hb1⟩ := hr; replace H := H.grow hb1; clear hb1))
    go_ret
    exact ⟨_, rfl, by rw [HV.out]; rfl, H.below⟩
  · have hli : (m : Int) < (n : Int) := by omega
    have HV : Hid (r0 = false) := Lib.hid (by
      rw [← hr0]
      unfold begD
      rw [evD_len, evD_len, hna, hnb, decide_eq_false hle]; rfl)
    clear ha hb hea heb hwa hwb hr0 hna hnb hle hcap
    go_enter Try.func15, Try.ntmps15
    go_wp2_with fail
    go_ret
    exact ⟨_, rfl, by rw [HV.out]; rfl, H.below⟩
end Go.Proofs.Ytbepaafgcbgmfaa
