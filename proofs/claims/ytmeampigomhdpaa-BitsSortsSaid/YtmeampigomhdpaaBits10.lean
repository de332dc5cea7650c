/- The statement BitsReads of layer 1 (bits), proved; no condition: the law's walk, and the row round it. -/
import Derived.Test.YtmeampigomhdpaaBits8
import Derived.Test.YtmeampigomhdpaaBits9
namespace Go.Proofs.Ytmeampigomhdpaa
open Go.ChangeShapes Go.WideShapes Go.ChangeAt Go.RowKit Go.Deep
set_option linter.unusedVariables false
set_option linter.unusedSimpArgs false
theorem cap_in {H : Type} {enc : TypeId × Value → H} {P : Program} {W : World} {base : Nat} {t e : TypeId} {v : Value} {d : DataW H} {p : List MemPlace} (ht : P.underlying t = some (.slice e)) (hv : Value.okWide P W .any base t v) (h : DataW.Trod enc P W 0 (fun _ => true) true t v d p) :
    ∀ (a : Option Addr) (n c : Nat), v = .slice a n c → n ≤ c := by
  intro a n c e0
  subst e0
  obtain ⟨fuel, hf⟩ := h
  rcases open_slice ht hf with ⟨hcs, _⟩ | ⟨a, len, cap, m, n, D, Pl, hcs, _, hl, hm, hmm, _, hi⟩
  · simp [Value.cells] at hcs
    omega
  · simp [Value.cells] at hcs
    omega
theorem take_sl {w : World} {a : Option Addr} {c : Nat} {l : List Nat} (W : Nat) (h : Sl w 1 l.length (.slice a l.length c) (elB l)) (hW : W ≤ l.length) : Sl w 1 (l.take W).length (.slice a (l.take W).length c) (elB (l.take W)) := by
  have hm : (l.take W).length = W := by rw [List.length_take]; exact Nat.min_eq_left hW
  obtain ⟨a', c', e, hml, hc⟩ := h
  injection e with e1 e2 e3
  subst e1
  refine ⟨a, c, rfl, by rw [hm]; exact Nat.le_trans hW hml, fun h0 => ?_⟩
  rw [hm] at h0
  obtain ⟨b, off, rfl, hb, hcell⟩ := hc (by omega)
  refine ⟨b, off, rfl, hb, fun i hi j hj => ?_⟩
  rw [hm] at hi
  rw [hcell i (by omega) j hj]
  simp [elB, List.getD, List.getElem?_take, hi]
theorem get_no (v : Value) (l : List Nat) (width : Int) (hw : wide width = false) (w : World) (hs : Sl w 1 l.length v (elB l)) :
    Calls Try.prog 27 #[v, .int .i64 width] w (Ret fun v w' => v = .tuple #[.int .u64 0, .int .i64 1] ∧ Below w.heap.size w w') := by
  have HW := Lib.hid hw
  clear hw
  have H := St.init w
  go_enter Try.func27, Try.ntmps27
  go_wp2_with (first | (go_at_call 39; refine (wide_ok _ _).mono ?_; rintro e w1 ⟨v, rfl, hr⟩; obtain ⟨rfl, hb1⟩ := hr; replace H := H.grow hb1; clear hb1; rw [HW.out]) | (with_reducible refine wpl rfl (Stp.ldc rfl agg5 rfl H (by repeat (first | exact List.mem_cons_self | apply List.mem_cons_of_mem)) (by first | (repeat (first | exact lit0 _ _ | apply lits)) | rfl | assumption) ?_); simp only [Act.put, List.setIfInBounds_toArray, List.set_cons_zero, List.set_cons_succ]) | (with_reducible refine wpl rfl (Stp.ldo rfl agg5 rfl H (by assumption) (by assumption) ?_); simp only [Act.put, List.setIfInBounds_toArray, List.set_cons_zero, List.set_cons_succ]))
  go_ret2
  exact ⟨_, rfl, rfl, H.below⟩
theorem get_short (v : Value) (l : List Nat) (W : Nat) (hw : wide W = true) (hl : l.length < W) (w : World) (hs : Sl w 1 l.length v (elB l)) :
    Calls Try.prog 27 #[v, .int .i64 (W : Int)] w (Ret fun v w' => v = .tuple #[.int .u64 0, .int .i64 2] ∧ Below w.heap.size w w') := by
  have HW := Lib.hid hw
  clear hw
  have hs' := hs
  obtain ⟨a, c, rfl, hm⟩ := hs'.len
  have H := St.init w
  go_enter Try.func27, Try.ntmps27
  go_wp2_with (first | (go_at_call 39; refine (wide_ok _ _).mono ?_; rintro e w1 ⟨v, rfl, hr⟩; obtain ⟨rfl, hb1⟩ := hr; replace H := H.grow hb1; clear hb1; rw [HW.out]) | (with_reducible refine wpl rfl (Stp.ldc rfl agg5 rfl H (by repeat (first | exact List.mem_cons_self | apply List.mem_cons_of_mem)) (by first | (repeat (first | exact lit0 _ _ | apply lits)) | rfl | assumption) ?_); simp only [Act.put, List.setIfInBounds_toArray, List.set_cons_zero, List.set_cons_succ]) | (with_reducible refine wpl rfl (Stp.ldo rfl agg5 rfl H (by assumption) (by assumption) ?_); simp only [Act.put, List.setIfInBounds_toArray, List.set_cons_zero, List.set_cons_succ]))
  go_ret2
  exact ⟨_, rfl, rfl, H.below⟩
set_option maxRecDepth 100000 in
set_option maxHeartbeats 1000000 in
theorem law_reads (v : Value) (l : List Nat) (hx : ∀ x ∈ l, x < 256) (width : Int) (w : World) (hs : Sl w 1 l.length v (elB l)) (hcap : ∀ (a : Option Addr) (n c : Nat), v = .slice a n c → n ≤ c) :
    Calls Try.prog 8 #[v, .int .i64 width] w (Ret fun v w' => v = .bool true ∧ Below w.heap.size w w') := by
  have H := St.init w
  have hs' := hs
  obtain ⟨ad, c, rfl, hm⟩ := hs'.len
  have hc := hcap _ _ _ rfl
  clear hcap
  have HX := Lib.hid hx
  clear hx
  cases hw : wide width
  · have HW := Lib.hid hw
    clear hw
    go_enter Try.func8, Try.ntmps8
    go_wp2_with (first | (go_at_call 13; refine (awake_ok _).mono ?_; rintro e w1 ⟨v, rfl, hr⟩; obtain ⟨rfl, hb1⟩ := hr; replace H := H.grow hb1; clear hb1) | (go_at_call 27; refine (get_no _ l _ HW.out _ (hs.grow H.below)).mono ?_; rintro e w1 ⟨v, rfl, hr⟩; obtain ⟨rfl, hb1⟩ := hr; replace H := H.grow hb1; clear hb1) | (go_at_call 16; refine (rwidth_ok _ _).mono ?_; rintro e w1 ⟨v, rfl, hr⟩; obtain ⟨rfl, hb1⟩ := hr; replace H := H.grow hb1; clear hb1; rw [HW.out]))
    go_ret
    exact ⟨_, rfl, rfl, H.below⟩
  · obtain ⟨k, rfl⟩ : ∃ k : Nat, width = k := ⟨width.toNat, by simp [wide] at hw; omega⟩
    have hk : 1 ≤ k ∧ k ≤ 8 := by simp [wide] at hw; omega
    obtain ⟨hk1, hk8⟩ := hk
    have HW := Lib.hid hw
    clear hw
    by_cases hlt : l.length < k
    · go_enter Try.func8, Try.ntmps8
      go_wp2_with (first | (go_at_call 13; refine (awake_ok _).mono ?_; rintro e w1 ⟨v, rfl, hr⟩; obtain ⟨rfl, hb1⟩ := hr; replace H := H.grow hb1; clear hb1) | (go_at_call 27; refine (get_short _ l k HW.out hlt _ (hs.grow H.below)).mono ?_; rintro e w1 ⟨v, rfl, hr⟩; obtain ⟨rfl, hb1⟩ := hr; replace H := H.grow hb1; clear hb1) | (go_at_call 16; refine (rwidth_ok _ _).mono ?_; rintro e w1 ⟨v, rfl, hr⟩; obtain ⟨rfl, hb1⟩ := hr; replace H := H.grow hb1; clear hb1; rw [HW.out]))
      go_ret
      exact ⟨_, rfl, rfl, H.below⟩
    · have hge : k ≤ l.length := by omega
      have htl : (l.take k).length = k := by rw [List.length_take]; exact Nat.min_eq_left hge
      have hts := take_sl k hs hge
      have hnum : ∀ w' : World, Below w.heap.size w w' → Calls Try.prog 28 #[.slice ad k c] w' (Ret fun v w'' => v = .int .u64 ((numB (l.take k) : Nat) : Int) ∧ Below w'.heap.size w' w'') := fun w' hb => by
        have := number_ok _ (l.take k) (by omega) (fun x hm => HX.out x (List.mem_of_mem_take hm)) w' (hts.grow hb)
        rw [htl] at this; exact this
      have HNM := Lib.hid hnum
      have HTS := Lib.hid hts
      have HTL := Lib.hid htl
      clear hnum hts htl
      obtain ⟨nb, hnb⟩ : ∃ nb : Nat, nb = numB (l.take k) := ⟨_, rfl⟩
      have hget : ∀ w' : World, Below w.heap.size w w' → Calls Try.prog 27 #[.slice ad l.length c, .int .i64 (k : Int)] w' (Ret fun v w'' => v = .tuple #[.int .u64 (nb : Int), .int .i64 0] ∧ Below w'.heap.size w' w'') := fun w' hb => by
        rw [hnb]; exact get_ok ad c l k HW.out hge hc HX.out w' (hs.grow hb)
      have HGT := Lib.hid hget
      have hnum := HNM.out
      rw [← hnb] at hnum
      have HNM := Lib.hid hnum
      clear hget hnum hnb
      go_enter Try.func8, Try.ntmps8
      go_wp2_with (first | (go_at_call 13; refine (awake_ok _).mono ?_; rintro e w1 ⟨v, rfl, hr⟩; obtain ⟨rfl, hb1⟩ := hr; replace H := H.grow hb1; clear hb1) | (go_at_call 27; refine (HGT.out _ H.below).mono ?_; rintro e w1 ⟨v, rfl, hr⟩; obtain ⟨rfl, hb1⟩ := hr; replace H := H.grow hb1; clear hb1) | (go_at_call 16; refine (rwidth_ok _ _).mono ?_; rintro e w1 ⟨v, rfl, hr⟩; obtain ⟨rfl, hb1⟩ := hr; replace H := H.grow hb1; clear hb1; rw [HW.out]) | (go_at_call 28; refine (HNM.out _ H.below).mono ?_; rintro e w1 ⟨v, rfl, hr⟩; obtain ⟨rfl, hb1⟩ := hr; replace H := H.grow hb1; clear hb1))
      go_ret
      exact ⟨_, rfl, rfl, H.below⟩
set_option maxRecDepth 100000 in
theorem bitsReads_lifted (os : Os) (started : os.Started) (H : Type) (enc : TypeId × Value → H) :
    ReturnsInHanded {} Try.checked os 8 .any (Rows.bitsReadsSpec.pre6 enc Try.prog Try.f8 Rows.bitsReadsRow.domain false) (Rows.bitsReadsSpec.post enc Try.prog Try.f8 false true false false) := by
  refine law_lifted (C := Try.checked) own started (by kernel_rfl) Try.func8 laidOut rfl Try.underlying4 rfl (by kernel_rfl) (fun ds hd => ?_)
    (ChangeSpec.witness6 (enc := enc) (C := Try.checked) false ⟨#[], #[.slice none 0 0, .int .i64 0], []⟩ 8 (by kernel_rfl) (by kernel_rfl) (by kernel_rfl) (by kernel_rfl)) ?_
  · match ds, hd with
    | [d0, d1], _ => exact ⟨rfl, rfl, rfl⟩
  intro W base args ds p hval hA
  rw [Try.params8] at hA hval
  obtain ⟨v0, vs0, d0, ds0, p0, q0, hargs, rfl, rfl, h0, r0⟩ := trodAll_cons hA
  obtain ⟨v1, vs1, d1, ds1, p1, q1, rfl, rfl, rfl, h1, r1⟩ := trodAll_cons r0
  obtain ⟨rfl, rfl, rfl⟩ := trodAll_nil r1
  obtain rfl : args = #[v0, v1] := by cases args; simp_all
  obtain ⟨l, lb, hs⟩ := open_bs (hval 0 22 v0 rfl rfl) h0
  have hcap := cap_in Try.underlying22 (hval 0 22 v0 rfl rfl) h0
  obtain ⟨wd, rfl, _, _, wdw⟩ := open_int Try.underlying3 (hval 1 3 v1 rfl rfl) h1
  exact law_reads _ l lb wd W hs hcap
theorem bitsReads_over : Rows.bitsReadsRow.holds Try.pinned (OpenSpec.ofChange Rows.bitsReadsSpec) :=
  OpenClaim.holds_of_wide 8 Try.f8 rfl rfl rfl rfl rfl rfl rfl ⟨rfl, rfl, rfl, rfl, rfl⟩ rfl rfl rfl rfl rfl (by kernel_rfl) Try.func8 (by kernel_rfl)
    (of_decide_eq_true (by kernel_rfl)) (by unfold Func.isWrapper; first | (rw [if_pos (by decide +kernel)]; kernel_rfl) | (rw [if_neg (by decide +kernel)]; exact ⟨rfl, rfl⟩))
    (fun os started H enc _ => bitsReads_lifted os started H enc)
theorem bitsReads_holds : Rows.BitsReadsSaid := bitsReads_over
#print axioms bitsReads_holds
end Go.Proofs.Ytmeampigomhdpaa
