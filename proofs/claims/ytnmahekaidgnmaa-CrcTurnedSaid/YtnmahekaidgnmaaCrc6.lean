/- The statements CrcSeals and CrcBack of layer 2 (crc), proved; no condition: the laws' walks, and the rows round them. -/
import Derived.Test.YtnmahekaidgnmaaCrc5
namespace Go.Proofs.Ytnmahekaidgnmaa
open Go.ChangeShapes Go.WideShapes Go.ChangeAt Go.RowKit Go.Deep
set_option linter.unusedVariables false
set_option linter.unusedSimpArgs false
theorem own_cap {w : World} {b e size m c : Nat} {A : Option Addr} {xs : List Value} (h : w.ownsRow b e size (.slice A m c) m xs) : m ≤ c := by
  rcases h.2 with ⟨e1, e2⟩ | ⟨g, cap, cur, e1, hbg, hgc, hnc, hcm, hcs, htake⟩
  · omega
  · cases e1; exact hnc
theorem sl_eq {w : World} {l : List Nat} {n : Nat} {a : Option Addr} {c : Nat} (hl : l.length = n) (h : Sl w 1 l.length (.slice a n c) (elB l)) : Sl w 1 l.length (.slice a l.length c) (elB l) := by
  rw [hl] at h ⊢; exact h
theorem take_seal (l : List Nat) : (sealL l).take l.length = l := by simp [sealL]
theorem drop_seal (l : List Nat) : (sealL l).drop l.length = putB (sumC l) 4 4 := by simp [sealL]
theorem num_putB4 {n : Nat} (h : n < 4294967296) : numB (putB n 4 4) = n := by
  rw [numB_put n 4 4 (Nat.le_refl _), Nat.sub_self, Nat.pow_zero, Nat.div_one]
  exact Nat.mod_eq_of_lt h
theorem seal_fits {l : List Nat} (hx : ∀ x ∈ l, x < 256) : numB ((sealL l).drop l.length) = sumC ((sealL l).take l.length) := by
  rw [take_seal, drop_seal, num_putB4 (sumC_lt hx)]
attribute [local irreducible] sealL sumC
set_option maxRecDepth 100000 in
set_option maxHeartbeats 1000000 in
theorem law_back (v : Value) (l : List Nat) (hx : ∀ x ∈ l, x < 256) (w : World) (hs : Sl w 1 l.length v (elB l)) :
    Calls Try.prog 6 #[v] w (Ret fun v w' => v = .bool true ∧ Below w.heap.size w w') := by
  have H := St.init w
  have hs' := hs
  obtain ⟨ad, c, rfl, hm⟩ := hs'.len
  have HX := Lib.hid hx
  have HF := Lib.hid (seal_fits hx)
  have HB := Lib.hid (sealL_byte hx)
  have HL := Lib.hid (sealL_len l)
  have HT := Lib.hid (take_seal l)
  clear hx
  go_enter Try.func6, Try.ntmps6
  by_cases h10 : 1000 < l.length
  · go_wp2_with (first | (go_at_call 8; refine (awake_ok _).mono ?_; rintro e w1 ⟨v, rfl, hr⟩; obtain ⟨rfl, hb1⟩ := hr; replace H := H.grow hb1; clear hb1))
    go_ret
    exact ⟨_, rfl, rfl, H.below⟩
  · go_wp2_with (first | (go_at_call 8; refine (awake_ok _).mono ?_; rintro e w1 ⟨v, rfl, hr⟩; obtain ⟨rfl, hb1⟩ := hr; replace H := H.grow hb1; clear hb1) | (go_at_call 17; refine (seal_ok _ l (by omega) HX.out _ (hs.grow H.below)).mono ?_; rintro e w1 ⟨v, rfl, hr⟩; obtain ⟨⟨ap, cp, rfl⟩, ho, hb1⟩ := hr; have hcp := own_cap ho; replace H := H.new hb1 (slc_sound ho) (fun g hg => (ho.lt g hg).1); clear hb1 ho) | (go_at_call 18; refine (open_good ap (l.length + 4) l.length cp (sealL l) HL.out rfl hcp (by rw [HL.out]; omega) HB.out HF.out _ (sl_eq HL.out (own_slk (l := sealL l) (H.getSlc (by repeat (first | exact List.mem_cons_self | apply List.mem_cons_of_mem))) HL.out.symm (by rw [HL.out]; omega)))).mono ?_; rintro e w1 ⟨v, rfl, hr⟩; obtain ⟨⟨ar, cr, rfl, ho⟩, hb1⟩ := hr; replace H := H.new hb1 (slc_sound ho) (fun g hg => (ho.lt g hg).1); clear hb1 ho; rw [HT.out] at H))
    have s1 := own_slk (l := l) (H.getSlc (v := .slice ar l.length cr) (n := l.length) (xs := bv l) (by repeat (first | exact List.mem_cons_self | apply List.mem_cons_of_mem))) rfl (by omega)
    refine (same_ok _ _ l l _ s1 (hs.grow H.below)).mono ?_
    rintro e w1 ⟨v, rfl, rfl, hb1⟩
    replace H := H.grow hb1
    clear hb1 s1
    rw [beq_self_eq_true]
    go_wp2_with (first | (go_at_call 8; refine (awake_ok _).mono ?_; rintro e w1 ⟨v, rfl, hr⟩; obtain ⟨rfl, hb1⟩ := hr; replace H := H.grow hb1; clear hb1))
    go_ret
    exact ⟨_, rfl, rfl, H.below⟩
set_option maxRecDepth 100000 in
set_option maxHeartbeats 1000000 in
theorem law_seals (v : Value) (l : List Nat) (hx : ∀ x ∈ l, x < 256) (w : World) (hs : Sl w 1 l.length v (elB l)) (hcap : ∀ (x : Option Addr) (n c : Nat), v = .slice x n c → n ≤ c) :
    Calls Try.prog 5 #[v] w (Ret fun v w' => v = .bool true ∧ Below w.heap.size w w') := by
  have H := St.init w
  have hs' := hs
  obtain ⟨ad, c, rfl, hm⟩ := hs'.len
  have hc := hcap _ _ _ rfl
  clear hcap
  have HX := Lib.hid hx
  have HB := Lib.hid (sealL_byte hx)
  clear hx
  by_cases h10 : 1000 < l.length
  · go_enter Try.func5, Try.ntmps5
    go_wp2_with (first | (go_at_call 8; refine (awake_ok _).mono ?_; rintro e w1 ⟨v, rfl, hr⟩; obtain ⟨rfl, hb1⟩ := hr; replace H := H.grow hb1; clear hb1))
    go_ret
    exact ⟨_, rfl, rfl, H.below⟩
  by_cases h4 : l.length < 4
  · go_enter Try.func5, Try.ntmps5
    go_wp2_with (first | (go_at_call 8; refine (awake_ok _).mono ?_; rintro e w1 ⟨v, rfl, hr⟩; obtain ⟨rfl, hb1⟩ := hr; replace H := H.grow hb1; clear hb1) | (go_at_call 9; refine (lent_ok _ l (by omega) _ (hs.grow H.below)).mono ?_; rintro e w1 ⟨v, rfl, hr⟩; obtain ⟨g0, rfl, hg, hge, hb1⟩ := hr; replace H := H.new hb1 (row_sound hg) (fun k hk => by cases hk; exact hge); clear hb1 hg hge) | (go_at_call 17; refine (seal_ok _ l (by omega) HX.out _ (lent_sl (H.getRow (t := 5) (by repeat (first | exact List.mem_cons_self | apply List.mem_cons_of_mem))) (by omega))).mono ?_; rintro e w1 ⟨v, rfl, hr⟩; obtain ⟨⟨ap, cp, rfl⟩, ho, hb1⟩ := hr; have hcp := own_cap ho; replace H := H.new hb1 (slc_sound ho) (fun g hg => (ho.lt g hg).1); clear hb1 ho) | (go_at_call 18; refine (open_short _ l.length _ h4 _).mono ?_; rintro e w1 ⟨v, rfl, hr⟩; obtain ⟨rfl, hb1⟩ := hr; replace H := H.grow hb1; clear hb1) | (go_at_call 19; refine (ropen_short _ l.length _ h4 _).mono ?_; rintro e w1 ⟨v, rfl, hr⟩; obtain ⟨rfl, hb1⟩ := hr; replace H := H.grow hb1; clear hb1) | (go_at_call 21; refine (rseal_ok _ l (by omega) HX.out _ (hs.grow H.below)).mono ?_; rintro e w1 ⟨v, rfl, hr⟩; obtain ⟨⟨aq, cq, rfl⟩, ho, hb1⟩ := hr; have hcq := own_cap ho; replace H := H.new hb1 (slc_sound ho) (fun g hg => (ho.lt g hg).1); clear hb1 ho))
    have s1 := own_slk (l := sealL l) (H.getSlc (v := .slice ap (l.length + 4) cp) (n := l.length + 4) (xs := bv (sealL l)) (by repeat (first | exact List.mem_cons_self | apply List.mem_cons_of_mem))) (sealL_len l).symm (by rw [sealL_len]; omega)
    have s2 := own_slk (l := sealL l) (H.getSlc (v := .slice aq (l.length + 4) cq) (n := l.length + 4) (xs := bv (sealL l)) (by repeat (first | exact List.mem_cons_self | apply List.mem_cons_of_mem))) (sealL_len l).symm (by rw [sealL_len]; omega)
    refine (same_ok _ _ (sealL l) (sealL l) _ s1 s2).mono ?_
    rintro e w1 ⟨v, rfl, rfl, hb1⟩
    replace H := H.grow hb1
    clear hb1 s1 s2
    rw [beq_self_eq_true]
    have s0 : Sl w1 1 ([] : List Nat).length (.slice none 0 0) (elB []) := ⟨_, _, rfl, by simp [maxLen], fun h => absurd h (Nat.lt_irrefl _)⟩
    go_wp2_with (first | (go_at_call 8; refine (awake_ok _).mono ?_; rintro e w1 ⟨v, rfl, hr⟩; obtain ⟨rfl, hb1⟩ := hr; replace H := H.grow hb1; clear hb1) | (go_at_call 16; refine (kept_ok _ l l g0 (by omega) _ (H.getHeap (by repeat (first | exact List.mem_cons_self | apply List.mem_cons_of_mem))) (hs.grow H.below)).mono ?_; rintro e w1 ⟨v, rfl, hr⟩; obtain ⟨rfl, hb1⟩ := hr; replace H := H.grow hb1; clear hb1; rw [beq_self_eq_true]))
    refine (same_ok _ _ [] [] _ s0 s0).mono ?_
    rintro e w1 ⟨v, rfl, rfl, hb1⟩
    replace H := H.grow hb1
    clear hb1
    rw [beq_self_eq_true]
    go_wp2_with (first | (go_at_call 8; refine (awake_ok _).mono ?_; rintro e w1 ⟨v, rfl, hr⟩; obtain ⟨rfl, hb1⟩ := hr; replace H := H.grow hb1; clear hb1) | (go_at_call 16; refine (kept_ok _ l l g0 (by omega) _ (H.getHeap (by repeat (first | exact List.mem_cons_self | apply List.mem_cons_of_mem))) (hs.grow H.below)).mono ?_; rintro e w1 ⟨v, rfl, hr⟩; obtain ⟨rfl, hb1⟩ := hr; replace H := H.grow hb1; clear hb1; rw [beq_self_eq_true]))
    go_ret
    exact ⟨_, rfl, rfl, H.below⟩
  obtain ⟨n, hn⟩ : ∃ n, l.length = n + 4 := ⟨l.length - 4, by omega⟩
  have HN := Lib.hid hn
  clear hn
  by_cases hb : numB (l.drop n) = sumC (l.take n)
  · have HG := Lib.hid hb
    clear hb
    go_enter Try.func5, Try.ntmps5
    go_wp2_with (first | (go_at_call 8; refine (awake_ok _).mono ?_; rintro e w1 ⟨v, rfl, hr⟩; obtain ⟨rfl, hb1⟩ := hr; replace H := H.grow hb1; clear hb1) | (go_at_call 9; refine (lent_ok _ l (by omega) _ (hs.grow H.below)).mono ?_; rintro e w1 ⟨v, rfl, hr⟩; obtain ⟨g0, rfl, hg, hge, hb1⟩ := hr; replace H := H.new hb1 (row_sound hg) (fun k hk => by cases hk; exact hge); clear hb1 hg hge) | (go_at_call 17; refine (seal_ok _ l (by omega) HX.out _ (lent_sl (H.getRow (t := 5) (by repeat (first | exact List.mem_cons_self | apply List.mem_cons_of_mem))) (by omega))).mono ?_; rintro e w1 ⟨v, rfl, hr⟩; obtain ⟨⟨ap, cp, rfl⟩, ho, hb1⟩ := hr; have hcp := own_cap ho; replace H := H.new hb1 (slc_sound ho) (fun g hg => (ho.lt g hg).1); clear hb1 ho) | (go_at_call 18; refine (open_good _ l.length n _ l rfl HN.out (by omega) (by omega) HX.out HG.out _ (lent_sl (H.getRow (t := 5) (by repeat (first | exact List.mem_cons_self | apply List.mem_cons_of_mem))) (by omega))).mono ?_; rintro e w1 ⟨v, rfl, hr⟩; obtain ⟨⟨ar, cr, rfl, ho⟩, hb1⟩ := hr; replace H := H.new hb1 (slc_sound ho) (fun g hg => (ho.lt g hg).1); clear hb1 ho) | (go_at_call 19; refine (ropen_good _ l.length n _ l rfl HN.out hc (by omega) HX.out HG.out _ (hs.grow H.below)).mono ?_; rintro e w1 ⟨v, rfl, hr⟩; obtain ⟨⟨at1, cs, rfl, ho⟩, hb1⟩ := hr; replace H := H.new hb1 (slc_sound ho) (fun g hg => (ho.lt g hg).1); clear hb1 ho) | (go_at_call 21; refine (rseal_ok _ l (by omega) HX.out _ (hs.grow H.below)).mono ?_; rintro e w1 ⟨v, rfl, hr⟩; obtain ⟨⟨aq, cq, rfl⟩, ho, hb1⟩ := hr; have hcq := own_cap ho; replace H := H.new hb1 (slc_sound ho) (fun g hg => (ho.lt g hg).1); clear hb1 ho))
    have s1 := own_slk (l := sealL l) (H.getSlc (v := .slice ap (l.length + 4) cp) (n := l.length + 4) (xs := bv (sealL l)) (by repeat (first | exact List.mem_cons_self | apply List.mem_cons_of_mem))) (sealL_len l).symm (by rw [sealL_len]; omega)
    have s2 := own_slk (l := sealL l) (H.getSlc (v := .slice aq (l.length + 4) cq) (n := l.length + 4) (xs := bv (sealL l)) (by repeat (first | exact List.mem_cons_self | apply List.mem_cons_of_mem))) (sealL_len l).symm (by rw [sealL_len]; omega)
    refine (same_ok _ _ (sealL l) (sealL l) _ s1 s2).mono ?_
    rintro e w1 ⟨v, rfl, rfl, hb1⟩
    replace H := H.grow hb1
    clear hb1 s1 s2
    rw [beq_self_eq_true]
    have nl : (l.take n).length = n := by rw [List.length_take]; have := HN.out; omega
    have s1 := own_slk (l := l.take n) (H.getSlc (v := .slice ar n cr) (n := n) (xs := bv (l.take n)) (by repeat (first | exact List.mem_cons_self | apply List.mem_cons_of_mem))) nl.symm (by have := HN.out; omega)
    have s2 := own_slk (l := l.take n) (H.getSlc (v := .slice at1 n cs) (n := n) (xs := bv (l.take n)) (by repeat (first | exact List.mem_cons_self | apply List.mem_cons_of_mem))) nl.symm (by have := HN.out; omega)
    go_wp2_with (first | (go_at_call 8; refine (awake_ok _).mono ?_; rintro e w1 ⟨v, rfl, hr⟩; obtain ⟨rfl, hb1⟩ := hr; replace H := H.grow hb1; clear hb1) | (go_at_call 16; refine (kept_ok _ l l g0 (by omega) _ (H.getHeap (by repeat (first | exact List.mem_cons_self | apply List.mem_cons_of_mem))) (hs.grow H.below)).mono ?_; rintro e w1 ⟨v, rfl, hr⟩; obtain ⟨rfl, hb1⟩ := hr; replace H := H.grow hb1; clear hb1; rw [beq_self_eq_true]))
    refine (same_ok _ _ (l.take n) (l.take n) _ s1 s2).mono ?_
    rintro e w1 ⟨v, rfl, rfl, hb1⟩
    replace H := H.grow hb1
    clear hb1 s1 s2
    rw [beq_self_eq_true]
    go_wp2_with (first | (go_at_call 8; refine (awake_ok _).mono ?_; rintro e w1 ⟨v, rfl, hr⟩; obtain ⟨rfl, hb1⟩ := hr; replace H := H.grow hb1; clear hb1) | (go_at_call 16; refine (kept_ok _ l l g0 (by omega) _ (H.getHeap (by repeat (first | exact List.mem_cons_self | apply List.mem_cons_of_mem))) (hs.grow H.below)).mono ?_; rintro e w1 ⟨v, rfl, hr⟩; obtain ⟨rfl, hb1⟩ := hr; replace H := H.grow hb1; clear hb1; rw [beq_self_eq_true]))
    go_ret
    exact ⟨_, rfl, rfl, H.below⟩
  · have HG := Lib.hid hb
    clear hb
    go_enter Try.func5, Try.ntmps5
    go_wp2_with (first | (go_at_call 8; refine (awake_ok _).mono ?_; rintro e w1 ⟨v, rfl, hr⟩; obtain ⟨rfl, hb1⟩ := hr; replace H := H.grow hb1; clear hb1) | (go_at_call 9; refine (lent_ok _ l (by omega) _ (hs.grow H.below)).mono ?_; rintro e w1 ⟨v, rfl, hr⟩; obtain ⟨g0, rfl, hg, hge, hb1⟩ := hr; replace H := H.new hb1 (row_sound hg) (fun k hk => by cases hk; exact hge); clear hb1 hg hge) | (go_at_call 17; refine (seal_ok _ l (by omega) HX.out _ (lent_sl (H.getRow (t := 5) (by repeat (first | exact List.mem_cons_self | apply List.mem_cons_of_mem))) (by omega))).mono ?_; rintro e w1 ⟨v, rfl, hr⟩; obtain ⟨⟨ap, cp, rfl⟩, ho, hb1⟩ := hr; have hcp := own_cap ho; replace H := H.new hb1 (slc_sound ho) (fun g hg => (ho.lt g hg).1); clear hb1 ho) | (go_at_call 18; refine (open_bad _ l.length n _ l rfl HN.out (by omega) (by omega) HX.out HG.out _ (lent_sl (H.getRow (t := 5) (by repeat (first | exact List.mem_cons_self | apply List.mem_cons_of_mem))) (by omega))).mono ?_; rintro e w1 ⟨v, rfl, hr⟩; obtain ⟨rfl, hb1⟩ := hr; replace H := H.grow hb1; clear hb1) | (go_at_call 19; refine (ropen_bad _ l.length n _ l rfl HN.out hc (by omega) HX.out HG.out _ (hs.grow H.below)).mono ?_; rintro e w1 ⟨v, rfl, hr⟩; obtain ⟨rfl, hb1⟩ := hr; replace H := H.grow hb1; clear hb1) | (go_at_call 21; refine (rseal_ok _ l (by omega) HX.out _ (hs.grow H.below)).mono ?_; rintro e w1 ⟨v, rfl, hr⟩; obtain ⟨⟨aq, cq, rfl⟩, ho, hb1⟩ := hr; have hcq := own_cap ho; replace H := H.new hb1 (slc_sound ho) (fun g hg => (ho.lt g hg).1); clear hb1 ho))
    have s1 := own_slk (l := sealL l) (H.getSlc (v := .slice ap (l.length + 4) cp) (n := l.length + 4) (xs := bv (sealL l)) (by repeat (first | exact List.mem_cons_self | apply List.mem_cons_of_mem))) (sealL_len l).symm (by rw [sealL_len]; omega)
    have s2 := own_slk (l := sealL l) (H.getSlc (v := .slice aq (l.length + 4) cq) (n := l.length + 4) (xs := bv (sealL l)) (by repeat (first | exact List.mem_cons_self | apply List.mem_cons_of_mem))) (sealL_len l).symm (by rw [sealL_len]; omega)
    refine (same_ok _ _ (sealL l) (sealL l) _ s1 s2).mono ?_
    rintro e w1 ⟨v, rfl, rfl, hb1⟩
    replace H := H.grow hb1
    clear hb1 s1 s2
    rw [beq_self_eq_true]
    have s0 : Sl w1 1 ([] : List Nat).length (.slice none 0 0) (elB []) := ⟨_, _, rfl, by simp [maxLen], fun h => absurd h (Nat.lt_irrefl _)⟩
    go_wp2_with (first | (go_at_call 8; refine (awake_ok _).mono ?_; rintro e w1 ⟨v, rfl, hr⟩; obtain ⟨rfl, hb1⟩ := hr; replace H := H.grow hb1; clear hb1) | (go_at_call 16; refine (kept_ok _ l l g0 (by omega) _ (H.getHeap (by repeat (first | exact List.mem_cons_self | apply List.mem_cons_of_mem))) (hs.grow H.below)).mono ?_; rintro e w1 ⟨v, rfl, hr⟩; obtain ⟨rfl, hb1⟩ := hr; replace H := H.grow hb1; clear hb1; rw [beq_self_eq_true]))
    refine (same_ok _ _ [] [] _ s0 s0).mono ?_
    rintro e w1 ⟨v, rfl, rfl, hb1⟩
    replace H := H.grow hb1
    clear hb1
    rw [beq_self_eq_true]
    go_wp2_with (first | (go_at_call 8; refine (awake_ok _).mono ?_; rintro e w1 ⟨v, rfl, hr⟩; obtain ⟨rfl, hb1⟩ := hr; replace H := H.grow hb1; clear hb1) | (go_at_call 16; refine (kept_ok _ l l g0 (by omega) _ (H.getHeap (by repeat (first | exact List.mem_cons_self | apply List.mem_cons_of_mem))) (hs.grow H.below)).mono ?_; rintro e w1 ⟨v, rfl, hr⟩; obtain ⟨rfl, hb1⟩ := hr; replace H := H.grow hb1; clear hb1; rw [beq_self_eq_true]))
    go_ret
    exact ⟨_, rfl, rfl, H.below⟩
set_option maxRecDepth 100000 in
theorem crcBack_lifted (os : Os) (started : os.Started) (H : Type) (enc : TypeId × Value → H) :
    ReturnsInHanded {} Try.checked os 6 .any (Rows.crcBackSpec.pre6 enc Try.prog Try.f6 Rows.crcBackRow.domain false) (Rows.crcBackSpec.post enc Try.prog Try.f6 false true false false) := by
  refine law_lifted (C := Try.checked) own started (by kernel_rfl) Try.func6 laidOut rfl Try.underlying4 rfl (by kernel_rfl) (fun ds hd => ?_)
    (ChangeSpec.witness6 (enc := enc) (C := Try.checked) false ⟨#[], #[.slice none 0 0], []⟩ 8 (by kernel_rfl) (by kernel_rfl) (by kernel_rfl) (by kernel_rfl)) ?_
  · match ds, hd with
    | [d0], _ => exact ⟨rfl, rfl, rfl⟩
  intro W base args ds p hval hA
  rw [Try.params6] at hA hval
  obtain ⟨v0, vs0, d0, ds0, p0, q0, hargs, rfl, rfl, h0, r0⟩ := trodAll_cons hA
  obtain ⟨rfl, rfl, rfl⟩ := trodAll_nil r0
  obtain rfl : args = #[v0] := by cases args; simp_all
  obtain ⟨l, lb, hs⟩ := open_bs (hval 0 22 v0 rfl rfl) h0
  have hcap := cap_in Try.underlying22 (hval 0 22 v0 rfl rfl) h0
  exact law_back _ l lb W hs
theorem crcBack_over : Rows.crcBackRow.holds Try.pinned (OpenSpec.ofChange Rows.crcBackSpec) :=
  OpenClaim.holds_of_wide 6 Try.f6 rfl rfl rfl rfl rfl rfl rfl ⟨rfl, rfl, rfl, rfl, rfl⟩ rfl rfl rfl rfl rfl (by kernel_rfl) Try.func6 (by kernel_rfl)
    (of_decide_eq_true (by kernel_rfl)) (by unfold Func.isWrapper; first | (rw [if_pos (by decide +kernel)]; kernel_rfl) | (rw [if_neg (by decide +kernel)]; exact ⟨rfl, rfl⟩))
    (fun os started H enc _ => crcBack_lifted os started H enc)
theorem crcBack_holds : Rows.CrcBackSaid := crcBack_over
#print axioms crcBack_holds
set_option maxRecDepth 100000 in
theorem crcSeals_lifted (os : Os) (started : os.Started) (H : Type) (enc : TypeId × Value → H) :
    ReturnsInHanded {} Try.checked os 5 .any (Rows.crcSealsSpec.pre6 enc Try.prog Try.f5 Rows.crcSealsRow.domain false) (Rows.crcSealsSpec.post enc Try.prog Try.f5 false true false false) := by
  refine law_lifted (C := Try.checked) own started (by kernel_rfl) Try.func5 laidOut rfl Try.underlying4 rfl (by kernel_rfl) (fun ds hd => ?_)
    (ChangeSpec.witness6 (enc := enc) (C := Try.checked) false ⟨#[], #[.slice none 0 0], []⟩ 8 (by kernel_rfl) (by kernel_rfl) (by kernel_rfl) (by kernel_rfl)) ?_
  · match ds, hd with
    | [d0], _ => exact ⟨rfl, rfl, rfl⟩
  intro W base args ds p hval hA
  rw [Try.params5] at hA hval
  obtain ⟨v0, vs0, d0, ds0, p0, q0, hargs, rfl, rfl, h0, r0⟩ := trodAll_cons hA
  obtain ⟨rfl, rfl, rfl⟩ := trodAll_nil r0
  obtain rfl : args = #[v0] := by cases args; simp_all
  obtain ⟨l, lb, hs⟩ := open_bs (hval 0 22 v0 rfl rfl) h0
  have hcap := cap_in Try.underlying22 (hval 0 22 v0 rfl rfl) h0
  exact law_seals _ l lb W hs hcap
theorem crcSeals_over : Rows.crcSealsRow.holds Try.pinned (OpenSpec.ofChange Rows.crcSealsSpec) :=
  OpenClaim.holds_of_wide 5 Try.f5 rfl rfl rfl rfl rfl rfl rfl ⟨rfl, rfl, rfl, rfl, rfl⟩ rfl rfl rfl rfl rfl (by kernel_rfl) Try.func5 (by kernel_rfl)
    (of_decide_eq_true (by kernel_rfl)) (by unfold Func.isWrapper; first | (rw [if_pos (by decide +kernel)]; kernel_rfl) | (rw [if_neg (by decide +kernel)]; exact ⟨rfl, rfl⟩))
    (fun os started H enc _ => crcSeals_lifted os started H enc)
theorem crcSeals_holds : Rows.CrcSealsSaid := crcSeals_over
#print axioms crcSeals_holds
end Go.Proofs.Ytnmahekaidgnmaa
