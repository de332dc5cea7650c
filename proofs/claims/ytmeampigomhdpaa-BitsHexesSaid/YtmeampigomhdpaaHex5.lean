/- The statement BitsHexes of layer 1 (bits), proved; no condition: the law's walk, and the row round it. -/
import Derived.Test.YtmeampigomhdpaaHex4
namespace Go.Proofs.Ytmeampigomhdpaa
open Go.ChangeShapes Go.WideShapes Go.ChangeAt Go.RowKit Go.Deep
set_option linter.unusedVariables false
set_option linter.unusedSimpArgs false
theorem open_st {H : Type} {enc : TypeId × Value → H} {W : World} {base : Nat} {v : Value} {d : DataW H} {p : List MemPlace} (hv : Value.okWide Try.prog W .any base 9 v) (h : DataW.Trod enc Try.prog W 0 (fun _ => true) true 9 v d p) :
    ∃ l : List Nat, v = .string (strOf l) ∧ l.length ≤ maxLen ∧ ∀ x ∈ l, x < 256 := by
  obtain ⟨s, rfl⟩ := okWide_string Try.underlying9 hv
  obtain ⟨fuel, hf⟩ := h
  obtain ⟨s', hs, _, hl⟩ := DataW.trod_string Try.underlying9 hf
  simp only [Value.cells, List.cons.injEq, Value.string.injEq, and_true] at hs
  subst hs
  refine ⟨s.data.toList.map UInt8.toNat, ?_, by simpa using hl, ?_⟩
  · congr 1
    apply ByteArray.ext
    unfold strOf
    rw [List.map_map]
    have : (UInt8.ofNat ∘ UInt8.toNat) = id := by funext x; simp
    rw [this]
    simp
  · intro x hx
    obtain ⟨u, _, rfl⟩ := List.mem_map.1 hx
    exact u.toNat_lt
theorem hex_get (l : List Nat) : ∀ j, j < l.length → (hexL l).getD (2 * j) 0 = dig (l.getD j 0 / 16) ∧ (hexL l).getD (2 * j + 1) 0 = dig (l.getD j 0 % 16) := by
  induction l with
  | nil => intro j h; exact absurd h (Nat.not_lt_zero _)
  | cons x l ih =>
    intro j h
    have hc : hexL (x :: l) = dig (x / 16) :: dig (x % 16) :: hexL l := rfl
    rw [hc]
    cases j with
    | zero => exact ⟨rfl, rfl⟩
    | succ j =>
      have := ih j (by simpa using h)
      rw [show 2 * (j + 1) = 2 * j + 1 + 1 by omega]
      simpa using this
theorem hex_back (l : List Nat) (hx : ∀ x ∈ l, x < 256) : unR (hexL l) = l ∧ unE (hexL l) = 0 := by
  have hl := hexL_len l
  have hlt := str_lt hx
  have key : ∀ j, j < l.length → dv (hexL l) (2 * j) = some (l.getD j 0 / 16) ∧ dv (hexL l) (2 * j + 1) = some (l.getD j 0 % 16) := fun j hj => by
    obtain ⟨h1, h2⟩ := hex_get l j hj
    have := hlt j
    unfold dv
    rw [h1, h2]
    exact ⟨val_dig _ (by omega), val_dig _ (by omega)⟩
  have hd : (hexL l).length / 2 = l.length := by omega
  obtain ⟨e1, e2⟩ := un_good (hexL l) (by omega) (fun j hj => by
    obtain ⟨h1, h2⟩ := key j (by omega)
    rw [h1, h2]; exact ⟨rfl, rfl⟩)
  refine ⟨?_, e2⟩
  rw [e1, hd]
  unfold unV
  apply List.ext_getElem (by simp)
  intro j h1 h2
  obtain ⟨h3, h4⟩ := key j h2
  have hg : l.getD j 0 = l[j] := by simp [List.getD, h2]
  simp only [List.getElem_map, List.getElem_range, h3, h4, Option.getD_some, hg]
  omega
theorem hexL_byte (l : List Nat) (hx : ∀ x ∈ l, x < 256) : ∀ y ∈ hexL l, y < 256 := by
  intro y hy
  obtain ⟨x, hx1, hy⟩ := List.mem_flatMap.1 hy
  have := hx x hx1
  simp only [List.mem_cons, List.not_mem_nil, or_false] at hy
  rcases hy with rfl | rfl <;> exact dig_lt _ (by omega)
theorem unR_len (s : List Nat) : (unR s).length ≤ s.length := by
  unfold unR
  split
  · rw [unV_len]; omega
  · simp
attribute [local irreducible] strOf dig iv val unR unE hexL
set_option maxRecDepth 100000 in
set_option maxHeartbeats 2000000 in
theorem law_hexes (v : Value) (l s : List Nat) (hx : ∀ x ∈ l, x < 256) (hsm : s.length ≤ maxLen) (hsx : ∀ x ∈ s, x < 256) (w : World) (hs : Sl w 1 l.length v (elB l)) :
    Calls Try.prog 11 #[v, .string (strOf s)] w (Ret fun v w' => v = .bool true ∧ Below w.heap.size w w') := by
  have H := St.init w
  have hs' := hs
  obtain ⟨ad, c0, rfl, hm⟩ := hs'.len
  unfold maxLen at hsm
  have hsz := str_size s
  by_cases hl : l.length ≤ 1000
  · by_cases hl2 : s.length ≤ 1000
    · have HX := Lib.hid hx
      have SX := Lib.hid hsx
      have HL : Hid ((hexL l).length ≤ 2000) := Lib.hid (by rw [hexL_len]; omega)
      have HB := Lib.hid (hexL_byte l hx)
      have HR := Lib.hid (hex_back l hx)
      have hul : (unR s).length ≤ 1000 := Nat.le_trans (unR_len s) hl2
      have HU := Lib.hid hul
      clear hx hsx hul
      go_enter Try.func11, Try.ntmps11
      go_wp2_with (first | (go_at_call 33; (with_reducible refine (hex_ok _ l hl HX.out _ (hs.grow H.below)).mono ?_); rintro e w1 ⟨v, rfl, hr⟩; obtain ⟨rfl, hb1⟩ := hr; replace H := H.grow hb1; clear hb1) | (go_at_call 34; (first | ((with_reducible refine (unhex_ok s (by omega) SX.out _).mono ?_); rintro e w1 ⟨v, rfl, hr⟩; obtain ⟨au, cu, rfl, ho, hb1⟩ := hr; replace H := H.new hb1 (slc_sound ho) (fun g hg => (ho.lt g hg).1); clear hb1 ho) | ((with_reducible refine (unhex_ok (hexL l) HL.out HB.out _).mono ?_); rintro e w1 ⟨v, rfl, hr⟩; obtain ⟨ay, cy, rfl, ho, hb1⟩ := hr; replace H := H.new hb1 (slc_sound ho) (fun g hg => (ho.lt g hg).1); clear hb1 ho; rw [HR.out.1] at H; rw [HR.out.1, HR.out.2]))) | (go_at_call 35; (with_reducible refine (runhex_ok s (by omega) SX.out _).mono ?_); rintro e w1 ⟨v, rfl, hr⟩; obtain ⟨ar, cr, rfl, ho, hb1⟩ := hr; replace H := H.new hb1 (slc_sound ho) (fun g hg => (ho.lt g hg).1); clear hb1 ho) | (go_at_call 36; (with_reducible refine (rhex_ok _ l hl HX.out _ (hs.grow H.below)).mono ?_); rintro e w1 ⟨v, rfl, hr⟩; obtain ⟨rfl, hb1⟩ := hr; replace H := H.grow hb1; clear hb1) | (go_at_call 18; (first | ((with_reducible refine (same_ok _ _ (unR s) (unR s) _ (own_slk (H.getSlc (v := .slice au (unR s).length cu) (n := (unR s).length) (xs := bv (unR s)) (by repeat (first | exact List.mem_cons_self | apply List.mem_cons_of_mem))) rfl (by first | omega | (have := HU.out; omega))) (own_slk (H.getSlc (v := .slice ar (unR s).length cr) (n := (unR s).length) (xs := bv (unR s)) (by repeat (first | exact List.mem_cons_self | apply List.mem_cons_of_mem))) rfl (by first | omega | (have := HU.out; omega)))).mono ?_); rintro e w1 ⟨v, rfl, hr⟩; rw [beq_self_eq_true] at hr; obtain ⟨rfl, hb1⟩ := hr; replace H := H.grow hb1; clear hb1) | ((with_reducible refine (same_ok _ _ l l _ (own_slk (H.getSlc (v := .slice ay (l).length cy) (n := (l).length) (xs := bv (l)) (by repeat (first | exact List.mem_cons_self | apply List.mem_cons_of_mem))) rfl (by first | omega | (have := HU.out; omega))) (hs.grow H.below)).mono ?_); rintro e w1 ⟨v, rfl, hr⟩; rw [beq_self_eq_true] at hr; obtain ⟨rfl, hb1⟩ := hr; replace H := H.grow hb1; clear hb1))) | (go_at_call 13; (with_reducible refine (awake_ok _).mono ?_); rintro e w1 ⟨v, rfl, hr⟩; obtain ⟨rfl, hb1⟩ := hr; replace H := H.grow hb1; clear hb1))
      go_ret
      exact ⟨_, rfl, rfl, H.below⟩
    · have hli : (1000 : Int) < (s.length : Int) := by omega
      clear hx hsx
      go_enter Try.func11, Try.ntmps11
      go_wp2_with (first | (go_at_call 13; (with_reducible refine (awake_ok _).mono ?_); rintro e w1 ⟨v, rfl, hr⟩; obtain ⟨rfl, hb1⟩ := hr; replace H := H.grow hb1; clear hb1))
      go_ret
      exact ⟨_, rfl, rfl, H.below⟩
  · have hli : (1000 : Int) < (l.length : Int) := by omega
    clear hx hsx
    go_enter Try.func11, Try.ntmps11
    go_wp2_with (first | (go_at_call 13; (with_reducible refine (awake_ok _).mono ?_); rintro e w1 ⟨v, rfl, hr⟩; obtain ⟨rfl, hb1⟩ := hr; replace H := H.grow hb1; clear hb1))
    go_ret
    exact ⟨_, rfl, rfl, H.below⟩
set_option maxRecDepth 100000 in
theorem bitsHexes_lifted (os : Os) (started : os.Started) (H : Type) (enc : TypeId × Value → H) :
    ReturnsInHanded {} Try.checked os 11 .any (Rows.bitsHexesSpec.pre6 enc Try.prog Try.f11 Rows.bitsHexesRow.domain false) (Rows.bitsHexesSpec.post enc Try.prog Try.f11 false true false false) := by
  refine law_lifted (C := Try.checked) own started (by kernel_rfl) Try.func11 laidOut rfl Try.underlying4 rfl (by kernel_rfl) (fun ds hd => ?_)
    (ChangeSpec.witness6 (enc := enc) (C := Try.checked) false ⟨#[], #[.slice none 0 0, .string ⟨#[]⟩], []⟩ 8 (by kernel_rfl) (by kernel_rfl) (by kernel_rfl) (by kernel_rfl)) ?_
  · match ds, hd with
    | [d0, d1], _ => exact ⟨rfl, rfl, rfl⟩
  intro W base args ds p hval hA
  rw [Try.params11] at hA hval
  obtain ⟨v0, vs0, d0, ds0, p0, q0, hargs, rfl, rfl, h0, r0⟩ := trodAll_cons hA
  obtain ⟨v1, vs1, d1, ds1, p1, q1, rfl, rfl, rfl, h1, r1⟩ := trodAll_cons r0
  obtain ⟨rfl, rfl, rfl⟩ := trodAll_nil r1
  obtain rfl : args = #[v0, v1] := by cases args; simp_all
  obtain ⟨l, lx, hs⟩ := open_bs (hval 0 22 v0 rfl rfl) h0
  obtain ⟨s, rfl, sl, sx⟩ := open_st (hval 1 9 v1 rfl rfl) h1
  exact law_hexes _ l s lx sl sx W hs
theorem bitsHexes_over : Rows.bitsHexesRow.holds Try.pinned (OpenSpec.ofChange Rows.bitsHexesSpec) :=
  OpenClaim.holds_of_wide 11 Try.f11 rfl rfl rfl rfl rfl rfl rfl ⟨rfl, rfl, rfl, rfl, rfl⟩ rfl rfl rfl rfl rfl (by kernel_rfl) Try.func11 (by kernel_rfl)
    (of_decide_eq_true (by kernel_rfl)) (by unfold Func.isWrapper; first | (rw [if_pos (by decide +kernel)]; kernel_rfl) | (rw [if_neg (by decide +kernel)]; exact ⟨rfl, rfl⟩))
    (fun os started H enc _ => bitsHexes_lifted os started H enc)
theorem bitsHexes_holds : Rows.BitsHexesSaid := bitsHexes_over
#print axioms bitsHexes_holds
end Go.Proofs.Ytmeampigomhdpaa
