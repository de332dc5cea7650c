/- The contracts of layer 1's Unhex, its own and the document's; the bounds stand in each. -/
import Derived.Test.YtmeampigomhdpaaHex2
namespace Go.Proofs.Ytmeampigomhdpaa
open Go.ChangeShapes Go.WideShapes Go.ChangeAt Go.RowKit
set_option linter.unusedVariables false
set_option linter.unusedSimpArgs false
/-- Where a digit stands, or -1. -/
def iv (c : Nat) : Int := match val c with | some x => (x : Int) | none => -1
theorem iv_some {c x : Nat} (h : val c = some x) : iv c = (x : Int) := by unfold iv; rw [h]
theorem iv_none {c : Nat} (h : val c = none) : iv c = -1 := by unfold iv; rw [h]
theorem ibs (c : Nat) (hc : c < 256) (w : World) : (callFunc 43 #[.string ⟨#[48, 49, 50, 51, 52, 53, 54, 55, 56, 57, 97, 98, 99, 100, 101, 102]⟩, .int .u8 (c : Int)]).run Try.prog w = .ok (.value (.int .i64 (iv c))) w := by
  have hf : Try.prog.funcs[43]? = some Try.f43 := by kernel_rfl
  rw [run_callFunc_extern (e := Extern.BytealgIndexByte.indexByte) hf (by kernel_rfl) (by kernel_rfl) (by kernel_rfl) (by kernel_rfl), run_indexByte_string, dig_find c hc]
  rfl
/-! ### What a text of digits is -/
def dv (s : List Nat) (i : Nat) : Option Nat := val (s.getD i 0)
def unB (s : List Nat) : Bool := decide (s.length % 2 = 0) && (List.range (s.length / 2)).all fun j => (dv s (2 * j)).isSome && (dv s (2 * j + 1)).isSome
def unV (s : List Nat) (k : Nat) : List Nat := (List.range k).map fun j => (dv s (2 * j)).getD 0 * 16 + (dv s (2 * j + 1)).getD 0
def unR (s : List Nat) : List Nat := if unB s = true then unV s (s.length / 2) else []
def unE (s : List Nat) : Int := if unB s = true then 0 else 5
theorem unV_succ (s : List Nat) (k a b : Nat) (ha : dv s (2 * k) = some a) (hb : dv s (2 * k + 1) = some b) : unV s (k + 1) = unV s k ++ [a * 16 + b] := by
  unfold unV; rw [List.range_succ, List.map_append]; simp [ha, hb]
theorem unV_len (s : List Nat) (k : Nat) : (unV s k).length = k := by simp [unV]
theorem un_bad (s : List Nat) (k : Nat) (hk : 2 * k + 1 < s.length) (h : dv s (2 * k) = none ∨ dv s (2 * k + 1) = none) : unR s = [] ∧ unE s = 5 := by
  have : unB s = false := by
    unfold unB
    rw [Bool.and_eq_false_iff]
    refine .inr ?_
    rw [List.all_eq_false]
    refine ⟨k, by simp; omega, ?_⟩
    rcases h with h | h <;> simp [h]
  unfold unR unE; simp [this]
theorem un_odd (s : List Nat) (h : s.length % 2 = 1) : unR s = [] ∧ unE s = 5 := by
  have : unB s = false := by unfold unB; simp [h]
  unfold unR unE; simp [this]
theorem un_good (s : List Nat) (h : s.length % 2 = 0) (hk : ∀ j, j < s.length / 2 → (dv s (2 * j)).isSome ∧ (dv s (2 * j + 1)).isSome) : unR s = unV s (s.length / 2) ∧ unE s = 0 := by
  have : unB s = true := by
    unfold unB
    rw [Bool.and_eq_true]
    refine ⟨by simpa using h, List.all_eq_true.2 fun j hj => ?_⟩
    obtain ⟨h1, h2⟩ := hk j (by simpa using hj)
    rw [h1, h2]; rfl
  unfold unR unE; simp [this]
attribute [local irreducible] strOf dig iv
theorem idx1_ok (c : Nat) (r : Int) (hc : c < 256) (hr : iv c = r) (w : World) : Calls Try.prog 42 #[.string ⟨#[48, 49, 50, 51, 52, 53, 54, 55, 56, 57, 97, 98, 99, 100, 101, 102]⟩, .int .u8 (c : Int)] w (Ret fun v w' => v = .int .i64 r ∧ Below w.heap.size w w') := by
  have H := St.init w
  have hx := ibs c hc
  rw [hr] at hx
  clear hr
  go_enter Try.func42, Try.ntmps42
  go_wp2_with fail
  go_ret
  exact ⟨_, rfl, rfl, H.below⟩
theorem idx_ok (c : Nat) (r : Int) (hc : c < 256) (hr : iv c = r) (w : World) : Calls Try.prog 40 #[.string ⟨#[48, 49, 50, 51, 52, 53, 54, 55, 56, 57, 97, 98, 99, 100, 101, 102]⟩, .int .u8 (c : Int)] w (Ret fun v w' => v = .int .i64 r ∧ Below w.heap.size w w') := by
  have H := St.init w
  have HR := Lib.hid hr
  clear hr
  go_enter Try.func40, Try.ntmps40
  go_wp2_with (first | (go_at_call 42; (with_reducible refine (idx1_ok c r hc HR.out _).mono ?_); rintro e w1 ⟨v, rfl, hr⟩; obtain ⟨rfl, hb1⟩ := hr; replace H := H.grow hb1; clear hb1))
  go_ret
  exact ⟨_, rfl, rfl, H.below⟩
theorem and1 (n : Int) : bits .and .i64 n 1 = n % 2 := by
  have h1 : (BitVec.ofInt 64 1).toNat = 2 ^ 1 - 1 := by decide
  have key : (BitVec.ofInt 64 n &&& BitVec.ofInt 64 1).toNat = (n % ((2 ^ 64 : Nat) : Int)).toNat % 2 ^ 1 := by
    rw [BitVec.toNat_and, BitVec.toNat_ofInt, h1, Nat.and_two_pow_sub_one_eq_mod]
  show IntKind.i64.wrap ((BitVec.ofInt 64 n &&& BitVec.ofInt 64 1).toNat : Nat) = n % 2
  rw [key, IntKind.wrap_i64]
  omega
theorem or16 (a b : Nat) (ha : a < 16) (hb : b < 16) : bits .or .i64 ((a : Int) * 16) (b : Int) = (a : Int) * 16 + (b : Int) := by
  have := (by decide +kernel : ∀ a b : Fin 16, bits .or .i64 (((a.val : Nat) : Int) * 16) ((b.val : Nat) : Int) = ((a.val : Nat) : Int) * 16 + ((b.val : Nat) : Int))
  exact this ⟨a, ha⟩ ⟨b, hb⟩
theorem str_at {s : List Nat} {i : Nat} (h : i < s.length) : s[i]? = some (s.getD i 0) := by simp [List.getD, h]
theorem str_lt {s : List Nat} (hx : ∀ x ∈ s, x < 256) (i : Nat) : s.getD i 0 < 256 := by
  by_cases h : i < s.length
  · have : s.getD i 0 = s[i] := by simp [List.getD, h]
    rw [this]; exact hx _ (List.getElem_mem h)
  · have : s.getD i 0 = 0 := by simp [List.getD, h]
    rw [this]; omega
set_option maxRecDepth 100000 in
set_option maxHeartbeats 1000000 in
theorem unhex_ok (s : List Nat) (hl : s.length ≤ 2000) (hx : ∀ x ∈ s, x < 256) (w : World) :
    Calls Try.prog 34 #[.string (strOf s)] w (Ret fun v w' => ∃ ap cp, v = .tuple #[.slice ap (unR s).length cp, .int .i64 (unE s)] ∧ w'.ownsRow w.heap.size 5 1 (.slice ap (unR s).length cp) (unR s).length (bv (unR s)) ∧ Below w.heap.size w w') := by
  have H := St.init w
  have hsz := str_size s
  have ha1 := and1
  by_cases hodd : s.length % 2 = 1
  · have hoi : (s.length : Int) % 2 = 1 := by omega
    obtain ⟨e1, e2⟩ := un_odd s hodd
    have HE := Lib.hid (And.intro e1 e2)
    clear e1 e2
    go_enter Try.func34, Try.ntmps34
    go_wp2_with fail
    go_ret2
    rw [HE.out.1, HE.out.2]
    exact ⟨_, rfl, none, 0, rfl, World.ownsRow_nil _ _ _ _, H.below⟩
  · have hoi : ((s.length : Int) % 2 == 1) = false := by simp; omega
    have HXB := Lib.hid hx
    clear hx
    go_enter Try.func34, Try.ntmps34
    go_wp2_with fail
    replace H := H.nil 5 1
    go_loopw [4, 5] (fun out i wr => ∃ (k : Nat) (a : Option Addr) (c : Nat) (m : List Nat), 2 * k ≤ s.length ∧ i = .int .i64 ((2 * k : Nat) : Int) ∧ Hid (unV s k = m) ∧ m.length = k ∧ out = .slice a k c ∧ Hid (∀ j, j < k → (dv s (2 * j)).isSome ∧ (dv s (2 * j + 1)).isSome) ∧ St w.heap.size w wr [slc 5 1 (.slice a k c) k (bv m)]) (fun _ i _ => s.length - (intOf i).toNat)
    case atStart => exact ⟨0, none, 0, [], by omega, rfl, Lib.hid rfl, rfl, rfl, Lib.hid (fun j h => absurd h (Nat.not_lt_zero _)), H⟩
    case round =>
      clear H
      obtain ⟨k, ao, co, m, hk, rfl, HM, hmn, rfl, HA, H⟩ := hrel
      by_cases hlt : 2 * k < s.length
      · have h1 := str_at (s := s) (i := 2 * k) (by omega)
        have h2 := str_at (s := s) (i := 2 * k + 1) (by omega)
        obtain ⟨x, hx⟩ : ∃ x, s.getD (2 * k) 0 = x := ⟨_, rfl⟩
        obtain ⟨y, hy⟩ : ∃ y, s.getD (2 * k + 1) 0 = y := ⟨_, rfl⟩
        have x256 : x < 256 := by rw [← hx]; exact str_lt HXB.out _
        have y256 : y < 256 := by rw [← hy]; exact str_lt HXB.out _
        have dx : dv s (2 * k) = val x := by unfold dv; rw [hx]
        have dy : dv s (2 * k + 1) = val y := by unfold dv; rw [hy]
        rw [hx] at h1
        rw [hy] at h2
        have HX1 := Lib.hid h1
        have HY1 := Lib.hid h2
        have kli : (2 : Int) * (k : Int) < (s.length : Int) := by omega
        have HW : Hid (IntKind.i64.wrap (2 * (k : Int) + 1) = 2 * (k : Int) + 1) := Lib.hid (by rw [IntKind.wrap_i64]; omega)
        clear h1 h2 hx hy
        cases hvx : val x with
        | none =>
          have hb := un_bad s k (by omega) (.inl (dx.trans hvx))
          have HE := Lib.hid hb
          have HRX := Lib.hid (iv_none hvx)
          obtain ⟨ry, hry⟩ : ∃ ry, iv y = ry := ⟨_, rfl⟩
          have HRY := Lib.hid hry
          clear hb hvx dx dy hry
          go_wp2_with fail
          refine rg_begin 11 rfl (S := fun W => St _ _ W _) (by kernel_rfl) H.drew ?_
          replace H := H.drew
          have HS := H
          refine rg_take (i := 0) rfl (by kernel_rfl) (by kernel_rfl) (by kernel_rfl) (Yld.move rfl rfl) HS ?_; simp only [Act.put, eval_tmp, eval_const, getD_lit0, getD_lits, if_true, if_false, List.setIfInBounds_toArray, List.set_cons_zero, List.set_cons_succ]
          refine rg_take (i := 1) rfl (by kernel_rfl) (by kernel_rfl) (by kernel_rfl) (Yld.move rfl rfl) HS ?_; simp only [Act.put, eval_tmp, eval_const, getD_lit0, getD_lits, if_true, if_false, List.setIfInBounds_toArray, List.set_cons_zero, List.set_cons_succ]
          refine rg_take (i := 2) rfl (by kernel_rfl) (by kernel_rfl) (by kernel_rfl) (Yld.index rfl rfl rfl rfl (fun W => str_index s _ _ (2 * k) x (by omega) HX1.out x256 W)) HS ?_; simp only [Act.put, eval_tmp, eval_const, getD_lit0, getD_lits, if_true, if_false, List.setIfInBounds_toArray, List.set_cons_zero, List.set_cons_succ]
          refine rg_take (i := 4) rfl (by kernel_rfl) (by kernel_rfl) (by kernel_rfl) (Yld.move rfl rfl) HS ?_; simp only [Act.put, eval_tmp, eval_const, getD_lit0, getD_lits, if_true, if_false, List.setIfInBounds_toArray, List.set_cons_zero, List.set_cons_succ]
          refine rg_take (i := 5) rfl (by kernel_rfl) (by kernel_rfl) (by kernel_rfl) (Yld.move rfl rfl) HS ?_; simp only [Act.put, eval_tmp, eval_const, getD_lit0, getD_lits, if_true, if_false, List.setIfInBounds_toArray, List.set_cons_zero, List.set_cons_succ]
          refine rg_take (i := 6) rfl (by kernel_rfl) (by kernel_rfl) (by kernel_rfl) (Yld.of (v := .int .i64 (2 * (k : Int) + 1)) rfl (fun W _ => by go_simp; first | done | exact HW.out)) HS ?_; simp only [Act.put, eval_tmp, eval_const, getD_lit0, getD_lits, if_true, if_false, List.setIfInBounds_toArray, List.set_cons_zero, List.set_cons_succ]
          refine rg_take (i := 7) rfl (by kernel_rfl) (by kernel_rfl) (by kernel_rfl) (Yld.index rfl rfl rfl rfl (fun W => str_index s _ _ (2 * k + 1) y (by omega) HY1.out y256 W)) HS ?_; simp only [Act.put, eval_tmp, eval_const, getD_lit0, getD_lits, if_true, if_false, List.setIfInBounds_toArray, List.set_cons_zero, List.set_cons_succ]
          refine rg_one (i := 3) (by kernel_rfl) rfl rfl (fun K hK => ?_)
          refine wp_callf rfl ent40 (idx_ok x (-1) x256 HRX.out _) rfl (fun v w1 hr => ?_)
          obtain ⟨rfl, hb1⟩ := hr
          replace H := H.grow hb1
          clear hb1
          clear HS
          have HS := H
          refine hK.out _ _ HS ?_
          clear hK K
          simp only [Act.put, List.setIfInBounds_toArray, List.set_cons_zero, List.set_cons_succ]
          refine rg_one (i := 8) (by kernel_rfl) rfl rfl (fun K hK => ?_)
          refine wp_callf rfl ent40 (idx_ok y (ry) y256 HRY.out _) rfl (fun v w1 hr => ?_)
          obtain ⟨rfl, hb1⟩ := hr
          replace H := H.grow hb1
          clear hb1
          clear HS
          have HS := H
          refine hK.out _ _ HS ?_
          clear hK K
          simp only [Act.put, List.setIfInBounds_toArray, List.set_cons_zero, List.set_cons_succ]
          refine rg_take (i := 9) rfl (by kernel_rfl) (by kernel_rfl) (by kernel_rfl) (Yld.assign rfl rfl) HS ?_; simp only [Act.put, eval_tmp, eval_const, getD_lit0, getD_lits, if_true, if_false, List.setIfInBounds_toArray, List.set_cons_zero, List.set_cons_succ]
          refine rg_take (i := 10) rfl (by kernel_rfl) (by kernel_rfl) (by kernel_rfl) (Yld.assign rfl rfl) HS ?_; simp only [Act.put, eval_tmp, eval_const, getD_lit0, getD_lits, if_true, if_false, List.setIfInBounds_toArray, List.set_cons_zero, List.set_cons_succ]
          refine rg_done (by kernel_rfl) ?_
          go_wp2_with fail
          go_ret2
          rw [HE.out.1, HE.out.2]
          exact ⟨_, rfl, none, 0, rfl, World.ownsRow_nil _ _ _ _, H.below⟩
        | some a =>
          have a16 := val_lt hvx
          have HRX := Lib.hid (iv_some hvx)
          have dx' := dx.trans hvx
          cases hvy : val y with
          | none =>
            have HE := Lib.hid (un_bad s k (by omega) (.inr (dy.trans hvy)))
            have HRY := Lib.hid (iv_none hvy)
            clear hvx hvy dx dy dx'
            go_wp2_with fail
            refine rg_begin 11 rfl (S := fun W => St _ _ W _) (by kernel_rfl) H.drew ?_
            replace H := H.drew
            have HS := H
            refine rg_take (i := 0) rfl (by kernel_rfl) (by kernel_rfl) (by kernel_rfl) (Yld.move rfl rfl) HS ?_; simp only [Act.put, eval_tmp, eval_const, getD_lit0, getD_lits, if_true, if_false, List.setIfInBounds_toArray, List.set_cons_zero, List.set_cons_succ]
            refine rg_take (i := 1) rfl (by kernel_rfl) (by kernel_rfl) (by kernel_rfl) (Yld.move rfl rfl) HS ?_; simp only [Act.put, eval_tmp, eval_const, getD_lit0, getD_lits, if_true, if_false, List.setIfInBounds_toArray, List.set_cons_zero, List.set_cons_succ]
            refine rg_take (i := 2) rfl (by kernel_rfl) (by kernel_rfl) (by kernel_rfl) (Yld.index rfl rfl rfl rfl (fun W => str_index s _ _ (2 * k) x (by omega) HX1.out x256 W)) HS ?_; simp only [Act.put, eval_tmp, eval_const, getD_lit0, getD_lits, if_true, if_false, List.setIfInBounds_toArray, List.set_cons_zero, List.set_cons_succ]
            refine rg_take (i := 4) rfl (by kernel_rfl) (by kernel_rfl) (by kernel_rfl) (Yld.move rfl rfl) HS ?_; simp only [Act.put, eval_tmp, eval_const, getD_lit0, getD_lits, if_true, if_false, List.setIfInBounds_toArray, List.set_cons_zero, List.set_cons_succ]
            refine rg_take (i := 5) rfl (by kernel_rfl) (by kernel_rfl) (by kernel_rfl) (Yld.move rfl rfl) HS ?_; simp only [Act.put, eval_tmp, eval_const, getD_lit0, getD_lits, if_true, if_false, List.setIfInBounds_toArray, List.set_cons_zero, List.set_cons_succ]
            refine rg_take (i := 6) rfl (by kernel_rfl) (by kernel_rfl) (by kernel_rfl) (Yld.of (v := .int .i64 (2 * (k : Int) + 1)) rfl (fun W _ => by go_simp; first | done | exact HW.out)) HS ?_; simp only [Act.put, eval_tmp, eval_const, getD_lit0, getD_lits, if_true, if_false, List.setIfInBounds_toArray, List.set_cons_zero, List.set_cons_succ]
            refine rg_take (i := 7) rfl (by kernel_rfl) (by kernel_rfl) (by kernel_rfl) (Yld.index rfl rfl rfl rfl (fun W => str_index s _ _ (2 * k + 1) y (by omega) HY1.out y256 W)) HS ?_; simp only [Act.put, eval_tmp, eval_const, getD_lit0, getD_lits, if_true, if_false, List.setIfInBounds_toArray, List.set_cons_zero, List.set_cons_succ]
            refine rg_one (i := 3) (by kernel_rfl) rfl rfl (fun K hK => ?_)
            refine wp_callf rfl ent40 (idx_ok x ((a : Int)) x256 HRX.out _) rfl (fun v w1 hr => ?_)
            obtain ⟨rfl, hb1⟩ := hr
            replace H := H.grow hb1
            clear hb1
            clear HS
            have HS := H
            refine hK.out _ _ HS ?_
            clear hK K
            simp only [Act.put, List.setIfInBounds_toArray, List.set_cons_zero, List.set_cons_succ]
            refine rg_one (i := 8) (by kernel_rfl) rfl rfl (fun K hK => ?_)
            refine wp_callf rfl ent40 (idx_ok y (-1) y256 HRY.out _) rfl (fun v w1 hr => ?_)
            obtain ⟨rfl, hb1⟩ := hr
            replace H := H.grow hb1
            clear hb1
            clear HS
            have HS := H
            refine hK.out _ _ HS ?_
            clear hK K
            simp only [Act.put, List.setIfInBounds_toArray, List.set_cons_zero, List.set_cons_succ]
            refine rg_take (i := 9) rfl (by kernel_rfl) (by kernel_rfl) (by kernel_rfl) (Yld.assign rfl rfl) HS ?_; simp only [Act.put, eval_tmp, eval_const, getD_lit0, getD_lits, if_true, if_false, List.setIfInBounds_toArray, List.set_cons_zero, List.set_cons_succ]
            refine rg_take (i := 10) rfl (by kernel_rfl) (by kernel_rfl) (by kernel_rfl) (Yld.assign rfl rfl) HS ?_; simp only [Act.put, eval_tmp, eval_const, getD_lit0, getD_lits, if_true, if_false, List.setIfInBounds_toArray, List.set_cons_zero, List.set_cons_succ]
            refine rg_done (by kernel_rfl) ?_
            go_wp2_with fail
            go_ret2
            rw [HE.out.1, HE.out.2]
            exact ⟨_, rfl, none, 0, rfl, World.ownsRow_nil _ _ _ _, H.below⟩
          | some b =>
            have b16 := val_lt hvy
            have HRY := Lib.hid (iv_some hvy)
            have dy' := dy.trans hvy
            have hor := or16 a b a16 b16
            have hsn := unV_succ s k a b dx' dy'
            rw [HM.out] at hsn
            have HSN := Lib.hid hsn
            have HD := Lib.hid (And.intro dx' dy')
            clear hvx hvy dx dy dx' dy' hsn
            go_wp2_with fail
            refine rg_begin 11 rfl (S := fun W => St _ _ W _) (by kernel_rfl) H.drew ?_
            replace H := H.drew
            have HS := H
            refine rg_take (i := 0) rfl (by kernel_rfl) (by kernel_rfl) (by kernel_rfl) (Yld.move rfl rfl) HS ?_; simp only [Act.put, eval_tmp, eval_const, getD_lit0, getD_lits, if_true, if_false, List.setIfInBounds_toArray, List.set_cons_zero, List.set_cons_succ]
            refine rg_take (i := 1) rfl (by kernel_rfl) (by kernel_rfl) (by kernel_rfl) (Yld.move rfl rfl) HS ?_; simp only [Act.put, eval_tmp, eval_const, getD_lit0, getD_lits, if_true, if_false, List.setIfInBounds_toArray, List.set_cons_zero, List.set_cons_succ]
            refine rg_take (i := 2) rfl (by kernel_rfl) (by kernel_rfl) (by kernel_rfl) (Yld.index rfl rfl rfl rfl (fun W => str_index s _ _ (2 * k) x (by omega) HX1.out x256 W)) HS ?_; simp only [Act.put, eval_tmp, eval_const, getD_lit0, getD_lits, if_true, if_false, List.setIfInBounds_toArray, List.set_cons_zero, List.set_cons_succ]
            refine rg_take (i := 4) rfl (by kernel_rfl) (by kernel_rfl) (by kernel_rfl) (Yld.move rfl rfl) HS ?_; simp only [Act.put, eval_tmp, eval_const, getD_lit0, getD_lits, if_true, if_false, List.setIfInBounds_toArray, List.set_cons_zero, List.set_cons_succ]
            refine rg_take (i := 5) rfl (by kernel_rfl) (by kernel_rfl) (by kernel_rfl) (Yld.move rfl rfl) HS ?_; simp only [Act.put, eval_tmp, eval_const, getD_lit0, getD_lits, if_true, if_false, List.setIfInBounds_toArray, List.set_cons_zero, List.set_cons_succ]
            refine rg_take (i := 6) rfl (by kernel_rfl) (by kernel_rfl) (by kernel_rfl) (Yld.of (v := .int .i64 (2 * (k : Int) + 1)) rfl (fun W _ => by go_simp; first | done | exact HW.out)) HS ?_; simp only [Act.put, eval_tmp, eval_const, getD_lit0, getD_lits, if_true, if_false, List.setIfInBounds_toArray, List.set_cons_zero, List.set_cons_succ]
            refine rg_take (i := 7) rfl (by kernel_rfl) (by kernel_rfl) (by kernel_rfl) (Yld.index rfl rfl rfl rfl (fun W => str_index s _ _ (2 * k + 1) y (by omega) HY1.out y256 W)) HS ?_; simp only [Act.put, eval_tmp, eval_const, getD_lit0, getD_lits, if_true, if_false, List.setIfInBounds_toArray, List.set_cons_zero, List.set_cons_succ]
            refine rg_one (i := 3) (by kernel_rfl) rfl rfl (fun K hK => ?_)
            refine wp_callf rfl ent40 (idx_ok x ((a : Int)) x256 HRX.out _) rfl (fun v w1 hr => ?_)
            obtain ⟨rfl, hb1⟩ := hr
            replace H := H.grow hb1
            clear hb1
            clear HS
            have HS := H
            refine hK.out _ _ HS ?_
            clear hK K
            simp only [Act.put, List.setIfInBounds_toArray, List.set_cons_zero, List.set_cons_succ]
            refine rg_one (i := 8) (by kernel_rfl) rfl rfl (fun K hK => ?_)
            refine wp_callf rfl ent40 (idx_ok y ((b : Int)) y256 HRY.out _) rfl (fun v w1 hr => ?_)
            obtain ⟨rfl, hb1⟩ := hr
            replace H := H.grow hb1
            clear hb1
            clear HS
            have HS := H
            refine hK.out _ _ HS ?_
            clear hK K
            simp only [Act.put, List.setIfInBounds_toArray, List.set_cons_zero, List.set_cons_succ]
            refine rg_take (i := 9) rfl (by kernel_rfl) (by kernel_rfl) (by kernel_rfl) (Yld.assign rfl rfl) HS ?_; simp only [Act.put, eval_tmp, eval_const, getD_lit0, getD_lits, if_true, if_false, List.setIfInBounds_toArray, List.set_cons_zero, List.set_cons_succ]
            refine rg_take (i := 10) rfl (by kernel_rfl) (by kernel_rfl) (by kernel_rfl) (Yld.assign rfl rfl) HS ?_; simp only [Act.put, eval_tmp, eval_const, getD_lit0, getD_lits, if_true, if_false, List.setIfInBounds_toArray, List.set_cons_zero, List.set_cons_succ]
            refine rg_done (by kernel_rfl) ?_
            go_wp2_with (first | (with_reducible refine wpl rfl (Stp.bsl1 39 rfl rfl Try.underlying22 size5 zero5 rfl rfl H ?_); clear H; intro g39 w1 H; simp only [Act.put, List.setIfInBounds_toArray, List.set_cons_zero, List.set_cons_succ]) | (with_reducible refine wpl rfl (Stp.app 40 rfl rfl Try.underlying22 info5 rfl (by decide) rfl rfl H (fun _ => (by repeat (first | exact Upd.head | apply Upd.tail))) rfl (new1 (H.getRow (by repeat (first | exact List.mem_cons_self | apply List.mem_cons_of_mem)))) (by simp [Value.oneCell']) (by unfold maxLen; omega) (by omega) ?_); clear H; intro a40 c40 w1 H; simp only [Act.put, List.setIfInBounds_toArray, List.set_cons_zero, List.set_cons_succ]))
            go_roundw
            case rel =>
              exact ⟨k + 1, _, _, m ++ [a * 16 + b], by omega, by go_num, HSN, by simp [hmn], rfl, Lib.hid (fun j hj => by
                rcases Nat.lt_or_ge j k with h | h
                · exact HA.out j h
                · obtain rfl : j = k := by omega
                  rw [HD.out.1, HD.out.2]; exact ⟨rfl, rfl⟩), by rw [← bv_app]; exact H.sub (by repeat (first | exact List.Sublist.refl _ | exact List.nil_sublist _ | (with_reducible apply List.Sublist.cons_cons) | apply List.Sublist.cons))⟩
            case measure => simp [intOf]; omega
      · have hk2 : s.length / 2 = k := by omega
        obtain ⟨e1, e2⟩ := un_good s (by omega) (by rw [hk2]; exact HA.out)
        rw [hk2, HM.out] at e1
        have HE := Lib.hid (And.intro e1 e2)
        have kli : (2 : Int) * (k : Int) = (s.length : Int) := by omega
        have kls : s.length = 2 * k := by omega
        have KL := Lib.hid kls
        clear e1 e2 kli kls
        have kge : ¬ (2 : Int) * (k : Int) < (s.length : Int) := by omega
        go_wp2_with fail
        go_ret2
        subst hmn
        rw [HE.out.1, HE.out.2]
        exact ⟨_, rfl, _, _, rfl, H.getSlc (by repeat (first | exact List.mem_cons_self | apply List.mem_cons_of_mem)), H.below⟩
end Go.Proofs.Ytmeampigomhdpaa
