/- Contracts of layer 1's references Form, Same, Width, Lent, Kept; the bounds on lengths stand in each. -/
import Derived.Test.YtjghcmejmdllbaaBits2
namespace Go.Proofs.Ytjghcmejmdllbaa
open Go.ChangeShapes Go.WideShapes Go.ChangeAt Go.RowKit
set_option linter.unusedVariables false
set_option linter.unusedSimpArgs false
/-- Some bytes' slice, one of its bytes. -/
theorem Sl.byte {w : World} {a : Option Addr} {c : Nat} {l : List Nat} (h : Sl w 1 l.length (.slice a l.length c) (elB l)) {k : Nat} (hk : k < l.length) :
    ∃ b off, a = some ⟨b, off, none⟩ ∧ b < w.heap.size ∧ w.cell? ⟨b, off + k, none⟩ = some (.int .u8 ((l.getD k 0 : Nat) : Int)) := by
  obtain ⟨a', c', e, hm, hE⟩ := h
  injection e with e1 e2 e3
  subst e1
  obtain ⟨b, off, rfl, hb, hc⟩ := hE (by omega)
  refine ⟨b, off, rfl, hb, ?_⟩
  have := hc k hk 0 (by omega)
  rw [Nat.mul_one, Nat.add_zero] at this
  rw [this]; simp [elB]
theorem Sl.len {w : World} {v : Value} {l : List Nat} (h : Sl w 1 l.length v (elB l)) : ∃ a c, v = .slice a l.length c ∧ l.length ≤ 9223372036854775807 := by
  obtain ⟨a, c, rfl, hm, _⟩ := h
  exact ⟨a, c, rfl, by unfold maxLen at hm; omega⟩
theorem take_snoc (l : List Nat) (k : Nat) (h : k < l.length) : l.take (k + 1) = l.take k ++ [l.getD k 0] := by
  rw [List.take_succ_eq_append_getElem h]; simp [List.getD, h]
theorem same_ok (va vb : Value) (la lb : List Nat) (w : World) (ha : Sl w 1 la.length va (elB la)) (hb : Sl w 1 lb.length vb (elB lb)) :
    Calls Try.prog 98 #[va, vb] w (Ret fun v w' => v = .bool (la == lb) ∧ Below w.heap.size w w') := by
  have ha' := ha
  have hb' := hb
  obtain ⟨aa, ca, rfl, hma⟩ := ha'.len
  obtain ⟨ab, cb, rfl, hmb⟩ := hb'.len
  have H := St.init w
  by_cases hlen : la.length = lb.length
  · have h1 : ((la.length : Int) != (lb.length : Int)) = false := by simp [hlen]
    have HL := Lib.hid hlen
    clear hlen
    go_enter Try.func98, Try.ntmps98
    go_wp2_with fail
    go_loopw [5] (fun i wr => ∃ k : Nat, k ≤ la.length ∧ i = .int .i64 k ∧ la.take k = lb.take k ∧ St w.heap.size w wr []) (fun i _ => la.length - (intOf i).toNat)
    case atStart => exact ⟨0, Nat.zero_le _, rfl, rfl, H⟩
    case round =>
      clear H
      obtain ⟨k, hk, rfl, ht, H⟩ := hrel
      have HT := Lib.hid ht
      clear ht
      by_cases hlt : k < la.length
      · have hlt2 : k < lb.length := by have := HL.out; omega
        obtain ⟨b1, o1, rfl, hb1, hc1⟩ := ha.byte hlt
        obtain ⟨b2, o2, rfl, hb2, hc2⟩ := hb.byte hlt2
        have hs1 := take_snoc la k hlt
        have hs2 := take_snoc lb k hlt2
        have HS1 := Lib.hid hs1
        have HS2 := Lib.hid hs2
        clear hs1 hs2
        by_cases he : la.getD k 0 = lb.getD k 0
        · have hne : (((la.getD k 0 : Nat) : Int) != ((lb.getD k 0 : Nat) : Int)) = false := by rw [he]; exact bne_self_eq_false _
          have HE := Lib.hid he
          clear he
          obtain ⟨x, hx⟩ : ∃ x : Int, x = ((la.getD k 0 : Nat) : Int) := ⟨_, rfl⟩
          obtain ⟨y, hy⟩ : ∃ y : Int, y = ((lb.getD k 0 : Nat) : Int) := ⟨_, rfl⟩
          rw [← hx] at hc1 hne
          rw [← hy] at hc2 hne
          clear hx hy
          go_wp2_with fail
          refine rg_begin 9 rfl (S := fun W => St _ _ W _) (by kernel_rfl) H.drew ?_
          replace H := H.drew
          have HS := H
          refine rg_take (i := 0) rfl kR kR kR (Yld.move rfl rfl) HS ?_; simp only [pS, pE]
          refine rg_take (i := 1) rfl kR kR kR (Yld.move rfl rfl) HS ?_; simp only [pS, pE]
          refine rg_take (i := 2) rfl kR kR kR (Yld.o rfl) HS ?_; simp only [pS]
          first | (refine rg_take (i := 3) rfl kR kR kR (Yld.ldc rfl rfl agg5 rfl mR cE) HS ?_; simp only [pS]) | (refine rg_take (i := 3) rfl kR kR kR (Yld.ldo rfl rfl agg5 rfl (by assumption) (by assumption)) HS ?_; simp only [pS])
          refine rg_take (i := 4) rfl kR kR kR (Yld.move rfl rfl) HS ?_; simp only [pS, pE]
          refine rg_take (i := 5) rfl kR kR kR (Yld.move rfl rfl) HS ?_; simp only [pS, pE]
          refine rg_take (i := 6) rfl kR kR kR (Yld.o rfl) HS ?_; simp only [pS]
          first | (refine rg_take (i := 7) rfl kR kR kR (Yld.ldc rfl rfl agg5 rfl mR cE) HS ?_; simp only [pS]) | (refine rg_take (i := 7) rfl kR kR kR (Yld.ldo rfl rfl agg5 rfl (by assumption) (by assumption)) HS ?_; simp only [pS])
          refine rg_take (i := 8) rfl kR kR kR (Yld.o rfl) HS ?_; simp only [pS]
          refine rg_done (by kernel_rfl) ?_
          go_wp2_with fail
          go_roundw
          case rel => exact ⟨k + 1, by omega, by go_num, by rw [HS1.out, HS2.out, HT.out, HE.out], H⟩
          case measure => simp [intOf]; omega
        · have hne : (((la.getD k 0 : Nat) : Int) != ((lb.getD k 0 : Nat) : Int)) = true := bne_iff_ne.2 (by omega)
          have HE := Lib.hid he
          clear he
          obtain ⟨x, hx⟩ : ∃ x : Int, x = ((la.getD k 0 : Nat) : Int) := ⟨_, rfl⟩
          obtain ⟨y, hy⟩ : ∃ y : Int, y = ((lb.getD k 0 : Nat) : Int) := ⟨_, rfl⟩
          rw [← hx] at hc1 hne
          rw [← hy] at hc2 hne
          clear hx hy
          go_wp2_with fail
          refine rg_begin 9 rfl (S := fun W => St _ _ W _) (by kernel_rfl) H.drew ?_
          replace H := H.drew
          have HS := H
          refine rg_take (i := 0) rfl kR kR kR (Yld.move rfl rfl) HS ?_; simp only [pS, pE]
          refine rg_take (i := 1) rfl kR kR kR (Yld.move rfl rfl) HS ?_; simp only [pS, pE]
          refine rg_take (i := 2) rfl kR kR kR (Yld.o rfl) HS ?_; simp only [pS]
          first | (refine rg_take (i := 3) rfl kR kR kR (Yld.ldc rfl rfl agg5 rfl mR cE) HS ?_; simp only [pS]) | (refine rg_take (i := 3) rfl kR kR kR (Yld.ldo rfl rfl agg5 rfl (by assumption) (by assumption)) HS ?_; simp only [pS])
          refine rg_take (i := 4) rfl kR kR kR (Yld.move rfl rfl) HS ?_; simp only [pS, pE]
          refine rg_take (i := 5) rfl kR kR kR (Yld.move rfl rfl) HS ?_; simp only [pS, pE]
          refine rg_take (i := 6) rfl kR kR kR (Yld.o rfl) HS ?_; simp only [pS]
          first | (refine rg_take (i := 7) rfl kR kR kR (Yld.ldc rfl rfl agg5 rfl mR cE) HS ?_; simp only [pS]) | (refine rg_take (i := 7) rfl kR kR kR (Yld.ldo rfl rfl agg5 rfl (by assumption) (by assumption)) HS ?_; simp only [pS])
          refine rg_take (i := 8) rfl kR kR kR (Yld.o rfl) HS ?_; simp only [pS]
          refine rg_done (by kernel_rfl) ?_
          go_wp2_with fail
          go_ret
          refine ⟨_, rfl, ?_, H.below⟩
          have : (la == lb) = false := by
            simp only [beq_eq_false_iff_ne]; rintro rfl; exact HE.out rfl
          rw [this]; rfl
      · obtain rfl : k = la.length := by omega
        go_wp2_with fail
        go_ret
        refine ⟨_, rfl, ?_, H.below⟩
        have h2 := HT.out
        rw [List.take_length, HL.out, List.take_length] at h2
        rw [h2]; simp
  · have h1 : ((la.length : Int) != (lb.length : Int)) = true := by simp; omega
    go_enter Try.func98, Try.ntmps98
    go_wp2_with fail
    go_ret
    refine ⟨_, rfl, ?_, H.below⟩
    have : (la == lb) = false := by
      simp only [beq_eq_false_iff_ne]; rintro rfl; exact hlen rfl
    rw [this]; rfl
theorem putB_cons (n k : Nat) : putB n (k + 1) (k + 1) = n / 256 ^ k % 256 :: putB n k k := by
  unfold putB
  rw [List.range_succ_eq_map]
  simp only [List.map_cons, List.map_map]
  congr 1
  refine List.map_congr_left fun j _ => ?_
  simp only [Function.comp]
  rw [show k + 1 - 1 - (j + 1) = k - 1 - j by omega]
theorem form_step (n W k : Nat) (hk : k < W) : ((bv (List.replicate (W - k) 0 ++ putB n k k)).set (W - 1 - k) (.int .u8 ((n / 256 ^ k % 256 : Nat) : Int))).toArray = (bv (List.replicate (W - (k + 1)) 0 ++ putB n (k + 1) (k + 1))).toArray := by
  rw [putB_cons]
  have e : List.replicate (W - k) 0 = List.replicate (W - (k + 1)) 0 ++ [0] := by
    rw [show W - k = (W - (k + 1)) + 1 by omega, List.replicate_succ']
  rw [e]
  simp only [bv, List.map_append]
  congr 1
  rw [List.append_assoc, List.set_append]
  rw [if_neg (by simp; omega)]
  simp only [List.length_map, List.length_replicate]
  rw [show W - 1 - k - (W - (k + 1)) = 0 by omega]
  simp
theorem wrap_u64_in (x : Int) (h0 : 0 ≤ x) (h1 : x < 18446744073709551616) : IntKind.u64.wrap x = x := by
  simp [IntKind.wrap, IntKind.signed, IntKind.bits]; omega
end Go.Proofs.Ytjghcmejmdllbaa
