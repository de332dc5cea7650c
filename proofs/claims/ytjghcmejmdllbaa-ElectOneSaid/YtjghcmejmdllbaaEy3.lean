/- Contracts of layer 1's functions (bits) and of its references: what each call returns; the bounds on lengths stand in each. Contracts of layer 1's references Form, Same, Width, Lent, Kept; the bounds on lengths stand in each. More rules of the small logic of owned memory: an empty literal as a slice of the call's own, and append of any slice. No condition. The frame round a law: what a walk that returns true and writes nothing that was there gives of its row; the readings of arguments, opened. No condition. My logic of owned memory, fifth part: a struct's field that is a struct, a slice's rest; no condition. My logic of owned memory, third part: slices whose elements have several cells; no condition. A slice that is only read: its address, an element's cells; loads of what is known now. No condition. A map of the call's own as a resource: its pairs in the order in which they came; look-up, store, len; no condition. My logic of owned memory: a slice of the call's own, read and written in place; maps in regions that draw their order; no condition. -/
import Derived.Test.YtjghcmejmdllbaaRows
import Derived.ShutString
import Derived.ChangeOld
import Derived.Deep.Slices
import Derived.Deep.Fields
import Derived.Maps.Keyed
import Derived.MapKept
import Derived.DeepKeys4
import Derived.Carry
import Derived.Test.YtjghcmejmdllbaaEy2
namespace Go.Proofs.Ytjghcmejmdllbaa
open Go.ChangeShapes Go.WideShapes Go.ChangeAt Go.RowKit
set_option linter.unusedVariables false
set_option linter.unusedSimpArgs false
theorem agg3 : ∀ W : World, (isAgg 3).run Try.prog W = .ok false W := fun _ => by kernel_rfl
theorem size3 : ∀ W : World, (sizeOf 3).run Try.prog W = .ok 1 W := fun _ => by kernel_rfl
theorem agg4 : ∀ W : World, (isAgg 4).run Try.prog W = .ok false W := fun _ => by kernel_rfl
theorem size4 : ∀ W : World, (sizeOf 4).run Try.prog W = .ok 1 W := fun _ => by kernel_rfl
theorem agg5 : ∀ W : World, (isAgg 5).run Try.prog W = .ok false W := fun _ => by kernel_rfl
theorem agg22 : ∀ W : World, (isAgg 22).run Try.prog W = .ok false W := fun _ => by kernel_rfl
theorem size22 : ∀ W : World, (sizeOf 22).run Try.prog W = .ok 1 W := fun _ => by kernel_rfl
theorem agg23 : ∀ W : World, (isAgg 23).run Try.prog W = .ok false W := fun _ => by kernel_rfl
theorem size23 : ∀ W : World, (sizeOf 23).run Try.prog W = .ok 1 W := fun _ => by kernel_rfl
theorem agg24 : ∀ W : World, (isAgg 24).run Try.prog W = .ok false W := fun _ => by kernel_rfl
theorem size24 : ∀ W : World, (sizeOf 24).run Try.prog W = .ok 1 W := fun _ => by kernel_rfl
theorem agg26 : ∀ W : World, (isAgg 26).run Try.prog W = .ok true W := fun _ => by kernel_rfl
theorem size26 : ∀ W : World, (sizeOf 26).run Try.prog W = .ok 4 W := fun _ => by kernel_rfl
theorem agg33 : ∀ W : World, (isAgg 33).run Try.prog W = .ok false W := fun _ => by kernel_rfl
theorem agg34 : ∀ W : World, (isAgg 34).run Try.prog W = .ok false W := fun _ => by kernel_rfl
theorem agg36 : ∀ W : World, (isAgg 36).run Try.prog W = .ok true W := fun _ => by kernel_rfl
theorem size36 : ∀ W : World, (sizeOf 36).run Try.prog W = .ok 2 W := fun _ => by kernel_rfl
theorem agg37 : ∀ W : World, (isAgg 37).run Try.prog W = .ok false W := fun _ => by kernel_rfl
theorem size37 : ∀ W : World, (sizeOf 37).run Try.prog W = .ok 1 W := fun _ => by kernel_rfl
theorem agg43 : ∀ W : World, (isAgg 43).run Try.prog W = .ok true W := fun _ => by kernel_rfl
theorem size43 : ∀ W : World, (sizeOf 43).run Try.prog W = .ok 10 W := fun _ => by kernel_rfl
theorem agg63 : ∀ W : World, (isAgg 63).run Try.prog W = .ok false W := fun _ => by kernel_rfl
theorem size63 : ∀ W : World, (sizeOf 63).run Try.prog W = .ok 1 W := fun _ => by kernel_rfl
theorem agg67 : ∀ W : World, (isAgg 67).run Try.prog W = .ok true W := fun _ => by kernel_rfl
theorem size67 : ∀ W : World, (sizeOf 67).run Try.prog W = .ok 3 W := fun _ => by kernel_rfl
theorem agg74 : ∀ W : World, (isAgg 74).run Try.prog W = .ok true W := fun _ => by kernel_rfl
theorem size74 : ∀ W : World, (sizeOf 74).run Try.prog W = .ok 29 W := fun _ => by kernel_rfl
theorem agg103 : ∀ W : World, (isAgg 103).run Try.prog W = .ok false W := fun _ => by kernel_rfl
theorem size103 : ∀ W : World, (sizeOf 103).run Try.prog W = .ok 1 W := fun _ => by kernel_rfl
theorem agg125 : ∀ W : World, (isAgg 125).run Try.prog W = .ok false W := fun _ => by kernel_rfl
theorem size125 : ∀ W : World, (sizeOf 125).run Try.prog W = .ok 1 W := fun _ => by kernel_rfl
theorem agg127 : ∀ W : World, (isAgg 127).run Try.prog W = .ok true W := fun _ => by kernel_rfl
theorem size127 : ∀ W : World, (sizeOf 127).run Try.prog W = .ok 2 W := fun _ => by kernel_rfl
theorem agg154 : ∀ W : World, (isAgg 154).run Try.prog W = .ok false W := fun _ => by kernel_rfl
theorem size154 : ∀ W : World, (sizeOf 154).run Try.prog W = .ok 1 W := fun _ => by kernel_rfl
theorem size184 : ∀ W : World, (sizeOf 184).run Try.prog W = .ok 0 W := fun _ => by kernel_rfl
theorem agg187 : ∀ W : World, (isAgg 187).run Try.prog W = .ok false W := fun _ => by kernel_rfl
theorem zero26 : ∀ W : World, (zeroValue 26).run Try.prog W = .ok (.agg #[(.int .u64 0), (.slice none 0 0), (.slice none 0 0), (.slice none 0 0)]) W := fun _ => by kernel_rfl
theorem zero36 : ∀ W : World, (zeroValue 36).run Try.prog W = .ok (.agg #[(.int .u16 0), (.int .u32 0)]) W := fun _ => by kernel_rfl
theorem zero43 : ∀ W : World, (zeroValue 43).run Try.prog W = .ok (.agg #[(.int .i64 0), (.int .u16 0), (.int .u32 0), (.int .u64 0), (.int .u64 0), (.slice none 0 0), (.int .u64 0), (.slice none 0 0), (.slice none 0 0), (.slice none 0 0)]) W := fun _ => by kernel_rfl
theorem zero67 : ∀ W : World, (zeroValue 67).run Try.prog W = .ok (.agg #[(.int .u32 0), (.int .u16 0), (.int .u32 0)]) W := fun _ => by kernel_rfl
theorem zero74 : ∀ W : World, (zeroValue 74).run Try.prog W = .ok (.agg #[(.int .i64 0), (.int .u16 0), (.int .u32 0), (.int .u64 0), (.int .u64 0), (.int .u64 0), (.int .i64 0), (.int .u32 0), (.int .u16 0), (.int .u32 0), (.int .u32 0), (.int .u16 0), (.int .u32 0), (.bool false), (.int .i64 0), (.int .u16 0), (.int .u32 0), (.int .u64 0), (.int .u64 0), (.slice none 0 0), (.int .u64 0), (.slice none 0 0), (.slice none 0 0), (.slice none 0 0), (.int .u64 0), (.slice none 0 0), (.slice none 0 0), (.slice none 0 0), (.slice none 0 0)]) W := fun _ => by kernel_rfl
theorem zero102 : ∀ W : World, (zeroValue 102).run Try.prog W = .ok (.agg #[(.pointer none), (.pointer none), (.pointer none)]) W := fun _ => by kernel_rfl
theorem zero104 : ∀ W : World, (zeroValue 104).run Try.prog W = .ok (.agg #[(.pointer none), (.pointer none), (.pointer none)]) W := fun _ => by kernel_rfl
theorem zero127 : ∀ W : World, (zeroValue 127).run Try.prog W = .ok (.agg #[(.int .u64 0), (.int .u64 0)]) W := fun _ => by kernel_rfl
theorem zero184 : ∀ W : World, (zeroValue 184).run Try.prog W = .ok (.agg #[]) W := fun _ => by kernel_rfl
theorem info5 : (Try.prog.info? 5).map (fun i => (i.zero, i.size, i.bytes)) = some (some (.int .u8 0), 1, 1) := by kernel_rfl
theorem info23 : (Try.prog.info? 23).map (fun i => (i.zero, i.size, i.bytes)) = some (some (.slice none 0 0), 1, 24) := by kernel_rfl
theorem info36 : (Try.prog.info? 36).map (fun i => (i.zero, i.size, i.bytes)) = some (some (.agg #[(.int .u16 0), (.int .u32 0)]), 2, 8) := by kernel_rfl
theorem ent31 : ∀ (xs : Array Value) (W : World), (callFunc 31 xs).run Try.prog W = .ok (.enter 31 xs) W := fun _ _ => by kernel_rfl
theorem ent34 : ∀ (xs : Array Value) (W : World), (callFunc 34 xs).run Try.prog W = .ok (.enter 34 xs) W := fun _ _ => by kernel_rfl
theorem ent41 : ∀ (xs : Array Value) (W : World), (callFunc 41 xs).run Try.prog W = .ok (.enter 41 xs) W := fun _ _ => by kernel_rfl
theorem ent42 : ∀ (xs : Array Value) (W : World), (callFunc 42 xs).run Try.prog W = .ok (.enter 42 xs) W := fun _ _ => by kernel_rfl
theorem ent55 : ∀ (xs : Array Value) (W : World), (callFunc 55 xs).run Try.prog W = .ok (.enter 55 xs) W := fun _ _ => by kernel_rfl
theorem ent56 : ∀ (xs : Array Value) (W : World), (callFunc 56 xs).run Try.prog W = .ok (.enter 56 xs) W := fun _ _ => by kernel_rfl
theorem ent66 : ∀ (xs : Array Value) (W : World), (callFunc 66 xs).run Try.prog W = .ok (.enter 66 xs) W := fun _ _ => by kernel_rfl
theorem ent79 : ∀ (xs : Array Value) (W : World), (callFunc 79 xs).run Try.prog W = .ok (.enter 79 xs) W := fun _ _ => by kernel_rfl
theorem ent80 : ∀ (xs : Array Value) (W : World), (callFunc 80 xs).run Try.prog W = .ok (.enter 80 xs) W := fun _ _ => by kernel_rfl
theorem ent81 : ∀ (xs : Array Value) (W : World), (callFunc 81 xs).run Try.prog W = .ok (.enter 81 xs) W := fun _ _ => by kernel_rfl
theorem ent82 : ∀ (xs : Array Value) (W : World), (callFunc 82 xs).run Try.prog W = .ok (.enter 82 xs) W := fun _ _ => by kernel_rfl
theorem ent83 : ∀ (xs : Array Value) (W : World), (callFunc 83 xs).run Try.prog W = .ok (.enter 83 xs) W := fun _ _ => by kernel_rfl
theorem ent84 : ∀ (xs : Array Value) (W : World), (callFunc 84 xs).run Try.prog W = .ok (.enter 84 xs) W := fun _ _ => by kernel_rfl
theorem ent117 : ∀ (xs : Array Value) (W : World), (callFunc 117 xs).run Try.prog W = .ok (.enter 117 xs) W := fun _ _ => by kernel_rfl
theorem ent119 : ∀ (xs : Array Value) (W : World), (callFunc 119 xs).run Try.prog W = .ok (.enter 119 xs) W := fun _ _ => by kernel_rfl
theorem ent134 : ∀ (xs : Array Value) (W : World), (callFunc 134 xs).run Try.prog W = .ok (.enter 134 xs) W := fun _ _ => by kernel_rfl
theorem ent135 : ∀ (xs : Array Value) (W : World), (callFunc 135 xs).run Try.prog W = .ok (.enter 135 xs) W := fun _ _ => by kernel_rfl
theorem ent136 : ∀ (xs : Array Value) (W : World), (callFunc 136 xs).run Try.prog W = .ok (.enter 136 xs) W := fun _ _ => by kernel_rfl
theorem ent137 : ∀ (xs : Array Value) (W : World), (callFunc 137 xs).run Try.prog W = .ok (.enter 137 xs) W := fun _ _ => by kernel_rfl
theorem ent144 : ∀ (xs : Array Value) (W : World), (callFunc 144 xs).run Try.prog W = .ok (.enter 144 xs) W := fun _ _ => by kernel_rfl
/-- Bytes, as values. -/
def bv (l : List Nat) : List Value := l.map fun (x : Nat) => .int .u8 (x : Int)
def elB (l : List Nat) (i : Nat) : Array Value := #[.int .u8 ((l.getD i 0 : Nat) : Int)]
theorem bv_len (l : List Nat) : (bv l).length = l.length := by simp [bv]
theorem bv_one (l : List Nat) : ∀ u ∈ bv l, u.oneCell' = true := by
  intro u hu; obtain ⟨x, _, rfl⟩ := List.mem_map.1 hu; rfl
theorem Sl.src {w : World} {a : Option Addr} {c : Nat} {l : List Nat} (h : Sl w 1 l.length (.slice a l.length c) (elB l)) : 0 < l.length → ∃ ad, a = some ad ∧ ∀ j u, (bv l)[j]? = some u → w.cell? (ad.add j) = some u := by
  obtain ⟨a', c', e, hm, hE⟩ := h
  injection e with e1 e2 e3
  subst e1
  intro h0
  obtain ⟨b, off, rfl, hb, hc⟩ := hE h0
  refine ⟨_, rfl, fun j u hu => ?_⟩
  have hj : j < l.length := by
    rcases Nat.lt_or_ge j l.length with h | h
    · exact h
    · rw [List.getElem?_eq_none (by rw [bv_len]; exact h)] at hu; cases hu
  have hadd : (⟨b, off, none⟩ : Addr).add j = ⟨b, off + j, none⟩ := by unfold Addr.add; split <;> simp_all
  have := hc j hj 0 (by omega)
  rw [Nat.mul_one, Nat.add_zero] at this
  rw [hadd, this, ← hu]
  simp [elB, bv, List.getD, hj]
end Go.Proofs.Ytjghcmejmdllbaa
namespace Go.Proofs.Ytjghcmejmdllbaa
open Go.ChangeShapes Go.WideShapes Go.ChangeAt Go.RowKit
set_option linter.unusedVariables false
set_option linter.unusedSimpArgs false
/-- Some bytes' slice, one of its bytes. -/
theorem Sl.byte {w : World} {a : Option Addr} {c : Nat} {l : List Nat} (h : Sl w 1 l.length (.slice a l.length c) (elB l)) {k : Nat} (hk : k < l.length) :
    ∃ b off, a = some ⟨b, off, none⟩ ∧ b < w.heap.size ∧ w.cell? ⟨b, off + k, none⟩ = some (.int .u8 ((l.getD k 0 : Nat) : Int)) := by
  obtain ⟨a', c', e, hm, hE⟩ := h
  injection e with e1 e2 e3
  subst e1
  obtain ⟨b, off, rfl, hb, hc⟩ := hE (by omega)
  refine ⟨b, off, rfl, hb, ?_⟩
  have := hc k hk 0 (by omega)
  rw [Nat.mul_one, Nat.add_zero] at this
  rw [this]; simp [elB]
theorem Sl.len {w : World} {v : Value} {l : List Nat} (h : Sl w 1 l.length v (elB l)) : ∃ a c, v = .slice a l.length c ∧ l.length ≤ 9223372036854775807 := by
  obtain ⟨a, c, rfl, hm, _⟩ := h
  exact ⟨a, c, rfl, by unfold maxLen at hm; omega⟩
theorem take_snoc (l : List Nat) (k : Nat) (h : k < l.length) : l.take (k + 1) = l.take k ++ [l.getD k 0] := by
  rw [List.take_succ_eq_append_getElem h]; simp [List.getD, h]
theorem same_ok (va vb : Value) (la lb : List Nat) (w : World) (ha : Sl w 1 la.length va (elB la)) (hb : Sl w 1 lb.length vb (elB lb)) :
    Calls Try.prog 98 #[va, vb] w (Ret fun v w' => v = .bool (la == lb) ∧ Below w.heap.size w w') := by
  have ha' := ha
  have hb' := hb
  obtain ⟨aa, ca, rfl, hma⟩ := ha'.len
  obtain ⟨ab, cb, rfl, hmb⟩ := hb'.len
  have H := St.init w
  by_cases hlen : la.length = lb.length
  · have h1 : ((la.length : Int) != (lb.length : Int)) = false := by simp [hlen]
    have HL := Lib.hid hlen
    clear hlen
    go_enter Try.func98, Try.ntmps98
    go_wp2_with fail
    go_loopw [5] (fun i wr => ∃ k : Nat, k ≤ la.length ∧ i = .int .i64 k ∧ la.take k = lb.take k ∧ St w.heap.size w wr []) (fun i _ => la.length - (intOf i).toNat)
    case atStart => exact ⟨0, Nat.zero_le _, rfl, rfl, H⟩
    case round =>
      clear H
      obtain ⟨k, hk, rfl, ht, H⟩ := hrel
      have HT := Lib.hid ht
      clear ht
      by_cases hlt : k < la.length
      · have hlt2 : k < lb.length := by have := HL.out; omega
        obtain ⟨b1, o1, rfl, hb1, hc1⟩ := ha.byte hlt
        obtain ⟨b2, o2, rfl, hb2, hc2⟩ := hb.byte hlt2
        have hs1 := take_snoc la k hlt
        have hs2 := take_snoc lb k hlt2
        have HS1 := Lib.hid hs1
        have HS2 := Lib.hid hs2
        clear hs1 hs2
        by_cases he : la.getD k 0 = lb.getD k 0
        · have hne : (((la.getD k 0 : Nat) : Int) != ((lb.getD k 0 : Nat) : Int)) = false := by rw [he]; exact bne_self_eq_false _
          have HE := Lib.hid he
          clear he
          obtain ⟨x, hx⟩ : ∃ x : Int, x = ((la.getD k 0 : Nat) : Int) := ⟨_, rfl⟩
          obtain ⟨y, hy⟩ : ∃ y : Int, y = ((lb.getD k 0 : Nat) : Int) := ⟨_, rfl⟩
          rw [← hx] at hc1 hne
          rw [← hy] at hc2 hne
          clear hx hy
          go_wp2_with fail
          refine rg_begin 9 rfl (S := fun W => St _ _ W _) (by kernel_rfl) H.drew ?_
          replace H := H.drew
          have HS := H
          refine rg_take (i := 0) rfl kR kR kR (Yld.move rfl rfl) HS ?_; simp only [pS, pE]
          refine rg_take (i := 1) rfl kR kR kR (Yld.move rfl rfl) HS ?_; simp only [pS, pE]
          refine rg_take (i := 2) rfl kR kR kR (Yld.o rfl) HS ?_; simp only [pS]
          first | (refine rg_take (i := 3) rfl kR kR kR (Yld.ldo rfl rfl agg5 rfl (by assumption) (by assumption)) HS ?_; simp only [pS]) | (refine rg_take (i := 3) rfl kR kR kR (Yld.ldc rfl rfl agg5 rfl mR cE) HS ?_; simp only [pS])
          refine rg_take (i := 4) rfl kR kR kR (Yld.move rfl rfl) HS ?_; simp only [pS, pE]
          refine rg_take (i := 5) rfl kR kR kR (Yld.move rfl rfl) HS ?_; simp only [pS, pE]
          refine rg_take (i := 6) rfl kR kR kR (Yld.o rfl) HS ?_; simp only [pS]
          first | (refine rg_take (i := 7) rfl kR kR kR (Yld.ldo rfl rfl agg5 rfl (by assumption) (by assumption)) HS ?_; simp only [pS]) | (refine rg_take (i := 7) rfl kR kR kR (Yld.ldc rfl rfl agg5 rfl mR cE) HS ?_; simp only [pS])
          refine rg_take (i := 8) rfl kR kR kR (Yld.o rfl) HS ?_; simp only [pS]
          refine rg_done (by kernel_rfl) ?_
          go_wp2_with fail
          go_roundw
          case rel => exact ⟨k + 1, by omega, by go_num, by rw [HS1.out, HS2.out, HT.out, HE.out], H⟩
          case measure => simp [intOf]; omega
        · have hne : (((la.getD k 0 : Nat) : Int) != ((lb.getD k 0 : Nat) : Int)) = true := bne_iff_ne.2 (by omega)
          have HE := Lib.hid he
          clear he
          obtain ⟨x, hx⟩ : ∃ x : Int, x = ((la.getD k 0 : Nat) : Int) := ⟨_, rfl⟩
          obtain ⟨y, hy⟩ : ∃ y : Int, y = ((lb.getD k 0 : Nat) : Int) := ⟨_, rfl⟩
          rw [← hx] at hc1 hne
          rw [← hy] at hc2 hne
          clear hx hy
          go_wp2_with fail
          refine rg_begin 9 rfl (S := fun W => St _ _ W _) (by kernel_rfl) H.drew ?_
          replace H := H.drew
          have HS := H
          refine rg_take (i := 0) rfl kR kR kR (Yld.move rfl rfl) HS ?_; simp only [pS, pE]
          refine rg_take (i := 1) rfl kR kR kR (Yld.move rfl rfl) HS ?_; simp only [pS, pE]
          refine rg_take (i := 2) rfl kR kR kR (Yld.o rfl) HS ?_; simp only [pS]
          first | (refine rg_take (i := 3) rfl kR kR kR (Yld.ldo rfl rfl agg5 rfl (by assumption) (by assumption)) HS ?_; simp only [pS]) | (refine rg_take (i := 3) rfl kR kR kR (Yld.ldc rfl rfl agg5 rfl mR cE) HS ?_; simp only [pS])
          refine rg_take (i := 4) rfl kR kR kR (Yld.move rfl rfl) HS ?_; simp only [pS, pE]
          refine rg_take (i := 5) rfl kR kR kR (Yld.move rfl rfl) HS ?_; simp only [pS, pE]
          refine rg_take (i := 6) rfl kR kR kR (Yld.o rfl) HS ?_; simp only [pS]
          first | (refine rg_take (i := 7) rfl kR kR kR (Yld.ldo rfl rfl agg5 rfl (by assumption) (by assumption)) HS ?_; simp only [pS]) | (refine rg_take (i := 7) rfl kR kR kR (Yld.ldc rfl rfl agg5 rfl mR cE) HS ?_; simp only [pS])
          refine rg_take (i := 8) rfl kR kR kR (Yld.o rfl) HS ?_; simp only [pS]
          refine rg_done (by kernel_rfl) ?_
          go_wp2_with fail
          go_ret
          refine ⟨_, rfl, ?_, H.below⟩
          have : (la == lb) = false := by
            simp only [beq_eq_false_iff_ne]; rintro rfl; exact HE.out rfl
          rw [this]; rfl
      · obtain rfl : k = la.length := by omega
        go_wp2_with fail
        go_ret
        refine ⟨_, rfl, ?_, H.below⟩
        have h2 := HT.out
        rw [List.take_length, HL.out, List.take_length] at h2
        rw [h2]; simp
  · have h1 : ((la.length : Int) != (lb.length : Int)) = true := by simp; omega
    go_enter Try.func98, Try.ntmps98
    go_wp2_with fail
    go_ret
    refine ⟨_, rfl, ?_, H.below⟩
    have : (la == lb) = false := by
      simp only [beq_eq_false_iff_ne]; rintro rfl; exact hlen rfl
    rw [this]; rfl
theorem wrap_u64_in (x : Int) (h0 : 0 ≤ x) (h1 : x < 18446744073709551616) : IntKind.u64.wrap x = x := by
  simp [IntKind.wrap, IntKind.signed, IntKind.bits]; omega
end Go.Proofs.Ytjghcmejmdllbaa
namespace Go.Proofs.Ytjghcmejmdllbaa
open Go.ChangeShapes Go.WideShapes Go.ChangeAt Go.RowKit
section
variable {P : Program} {a : Act} {w : World} {o : Oper} {N : Act → World → Prop}
theorem Stp.bsl0 {B : Nat} {w0 : World} {L : List Res} {ty e : TypeId} {parts : Array (Nat × Operand)} (d : Tmp) (hd : o.dst = some d) (ho : o.op = .buildSlice ty 0 parts)
    (hv : ∀ W : World, (Instr.buildSlice ty 0 (parts.map fun (i, x) => (i, a.eval x))).run P W = .ok (.slice (some ⟨W.heap.size, 0, none⟩) 0 0) (W.alloc (.cells #[] e))) (H : St B w0 w L)
    (h : ∀ ap cp w', St B w0 w' (slc e 1 (.slice ap 0 cp) 0 [] :: L) → N (a.put (some d) (.slice ap 0 cp)) w') : Stp P o a w N := by
  rw [← hd] at h
  refine ⟨w.alloc (.cells #[] e), .inl ⟨_, ?_, h (some ⟨w.heap.size, 0, none⟩) 0 _ ?_⟩⟩
  · unfold execOp; simp only [ho]
    simp [hv]
  · exact H.new ((Below.refl _ _).alloc (Nat.le_refl _) _) (slc_sound (b := 0) ⟨by simp, .inr ⟨w.heap.size, 0, #[], rfl, Nat.zero_le _, heap_alloc_new w _, Nat.le_refl _, Nat.zero_le _, by simp, by simp⟩⟩) (fun g hg => by cases hg; exact Nat.le_refl _)
theorem run_append_none {t ty e : TypeId} {i : TypeInfo} (ht : P.underlying t = some (.slice e)) (hi : P.info? e = some i) (va : Option Addr) (n vc c : Nat) (hnc : n ≤ vc) :
    (Builtin.append_ #[t, t] ty #[.slice va n vc, .slice none 0 c]).run P w = .ok (.slice va n vc) w := by
  cases va <;> simp [Builtin.append_, run_underlying ht, sizeOf, typeInfo, hi, Builtin.lenOf, Builtin.firstCells, storeCells, hnc]
theorem Stp.apps {B : Nat} {w0 : World} {L : List Res} {L' : Value → List Res} {ty e : TypeId} {z : Value} {size bytes : Nat} {s x : Operand} {va A : Option Addr} {vc : Nat} {n : Nat} {xs : List Value} {m c : Nat} {news : List Value} (d : Tmp) (hd : o.dst = some d)
    (ho : o.op = .call { callee := .builtin .append, args := #[s, x], argTypes := #[ty, ty] }) (ht : P.underlying ty = some (.slice e)) (hi : (P.info? e).map (fun i => (i.zero, i.size, i.bytes)) = some (some z, size, bytes)) (hzs : z.cells.size = size) (hsz : 0 < size)
    (hs : a.eval s = .slice va n vc) (hx : a.eval x = .slice A m c) (H : St B w0 w L) (hu : ∀ v', Upd L (slc e size (.slice va n vc) n xs) (slc e size v' (n + m) (xs ++ news)) (L' v')) (hl : news.length = m * size) (hnews : 0 < m → ∃ ad, A = some ad ∧ ∀ j u, news[j]? = some u → w.cell? (ad.add j) = some u) (h1 : ∀ u ∈ news, u.oneCell' = true)
    (h63 : n + m ≤ maxLen) (hbytes : (n + m) * bytes ≤ 140737488355328)
    (h : ∀ ap cp w', St B w0 w' (L' (.slice ap (n + m) cp)) → N (a.put (some d) (.slice ap (n + m) cp)) w') : Stp P o a w N := by
  cases A with
  | some ad =>
    refine Stp.app d hd ho ht hi hzs hsz hs hx H hu hl (fun j u hj => ?_) h1 h63 hbytes h
    rcases Nat.eq_zero_or_pos m with h0 | h0
    · have : news = [] := List.eq_nil_of_length_eq_zero (by rw [hl, h0, Nat.zero_mul])
      rw [this] at hj; simp at hj
    · obtain ⟨ad', e1, e2⟩ := hnews h0
      cases e1
      exact e2 j u hj
  | none =>
    have h0 : m = 0 := by
      rcases Nat.eq_zero_or_pos m with h0 | h0
      · exact h0
      · obtain ⟨_, e1, _⟩ := hnews h0; cases e1
    subst h0
    have : news = [] := List.eq_nil_of_length_eq_zero (by simpa using hl)
    subst this
    rw [← hd] at h
    obtain ⟨i, hi1, hi2, hi3, hi4⟩ := info_parts hi
    have hown := H.getSlc (hu (.slice va n vc)).mem
    have hnc : n ≤ vc := by
      rcases hown.2 with ⟨e1, e2⟩ | ⟨g, cap, cur, e1, hbg, hgc, hnc, hcm, hcs, htake⟩
      · omega
      · cases e1; exact hnc
    have hr := run_append_none (P := P) (w := w) (ty := o.type) ht hi1 va n vc c hnc
    refine ⟨w, .inl ⟨_, ?_, h va vc w ?_⟩⟩
    · unfold execOp
      simp only [ho, resolve, invoke, builtin, Sem.run_bind, Sem.run_pure, Result.andThen_ok, List.map_toArray, List.map_cons, List.map_nil, hs, hx, hr]
      rfl
    · refine H.upd (hu _) ⟨rfl, rfl, rfl, Nat.le_refl _, fun _ _ _ => rfl⟩ (slc_sound (b := B) ?_) (fun g hg => .inl hg)
      simpa using hown
end
end Go.Proofs.Ytjghcmejmdllbaa
namespace Go.Proofs.Ytjghcmejmdllbaa
open Go.ChangeShapes Go.WideShapes Go.ChangeAt Go.RowKit Go.Deep
set_option linter.unusedVariables false
section
variable {H : Type} {enc : TypeId × Value → H} {P : Program}
theorem trodAll_stays (hl : laidOutB P = true) {W W' : World} (hb : Below W.heap.size W W') : ∀ (ts : List TypeId) (vs : List Value) (ds : List (DataW H)) (p : List MemPlace),
    (ts.all fun t => P.readableRec t && decide (t < P.types.size)) = true → DataW.TrodAll enc P W 0 (fun _ => true) true ts vs ds p → DataW.TrodAll enc P W' 0 (fun b => decide (b < W.heap.size)) true ts vs ds p
  | [], vs, ds, p, _, h => by
    cases vs with
    | nil => obtain ⟨_, rfl, rfl⟩ := trodAll_nil h; exact trodAll_mk0
    | cons v vs => simp [DataW.TrodAll] at h
  | t :: ts, vs, ds, p, hr, h => by
    obtain ⟨v0, vs0, d0, ds0, p0, q0, hv, rfl, rfl, h0, r0⟩ := trodAll_cons h
    subst hv
    simp only [List.all_cons, Bool.and_eq_true, decide_eq_true_eq] at hr
    have hlt : ∀ x ∈ p0, x.block < W.heap.size := by obtain ⟨m, hm⟩ := h0; exact DataW.trod_lt m _ _ _ hm
    exact trodAll_cons_mk (Below.trod hl hr.1.1 hr.1.2 h0 hb hlt) (trodAll_stays hl hb ts _ _ _ (by simpa using hr.2) r0)
theorem trodAll_len {W : World} : ∀ (ts : List TypeId) (vs : List Value) (ds : List (DataW H)) (p : List MemPlace), DataW.TrodAll enc P W 0 (fun _ => true) true ts vs ds p → ds.length = ts.length
  | [], vs, ds, p, h => by
    cases vs with
    | nil => obtain ⟨_, rfl, _⟩ := trodAll_nil h; rfl
    | cons v vs => simp [DataW.TrodAll] at h
  | t :: ts, vs, ds, p, h => by
    obtain ⟨v0, vs0, d0, ds0, p0, q0, hv, rfl, rfl, h0, r0⟩ := trodAll_cons h
    simp [trodAll_len ts _ _ _ r0]
end
/-- THE ROW's STEP of a law: its walk returns true, and nothing that was there has turned. -/
theorem law_lifted {H : Type} {enc : TypeId × Value → H} {C : Checked} {os : Os} {f : FuncId} {fn : Func} {s : ChangeSpec} {tb : TypeId} (own : ownKnob C.prog.godebug = none) (started : os.Started) (noInit : C.prog.inits.idxOf? f = none) (hfn : C.prog.funcs[f]? = some fn)
    (hl : laidOutB C.prog = true) (hres : fn.resultTypes = #[tb]) (hb : C.prog.underlying tb = some .bool) (hvars : s.vars = []) (hread : (fn.params.toList.all fun t => C.prog.readableRec t && decide (t < C.prog.types.size)) = true)
    (hs : ∀ ds : List (DataW H), ds.length = fn.params.toList.length → (s.fn H ds).results = [.lit (.bool true)] ∧ (s.fn H ds).args = ds ∧ (s.fn H ds).vars = [])
    (witness : ∃ (w : World) (tape : Tape) (i : Input), w.os = os ∧ (w.forCall tape i).Shaped C.prog ∧ i.vars = [] ∧ Input.okWide C.prog (w.forCall tape i) .any w.heap.size f i ∧
      s.pre6 enc C.prog fn [] false (w.forCall tape i).memory i.args ∧ ({} : Assume).holds C.prog (lone (Frame.enter C.prog f i.args .normal) [] (w.forCall tape i)))
    (walk : ∀ (W : World) (base : Nat) (args : Array Value) (ds : List (DataW H)) (p : List MemPlace), (∀ (j : Nat) t v, fn.params[j]? = some t → args[j]? = some v → Value.okWide C.prog W .any base t v) →
      DataW.TrodAll enc C.prog W 0 (fun _ => true) true fn.params.toList args.toList ds p → Calls C.prog f args W (Ret fun v w' => v = .bool true ∧ Below W.heap.size W w')) :
    ReturnsInHanded {} C os f .any (s.pre6 enc C.prog fn [] false) (s.post enc C.prog fn false true false false) := by
  refine returnsInHanded_of_change (C := C) own started noInit hfn witness ?_
  intro W base args ds gs before hval hW _ _
  have hW' := hW
  obtain ⟨p, q, hA0, hV, rfl, hfz, hnd⟩ := hW
  have hA : DataW.TrodAll enc C.prog W 0 (fun _ => true) true fn.params.toList args.toList ds p := hA0
  have hg : gs = [] ∧ q = [] := by
    rw [hvars] at hV; obtain ⟨rfl, rfl⟩ := trodVars_none hV; exact ⟨rfl, rfl⟩
  obtain ⟨rfl, rfl⟩ := hg
  obtain ⟨e1, e2, e3⟩ := hs ds (trodAll_len _ _ _ _ hA)
  refine (walk W base args ds p hval hA).mono fun e W' hr => ?_
  obtain ⟨v, rfl, rfl, bel⟩ := hr
  refine ⟨_, rfl, _, _, _, [], p, [], hW', ?_, ?_, ?_, bel.frame _, fun h => by cases h⟩
  · simp only [List.append_nil]
    rw [e1, hres]
    exact trodAll_mk1 (shut_bool hb _)
  · simp only [List.append_nil]
    rw [e2]
    exact trodAll_stays hl bel _ _ _ _ hread hA
  · simp only [List.append_nil]
    rw [e3, hvars]
    rfl

section
variable {H : Type} {enc : TypeId × Value → H} {P : Program}
theorem add_none (b off n : Nat) : (⟨b, off, none⟩ : Addr).add n = ⟨b, off + n, none⟩ := by unfold Addr.add; split <;> simp_all
/-- A slice that came in: how many elements, and each one's cells and reading. -/
theorem open_sl {t e : TypeId} {size : Nat} {W : World} {base : Nat} {v : Value} {d : DataW H} {p : List MemPlace} (ht : P.underlying t = some (.slice e)) (hC : P.cellsOf e = size) (hpos : 0 < size)
    (hv : Value.okWide P W .any base t v) (h : DataW.Trod enc P W 0 (fun _ => true) true t v d p) :
    ∃ (n : Nat) (E : Nat → Array Value), Sl W size n v E ∧ ∀ i, i < n → (E i).size = size ∧ ∃ (fuel : Nat) (y : DataW H × List MemPlace), DataW.trod enc P W 0 (fun _ => true) true fuel e (E i).toList = some y := by
  obtain ⟨a0, len0, cap0, rfl⟩ := okWide_slice ht hv
  obtain ⟨fuel, hf⟩ := h
  rcases open_slice ht hf with ⟨hcs, _⟩ | ⟨a, len, cap, m, n, D, Pl, hcs, _, hl, hm, hmm, _, hi⟩
  · simp [Value.cells] at hcs
    obtain ⟨rfl, rfl, rfl⟩ := hcs
    exact ⟨0, fun _ => #[], ⟨_, _, rfl, by simp [maxLen], fun h => absurd h (Nat.lt_irrefl _)⟩, fun i h => absurd h (Nat.not_lt_zero _)⟩
  · simp [Value.cells] at hcs
    obtain ⟨rfl, rfl, rfl⟩ := hcs
    have hlm : len0 ≤ m := by rw [hmm]; simp; omega
    have hex : ∀ i, ∃ cs' : List Value, i < len0 → W.cells? 0 (a.add (i * size)) size = some cs' ∧ DataW.trod enc P W 0 (fun _ => true) true n e cs' = some (D i, Pl i) := fun i => by
      by_cases hlt : i < len0
      · obtain ⟨cs', h1, h2⟩ := hi i (by omega)
        rw [hC] at h1
        exact ⟨cs', fun _ => ⟨h1, h2⟩⟩
      · exact ⟨[], fun hn => absurd hn hlt⟩
    obtain ⟨F, hF⟩ := Classical.axiomOfChoice hex
    refine ⟨len0, fun i => (F i).toArray, ⟨_, _, rfl, by omega, fun h0 => ?_⟩, fun i hlt => ?_⟩
    · obtain ⟨b, off, spot⟩ := a
      obtain ⟨h1, _⟩ := hF 0 h0
      obtain ⟨_, hcl, hat⟩ := World.cells?_some h1
      have h2 := hat 0 hpos
      rw [List.getElem?_eq_getElem (by omega)] at h2
      have hspot : spot = none := by
        have := World.cell?_spot h2
        simpa [Addr.add] using this
      subst hspot
      have hb : b < W.heap.size := by
        have := World.block_lt_of_cell? W _ h2
        simpa [add_none] using this
      refine ⟨b, off, rfl, hb, fun i hlt j hj => ?_⟩
      obtain ⟨h3, _⟩ := hF i hlt
      obtain ⟨_, _, hat'⟩ := World.cells?_some h3
      have := hat' j hj
      rw [add_none, add_none] at this
      rw [this]; simp
    · obtain ⟨h3, h4⟩ := hF i hlt
      obtain ⟨_, hcl, _⟩ := World.cells?_some h3
      exact ⟨by simpa using hcl, n, _, h4⟩
end
end Go.Proofs.Ytjghcmejmdllbaa
namespace Go.Proofs.Ytjghcmejmdllbaa
open Go.ChangeShapes Go.WideShapes Go.ChangeAt Go.RowKit
set_option linter.unusedVariables false
set_option linter.unusedSimpArgs false
theorem cut_get (l : List Value) (off n j : Nat) (hj : j < n) : l.toArray[off + j]? = ((l.drop off).take n).toArray[j]? := by
  simp [List.getElem?_take, hj]
section
variable {P : Program} {ops : Array Oper} {a : Act} {w : World} {o : Oper} {N : Act → World → Prop}
/-- Some cells of a row that is written out, loaded as a struct. -/
theorem Stp.ldl {tg : TypeId} {B : Nat} {w0 : World} {L : List Res} {ty : TypeId} {x : Operand} {g off n : Nat} {l : List Value} (ho : o.op = .load ty x) (hagg : ∀ W : World, (isAgg ty).run P W = .ok true W) (hs : ∀ W : World, (sizeOf ty).run P W = .ok n W) (hx : a.eval x = .pointer (some ⟨g, off, none⟩)) (H : St B w0 w L)
    (hm : row tg g l.toArray ∈ L) (hn : ((l.drop off).take n).toArray.size = n) (h : N (a.put o.dst (.agg ((l.drop off).take n).toArray)) w) : Stp P o a w N :=
  Stp.ldx ho hagg hs hx H hm (cut_get l off n) hn h
theorem Yld.ldl {tg : TypeId} {B : Nat} {w0 : World} {L : List Res} {ty : TypeId} {x : Operand} {g off n : Nat} {l : List Value} (hw : Region.wanted o (yielded ops a.tmps) = true) (ho : o.op = .load ty x) (hagg : ∀ W : World, (isAgg ty).run P W = .ok true W) (hs : ∀ W : World, (sizeOf ty).run P W = .ok n W) (hx : a.eval x = .pointer (some ⟨g, off, none⟩))
    (hm : row tg g l.toArray ∈ L) (hn : ((l.drop off).take n).toArray.size = n) : YieldsIf P ops (fun W => St B w0 W L) o (.agg ((l.drop off).take n).toArray) a :=
  .inl ⟨hw, fun W H => by
    have hc' : ∀ j, j < ((l.drop off).take n).toArray.size → W.cell? ⟨g, off + j, none⟩ = ((l.drop off).take n).toArray[j]? := fun j hj => (cell_of_rowAt (H.getRow hm) (off + j)).trans (cut_get l off n j (by rw [hn] at hj; exact hj))
    have hs' : ∀ W : World, (sizeOf ty).run P W = .ok ((l.drop off).take n).toArray.size W := by rw [hn]; exact hs
    unfold execOp; simp only [ho, hx, Instr.loadAt, Instr.sureAddr]
    simp [run_load_range hc' hagg hs']⟩
/-- Some cells of a row that is written out, stored anew. -/
theorem Stp.stl {tg : TypeId} {B : Nat} {w0 : World} {L L' : List Res} {ty : TypeId} {x y : Operand} {g off n : Nat} {l m : List Value} (ho : o.op = .store ty x y) (hs : ∀ W : World, (sizeOf ty).run P W = .ok n W) (hx : a.eval x = .pointer (some ⟨g, off, none⟩)) (hy : a.eval y = .agg m.toArray) (h1 : m.all (·.oneCell') = true) (hm : m.length = n) (H : St B w0 w L)
    (hu : Upd L (row tg g l.toArray) (row tg g (l.take off ++ m ++ l.drop (off + n)).toArray) L') (hin : off + n ≤ l.length) (h : ∀ w', St B w0 w' L' → N (a.put o.dst undef) w') : Stp P o a w N := by
  have ht := H.getHeap hu.mem
  have hst : (storeCells ⟨g, off, none⟩ m).run P w = .ok () (w.setRow g (l.take off ++ m ++ l.drop (off + n)).toArray) := by
    have := run_storeCells_at (P := P) g off tg m 0 l.toArray w ht (by simp; omega) (fun v hv => (List.all_eq_true.1 h1) v hv)
    simpa [hm] using this
  refine ⟨w.setRow g (l.take off ++ m ++ l.drop (off + n)).toArray, .inr ⟨?_, h _ ?_⟩⟩
  · unfold execOp; simp only [ho, hx, hy, Instr.storeAt, Instr.sureAddr]
    simp [storeVar, hs, Value.cells, hm, hst]
  · exact H.upd hu (grownBy_setRow w g _) (row_sound (setRow_heap w g _ _ tg _ ht)) (fun k hk => .inl hk)
theorem post_row2 {fn : Func} {R : Ending → World → Prop} {p x : Tmp} {ty : TypeId} {B : Nat} {w0 : World} {L : List Res} {tg : TypeId} {g : Nat} {cs : Array Value} {n : Nat} (hr : fn.results = #[.cell p ty, .tmp x])
    (hagg : ∀ W : World, (isAgg ty).run P W = .ok true W) (hs : ∀ W : World, (sizeOf ty).run P W = .ok n W) (hp : a.tmps.getD p undef = .pointer (some ⟨g, 0, none⟩)) (H : St B w0 w L) (hm : row tg g cs ∈ L) (hn : cs.size = n)
    (hd : a.defers = []) (hR : R (.returned (.tuple #[.agg cs, a.tmps.getD x undef])) w) : bodyPost P fn R .ret a w := by
  refine bodyPost_ret ?_ hd hR
  have hp' : a.tmps[p]?.getD undef = .pointer (some ⟨g, 0, none⟩) := by simpa using hp
  simp [results, hr, hp', asAddr, run_load_row (H.getRow hm) hagg (by rw [hn]; exact hs)]
end
end Go.Proofs.Ytjghcmejmdllbaa
namespace Go.Proofs.Ytjghcmejmdllbaa
open Go.ChangeShapes Go.WideShapes Go.ChangeAt Go.RowKit
set_option linter.unusedVariables false
set_option linter.unusedSimpArgs false
theorem Sl.of_ownN {w : World} {b : Nat} {e : TypeId} {size : Nat} {v : Value} {n : Nat} {xs : List Value} {E : Nat → Array Value} (h : w.ownsRow b e size v n xs) (hE : ∀ i, i < n → ∀ j, j < size → xs[i * size + j]? = (E i)[j]?) (hm : n ≤ maxLen) : Sl w size n v E := by
  rcases h.2 with ⟨rfl, rfl⟩ | ⟨g, cap, cur, rfl, hbg, hgc, hnc, hcm, hcs, htake⟩
  · exact ⟨_, _, rfl, by simp [maxLen], fun h => absurd h (Nat.lt_irrefl _)⟩
  · refine Sl.of_row (rowAt_of hgc) hm (fun i hi j hj => ?_)
    rw [← hE i hi j hj, ← htake, List.getElem?_take]
    have : i * size + j < n * size := by
      have h1 : (i + 1) * size ≤ n * size := Nat.mul_le_mul_right _ hi
      rw [Nat.add_mul] at h1
      omega
    simp [this]
theorem St.swap {B : Nat} {w0 w : World} {L : List Res} {r s : Res} (H : St B w0 w (r :: s :: L)) : St B w0 w (s :: r :: L) := H.perm (.swap s r L)
/-- A region is left in a known state, and then the rest. -/
theorem cut {P : Program} {c : Code} {Q : Exit → Act → World → Prop} {a : Act} {w : World} (F : Act → Act → World → Prop) (h : c.wp P (fun e a' w' => e = .normal ∧ F a a' w') a w) (hq : ∀ a' w', F a a' w' → Q .normal a' w') : c.wp P Q a w :=
  Code.wp_mono (fun e a' w' he => by obtain ⟨rfl, hf⟩ := he; exact hq a' w' hf) h
theorem St.gr {B : Nat} {w0 w : World} {L : List Res} {g : Nat} {cs : Array Value} (t : TypeId) (H : St B w0 w L) (h : row t g cs ∈ L := by repeat (first | exact List.mem_cons_self | apply List.mem_cons_of_mem)) : rowAt w g = some cs := H.getRow h
section
variable {P : Program} {ops : Array Oper} {Q : Exit → Act → World → Prop} {S : World → Prop} {a : Act} {w : World}
theorem rg_all {l : List Oper} {rs : List Nat} {fuel : Nat} {listed : Array Bool} (hr : Region.ready .any l.toArray listed = rs) (hne : rs ≠ []) (h : AllReadyH P .any l.toArray (NoPanic Q) S fuel listed a w rs) : wpAnyH P .any l.toArray (NoPanic Q) S (fuel + 1) listed a w :=
  wpAnyH_ready hr hne h
theorem rg_cons {l : List Oper} {i : Nat} {o : Oper} {fuel : Nat} {listed : Array Bool} {rs : List Nat} (ho : l[i]? = some o) (hw : Region.wanted o (yielded l.toArray a.tmps) = true)
    (h : ∀ K : Act → World → Prop, Shut (∀ a w, S w → wpAnyH P .any l.toArray (NoPanic Q) S fuel (listed.setIfInBounds i true) a w → K a w) → Oper.wp P o a w K (NoPanic Q)) (hs : AllReadyH P .any l.toArray (NoPanic Q) S fuel listed a w rs) : AllReadyH P .any l.toArray (NoPanic Q) S fuel listed a w (i :: rs) :=
  AllReadyH.cons (by simpa using ho) (fun K hK => by rw [if_pos hw]; exact h K (fun a w hS hW => hK.out a w hS (fun _ => hW))) hs
end
end Go.Proofs.Ytjghcmejmdllbaa
namespace Go.Proofs.Ytjghcmejmdllbaa
open Go.ChangeShapes Go.WideShapes Go.ChangeAt Go.RowKit
set_option linter.unusedVariables false
set_option linter.unusedSimpArgs false
theorem Sl.cell {w : World} {size n b off c : Nat} {E : Nat → Array Value} (h : Sl w size n (.slice (some ⟨b, off, none⟩) n c) E) {i : Nat} (hi : i < n) : ∀ j, j < size → w.cell? ⟨b, off + i * size + j, none⟩ = (E i)[j]? := by
  obtain ⟨a, c', e, hm, hE⟩ := h
  injection e with e1 e2 e3
  obtain ⟨b', off', e4, hb, hc⟩ := hE (by omega)
  rw [← e1] at e4
  cases e4
  exact fun j hj => hc i hi j hj
theorem Sl.addr {w : World} {size n c : Nat} {a : Option Addr} {E : Nat → Array Value} (h : Sl w size n (.slice a n c) E) (hn : 0 < n) : ∃ b off, a = some ⟨b, off, none⟩ ∧ b < w.heap.size := by
  obtain ⟨a', c', e, hm, hE⟩ := h
  injection e with e1 e2 e3
  obtain ⟨b', off', e4, hb, hc⟩ := hE hn
  exact ⟨b', off', e1.trans e4, hb⟩
section
variable {P : Program} {ops : Array Oper} {a : Act} {w : World} {o : Oper} {N : Act → World → Prop}
/-- A struct loaded whose cells are known now. -/
theorem Stp.ldq {ty : TypeId} {x : Operand} {b off n : Nat} {cs : Array Value} (ho : o.op = .load ty x) (hagg : ∀ W : World, (isAgg ty).run P W = .ok true W) (hs : ∀ W : World, (sizeOf ty).run P W = .ok n W) (hx : a.eval x = .pointer (some ⟨b, off, none⟩))
    (hc : ∀ j, j < n → w.cell? ⟨b, off + j, none⟩ = cs[j]?) (hn : cs.size = n) (h : N (a.put o.dst (.agg cs)) w) : Stp P o a w N := by
  refine ⟨w, .inl ⟨_, ?_, h⟩⟩
  subst hn
  unfold execOp; simp only [ho, hx, Instr.loadAt, Instr.sureAddr]
  simp [run_load_range hc hagg hs]
end
end Go.Proofs.Ytjghcmejmdllbaa
namespace Go.Proofs.Ytjghcmejmdllbaa
open Go.ChangeShapes Go.WideShapes Go.ChangeAt Go.RowKit Go.Maps
set_option linter.unusedVariables false
set_option linter.unusedSimpArgs false
set_option linter.unusedSectionVars false
section
variable {α β : Type} [DecidableEq α]
/-- A pair laid into a map's pairs. -/
def mput (M : List (α × β)) (a : α) (v : β) : List (α × β) := if M.any (fun p => decide (p.1 = a)) = true then M.map (fun p => if p.1 = a then (a, v) else p) else M ++ [(a, v)]
def mget (M : List (α × β)) (a : α) : Option β := (M.find? fun p => decide (p.1 = a)).map (·.2)
theorem mget_nil (a : α) : mget ([] : List (α × β)) a = none := rfl
theorem mget_none {M : List (α × β)} {a : α} : mget M a = none ↔ ∀ p ∈ M, p.1 ≠ a := by
  unfold mget
  simp [List.find?_eq_none]
theorem mget_put_same (M : List (α × β)) (a : α) (v : β) : mget (mput M a v) a = some v := by
  unfold mput mget
  split
  · rename_i h
    induction M with
    | nil => simp at h
    | cons p M ih =>
      by_cases hp : p.1 = a
      · simp [List.find?_cons, hp]
      · simp only [List.any_cons, hp, decide_false, Bool.false_or] at h
        simp only [List.map_cons, hp, if_false, List.find?_cons, decide_false]
        exact ih h
  · rename_i h
    have hn : M.find? (fun p => decide (p.1 = a)) = none := by
      rw [List.find?_eq_none]
      intro p hp hc
      exact h (List.any_eq_true.2 ⟨p, hp, hc⟩)
    rw [List.find?_append, hn]
    simp
theorem mget_put_other (M : List (α × β)) (a b : α) (v : β) (hb : b ≠ a) : mget (mput M a v) b = mget M b := by
  unfold mput mget
  split
  · rename_i h
    clear h
    induction M with
    | nil => rfl
    | cons p M ih =>
      by_cases hp : p.1 = a
      · have h1 : p.1 ≠ b := fun e => hb (e.symm.trans hp)
        simp only [List.map_cons, hp, if_true, List.find?_cons]
        rw [decide_eq_false (fun e => hb e.symm)]
        exact ih
      · simp only [List.map_cons, hp, if_false, List.find?_cons]
        by_cases hq : p.1 = b
        · simp [hq]
        · rw [decide_eq_false hq]
          exact ih
  · rw [List.find?_append]
    cases M.find? (fun p => decide (p.1 = b)) with
    | some p => rfl
    | none => simp [Ne.symm hb]
theorem mget_put (M : List (α × β)) (a b : α) (v : β) : mget (mput M a v) b = if b = a then some v else mget M b := by
  by_cases h : b = a
  · subst h; rw [if_pos rfl, mget_put_same]
  · rw [if_neg h, mget_put_other _ _ _ _ h]
end
section
variable {α β : Type} [DecidableEq α] {P : Program} {k e t : TypeId} {ek : α → Value} {ev : β → Value} {w : World} {b : Nat} {M : List (α × β)}
/-- Block b is a map of the pairs M, in the order in which they came. -/
def MapAt (P : Program) (k : TypeId) (ek : α → Value) (ev : β → Value) (b : Nat) (M : List (α × β)) (w : World) : Prop :=
  ∃ es clock, w.heap[b]? = some (.map es clock) ∧ MapKept.Stamped es clock ∧ es.toList.map (fun x => (x.key, x.val)) = M.map (fun p => (ek p.1, ev p.2)) ∧ ∀ p ∈ M, ∃ l, keyOf P k (ek p.1) = some l
def mapr (P : Program) (k : TypeId) (ek : α → Value) (ev : β → Value) (b : Nat) (M : List (α × β)) : Res := (fun g => some b = some g, MapAt P k ek ev b M)
theorem mapr_loc (P : Program) (k : TypeId) (ek : α → Value) (ev : β → Value) (b : Nat) (M : List (α × β)) : Loc (mapr P k ek ev b M) := fun _ _ hb ⟨es, clock, h, h2⟩ => ⟨es, clock, (hb b rfl).trans h, h2⟩
theorem mapr_sound (h : MapAt P k ek ev b M w) : Sound (mapr P k ek ev b M) w :=
  ⟨h, fun g hg => by cases hg; obtain ⟨es, clock, h, _⟩ := h; exact (Array.getElem?_eq_some_iff.1 h).1, mapr_loc _ _ _ _ _ _⟩
theorem MapAt.nodup (hi : ∀ x y, ek x = ek y → x = y) (h : MapAt P k ek ev b M w) : M.Pairwise fun p q => p.1 ≠ q.1 := by
  obtain ⟨es, clock, _, hs, he, _⟩ := h
  have h3 := ((MapKept.stamped_iff es clock).1 hs).2.2
  have h4 : (es.toList.map fun x => (x.key, x.val)).Pairwise fun p q => p.1 ≠ q.1 := by rw [List.pairwise_map]; exact h3
  rw [he, List.pairwise_map] at h4
  exact h4.imp fun {p q} hne e => hne (by rw [e])
theorem mget_of_mem {M : List (α × β)} (hn : M.Pairwise fun p q => p.1 ≠ q.1) {p : α × β} (hp : p ∈ M) : mget M p.1 = some p.2 := by
  induction M with
  | nil => cases hp
  | cons q M ih =>
    obtain ⟨h1, h2⟩ := List.pairwise_cons.1 hn
    unfold mget
    rcases List.mem_cons.1 hp with rfl | hp
    · simp [List.find?_cons]
    · have := h1 p hp
      rw [List.find?_cons, decide_eq_false this]
      exact ih h2 hp
/-- Where a key stands, or that it stands nowhere. -/
theorem MapAt.find (K : Keyed P k) (hi : ∀ x y, ek x = ek y → x = y) {es : Array MapEntry} {clock : Nat} (hs : MapKept.Stamped es clock) (he : es.toList.map (fun x => (x.key, x.val)) = M.map (fun p => (ek p.1, ev p.2)))
    (hk : ∀ p ∈ M, ∃ l, keyOf P k (ek p.1) = some l) (hM : M.Pairwise fun p q => p.1 ≠ q.1) (w : World) {a : α} {l : Lit} (ha : keyOf P k (ek a) = some l) :
    (mget M a = none ∧ (Instr.findKey k (ek a) es.toList).run P w = .ok none w ∧ ∀ x ∈ es.toList, x.key ≠ ek a) ∨
    ∃ j v x, mget M a = some v ∧ (Instr.findKey k (ek a) es.toList).run P w = .ok (some (j, ev v)) w ∧ es.toList[j]? = some x ∧ x.key = ek a ∧ x.val = ev v ∧ M[j]? = some (a, v) := by
  have hkeys : ∀ x ∈ es.toList, ∃ l, keyOf P k x.key = some l := fun x hx => by
    have : (x.key, x.val) ∈ M.map (fun p => (ek p.1, ev p.2)) := by rw [← he]; exact List.mem_map.2 ⟨x, hx, rfl⟩
    obtain ⟨p, hp, e⟩ := List.mem_map.1 this
    obtain ⟨l, hl⟩ := hk p hp
    refine ⟨l, ?_⟩
    rw [← hl]
    injection e with e1 _
    rw [e1]
  rcases K.find w ha es.toList hkeys with ⟨h1, h2⟩ | ⟨j, x, h1, h2, h3⟩
  · refine .inl ⟨?_, h1, h2⟩
    rw [mget_none]
    intro p hp hpa
    have : (ek p.1, ev p.2) ∈ es.toList.map (fun x => (x.key, x.val)) := by rw [he]; exact List.mem_map.2 ⟨p, hp, rfl⟩
    obtain ⟨x, hx, e⟩ := List.mem_map.1 this
    injection e with e1 _
    exact h2 x hx (by rw [e1, hpa])
  · have hj : (es.toList.map fun x => (x.key, x.val))[j]? = some (x.key, x.val) := by rw [List.getElem?_map, h2]; rfl
    rw [he, List.getElem?_map] at hj
    obtain ⟨p, hp, e⟩ := Option.map_eq_some_iff.1 hj
    injection e with e1 e2
    have hpa : p.1 = a := hi _ _ (by rw [e1, h3])
    have hg := mget_of_mem hM (List.mem_of_getElem? hp)
    rw [hpa] at hg
    refine .inr ⟨j, p.2, x, hg, ?_, h2, h3, e2.symm, ?_⟩
    · rw [h1, e2]
    · rw [hp, ← hpa]
theorem run_look (c : Bool) (K : Keyed P k) (hi : ∀ x y, ek x = ek y → x = y) (ht : P.underlying t = some (.map k e)) {z : Value} (hz : (zeroValue e).run P w = .ok z w) (h : MapAt P k ek ev b M w) {a : α} {l : Lit} (ha : keyOf P k (ek a) = some l) :
    (Instr.lookup t (.map (some b)) (ek a) c).run P w = .ok (if c then .tuple #[((mget M a).map ev).getD z, .bool (mget M a).isSome] else ((mget M a).map ev).getD z) w := by
  have hM := h.nodup hi
  obtain ⟨es, clock, hb, hs, he, hk⟩ := h
  rcases MapAt.find K hi hs he hk hM w ha with ⟨hg, h1, _⟩ | ⟨j, v, x, hg, h1, _⟩
  · rw [hg]
    simp [Instr.lookup, run_underlying ht, MapKept.run_getObj_map hb, K.check w _ ha, h1, hz, Result.andThen]
  · rw [hg]
    simp [Instr.lookup, run_underlying ht, MapKept.run_getObj_map hb, K.check w _ ha, h1, Result.andThen]
theorem map_modify {γ δ : Type} (f : γ → δ) (es : Array γ) (j : Nat) (g : γ → γ) (x : γ) (hx : es.toList[j]? = some x) : (es.modify j g).toList.map f = (es.toList.map f).set j (f (g x)) := by
  apply List.ext_getElem?
  intro i
  rw [List.getElem?_map, Array.getElem?_toList, Array.getElem?_modify, List.getElem?_set]
  by_cases hij : j = i
  · subst hij
    have hlt : j < es.toList.length := (List.getElem?_eq_some_iff.1 hx).1
    have hx' : es[j]? = some x := by simpa using hx
    have hl2 : j < es.size := by simpa using hlt
    have e : es[j] = x := by
      rw [Array.getElem?_eq_getElem hl2] at hx'; exact Option.some.inj hx'
    simp [hl2, e]
  · simp [hij]
theorem map_put {M : List (α × β)} (hM : M.Pairwise fun p q => p.1 ≠ q.1) {a : α} {v u : β} {j : Nat} (hj : M[j]? = some (a, u)) : M.map (fun p => if p.1 = a then (a, v) else p) = M.set j (a, v) := by
  induction M generalizing j with
  | nil => cases hj
  | cons p M ih =>
    obtain ⟨h1, h2⟩ := List.pairwise_cons.1 hM
    cases j with
    | zero =>
      simp only [List.getElem?_cons_zero, Option.some.injEq] at hj
      subst hj
      simp only [List.map_cons, if_true, List.set_cons_zero, List.cons.injEq, true_and]
      conv => rhs; rw [← List.map_id M]
      apply List.map_congr_left
      intro q hq
      rw [if_neg (fun e => h1 q hq e.symm)]
      rfl
    | succ j =>
      rw [List.getElem?_cons_succ] at hj
      have : p.1 ≠ a := h1 _ (List.mem_of_getElem? hj)
      rw [List.map_cons, if_neg this, List.set_cons_succ, ih h2 hj]
theorem mput_set {M : List (α × β)} (hM : M.Pairwise fun p q => p.1 ≠ q.1) {a : α} {v u : β} {j : Nat} (hj : M[j]? = some (a, u)) : mput M a v = M.set j (a, v) := by
  unfold mput
  rw [if_pos (List.any_eq_true.2 ⟨_, List.mem_of_getElem? hj, by simp⟩), map_put hM hj]
theorem mput_new {M : List (α × β)} {a : α} {v : β} (h : mget M a = none) : mput M a v = M ++ [(a, v)] := by
  unfold mput
  rw [if_neg]
  intro hc
  obtain ⟨p, hp, e⟩ := List.any_eq_true.1 hc
  exact mget_none.1 h p hp (by simpa using e)
theorem keys_put {M : List (α × β)} {a : α} {v : β} {l : Lit} (hk : ∀ p ∈ M, ∃ l, keyOf P k (ek p.1) = some l) (ha : keyOf P k (ek a) = some l) : ∀ p ∈ mput M a v, ∃ l, keyOf P k (ek p.1) = some l := by
  intro p hp
  unfold mput at hp
  split at hp
  · obtain ⟨q, hq, rfl⟩ := List.mem_map.1 hp
    split
    · exact ⟨l, ha⟩
    · exact hk q hq
  · rcases List.mem_append.1 hp with h | h
    · exact hk p h
    · rw [List.mem_singleton] at h
      subst h
      exact ⟨l, ha⟩
theorem run_put (K : Keyed P k) (hi : ∀ x y, ek x = ek y → x = y) (ht : P.underlying t = some (.map k e)) (h : MapAt P k ek ev b M w) {a : α} {v : β} {l : Lit} (ha : keyOf P k (ek a) = some l) :
    ∃ w', (Instr.mapUpdate t (.map (some b)) (ek a) (ev v)).run P w = .ok () w' ∧ Grew (fun g => some b = some g) w w' ∧ MapAt P k ek ev b (mput M a v) w' := by
  have hM := h.nodup hi
  obtain ⟨es, clock, hb, hs, he, hk⟩ := h
  have hg : ∀ o, Grew (fun g => some b = some g) w (Go.ChangeMaps.setBlock w b o) := fun o => ⟨rfl, rfl, rfl, by simp [Go.ChangeMaps.setBlock], fun g hlt hne => (MapKept.heap_set hb).2 g (fun e => hne (by rw [e]))⟩
  rcases MapAt.find K hi hs he hk hM w ha with ⟨hgt, h1, h2⟩ | ⟨j, u, x, hgt, h1, h2, h3, h4, h5⟩
  · refine ⟨Go.ChangeMaps.setBlock w b (.map (es.push ⟨ek a, ev v, clock⟩) (clock + 1)), ?_, hg _, _, _, (MapKept.heap_set hb).1, MapKept.stamped_push hs h2, ?_, keys_put hk ha⟩
    · simp [Instr.mapUpdate, run_underlying ht, MapKept.run_getObj_map hb, K.check w false ha, h1, MapKept.run_setObj_map _ hb, Result.andThen, Go.ChangeMaps.setBlock]
    · rw [mput_new hgt]
      simp [he]
  · have hj : es[j]? = some x := by simpa using h2
    refine ⟨Go.ChangeMaps.setBlock w b (.map (es.modify j (fun e' => { e' with key := ek a, val := ev v })) clock), ?_, hg _, _, _, (MapKept.heap_set hb).1, MapKept.stamped_modify hs _ _ (fun _ _ => rfl) (fun e' _ he' => ?_), ?_, keys_put hk ha⟩
    · simp [Instr.mapUpdate, run_underlying ht, MapKept.run_getObj_map hb, K.check w false ha, h1, hj, h3, K.stays w ha, MapKept.run_setObj_map _ hb, Result.andThen, Go.ChangeMaps.setBlock]
    · rw [hj] at he'; cases he'; exact h3.symm
    · rw [map_modify _ _ _ _ x h2, he, mput_set hM h5, List.map_set]
end
section
variable {α β : Type} [DecidableEq α] {P : Program} {k e t : TypeId} {ek : α → Value} {ev : β → Value} {a : Act} {w : World} {o : Oper} {N : Act → World → Prop} {B : Nat} {w0 : World} {L : List Res} {M : List (α × β)} {b : Nat} {x y : Operand} {q : α} {l : Lit}
theorem Stp.mkmap (k : TypeId) (ek : α → Value) (ev : β → Value) (d : Tmp) (hd : o.dst = some d) (ho : o.op = .makeMap t none) (H : St B w0 w L)
    (h : ∀ g w', St B w0 w' (mapr P k ek ev g [] :: L) → N (a.put (some d) (.map (some g))) w') : Stp P o a w N := by
  rw [← hd] at h
  refine ⟨_, .inl ⟨_, ?_, h w.heap.size (w.alloc (.map #[] 0)) (H.new ((Below.refl _ _).alloc (Nat.le_refl _) _) (mapr_sound ⟨#[], 0, heap_alloc_new w _, MapKept.stamped_empty 0, rfl, by simp⟩) (fun g hg => by cases hg; exact Nat.le_refl _))⟩⟩
  unfold execOp; simp only [ho]; simp [run_makeMap]
theorem Stp.look (ho : o.op = .lookup t x y false) (K : Keyed P k) (hi : ∀ x y, ek x = ek y → x = y) (ht : P.underlying t = some (.map k e)) {z : Value} (hz : ∀ W : World, (zeroValue e).run P W = .ok z W) (hx : a.eval x = .map (some b)) (hy : a.eval y = ek q) (ha : keyOf P k (ek q) = some l) (H : St B w0 w L)
    (hm : mapr P k ek ev b M ∈ L) (h : N (a.put o.dst (((mget M q).map ev).getD z)) w) : Stp P o a w N := by
  refine ⟨w, .inl ⟨_, ?_, h⟩⟩
  unfold execOp; simp only [ho, hx, hy]
  simp [run_look false K hi ht (hz w) (H.get hm) ha]
theorem Stp.lookok (ho : o.op = .lookup t x y true) (K : Keyed P k) (hi : ∀ x y, ek x = ek y → x = y) (ht : P.underlying t = some (.map k e)) {z : Value} (hz : ∀ W : World, (zeroValue e).run P W = .ok z W) (hx : a.eval x = .map (some b)) (hy : a.eval y = ek q) (ha : keyOf P k (ek q) = some l) (H : St B w0 w L)
    (hm : mapr P k ek ev b M ∈ L) (h : N (a.put o.dst (.tuple #[((mget M q).map ev).getD z, .bool (mget M q).isSome])) w) : Stp P o a w N := by
  refine ⟨w, .inl ⟨_, ?_, h⟩⟩
  unfold execOp; simp only [ho, hx, hy]
  simp [run_look true K hi ht (hz w) (H.get hm) ha]
theorem Stp.mapup {L' : List Res} {ux : Operand} {v : β} (ho : o.op = .mapUpdate t x y ux) (K : Keyed P k) (hi : ∀ x y, ek x = ek y → x = y) (ht : P.underlying t = some (.map k e)) (hx : a.eval x = .map (some b)) (hy : a.eval y = ek q) (hv : a.eval ux = ev v) (ha : keyOf P k (ek q) = some l) (H : St B w0 w L)
    (hu : Upd L (mapr P k ek ev b M) (mapr P k ek ev b (mput M q v)) L') (h : ∀ w', St B w0 w' L' → N (a.put o.dst undef) w') : Stp P o a w N := by
  obtain ⟨w', hr, hg, hm⟩ := run_put K hi ht (H.get hu.mem) (v := v) ha
  refine ⟨w', .inr ⟨?_, h w' (H.upd hu hg (mapr_sound hm) (fun g hg => .inl hg))⟩⟩
  unfold execOp; simp only [ho, hx, hy, hv]
  simp [hr]
end
end Go.Proofs.Ytjghcmejmdllbaa
namespace Go.Proofs.Ytjghcmejmdllbaa
open Go.ChangeShapes Go.WideShapes Go.ChangeAt Go.RowKit Go.Maps
set_option linter.unusedVariables false
set_option linter.unusedSimpArgs false
section
variable {B : Nat} {w0 w : World} {L : List Res} {e : TypeId} {size n c g : Nat} {a : Option Addr} {xs : List Value}
theorem newL {w : World} {g : Nat} {l : List Value} (h : rowAt w g = some l.toArray) : ∀ j u, l[j]? = some u → w.cell? ((⟨g, 0, none⟩ : Addr).add j) = some u := fun j u hu => by
  have : (⟨g, 0, none⟩ : Addr).add j = ⟨g, j, none⟩ := by unfold Addr.add; split <;> simp_all
  rw [this, cell_of_rowAt h]; simpa using hu
end
section
variable {P : Program} {ops : Array Oper} {a : Act} {w : World} {o : Oper} {N : Act → World → Prop} {B : Nat} {w0 : World} {L : List Res} {ty e : TypeId} {x y : Operand} {g off size n c k : Nat} {xs : List Value}
end
section
variable {P : Program} {a : Act} {w : World} {o : Oper} {N : Act → World → Prop}
theorem Stp.bsl0N {B : Nat} {w0 : World} {L : List Res} {ty e : TypeId} {size : Nat} {parts : Array (Nat × Operand)} (d : Tmp) (hd : o.dst = some d) (ho : o.op = .buildSlice ty 0 parts)
    (hv : ∀ W : World, (Instr.buildSlice ty 0 (parts.map fun (i, x) => (i, a.eval x))).run P W = .ok (.slice (some ⟨W.heap.size, 0, none⟩) 0 0) (W.alloc (.cells #[] e))) (H : St B w0 w L)
    (h : ∀ ap cp w', St B w0 w' (slc e size (.slice ap 0 cp) 0 [] :: L) → N (a.put (some d) (.slice ap 0 cp)) w') : Stp P o a w N := by
  rw [← hd] at h
  refine ⟨w.alloc (.cells #[] e), .inl ⟨_, ?_, h (some ⟨w.heap.size, 0, none⟩) 0 _ ?_⟩⟩
  · unfold execOp; simp only [ho]
    simp [hv]
  · exact H.new ((Below.refl _ _).alloc (Nat.le_refl _) _) (slc_sound (b := 0) ⟨by simp, .inr ⟨w.heap.size, 0, #[], rfl, Nat.zero_le _, heap_alloc_new w _, Nat.le_refl _, Nat.zero_le _, by simp, by simp⟩⟩) (fun g hg => by cases hg; exact Nat.le_refl _)
end
section
variable {α β : Type} [DecidableEq α] {P : Program} {ops : Array Oper} {k e t : TypeId} {ek : α → Value} {ev : β → Value} {a : Act} {o : Oper} {B : Nat} {w0 : World} {L : List Res} {M : List (α × β)} {b : Nat} {x y : Operand} {q : α} {l : Lit}
theorem Yld.look (hw : Region.wanted o (yielded ops a.tmps) = true) (ho : o.op = .lookup t x y false) (K : Keyed P k) (hi : ∀ x y, ek x = ek y → x = y) (ht : P.underlying t = some (.map k e)) {z : Value} (hz : ∀ W : World, (zeroValue e).run P W = .ok z W) (hx : a.eval x = .map (some b)) (hy : a.eval y = ek q) (ha : keyOf P k (ek q) = some l)
    (hm : mapr P k ek ev b M ∈ L) : YieldsIf P ops (fun W => St B w0 W L) o (((mget M q).map ev).getD z) a :=
  .inl ⟨hw, fun W H => by
    unfold execOp; simp only [ho, hx, hy]
    simp [run_look false K hi ht (hz W) (H.get hm) ha]⟩
theorem Yld.lookok (hw : Region.wanted o (yielded ops a.tmps) = true) (ho : o.op = .lookup t x y true) (K : Keyed P k) (hi : ∀ x y, ek x = ek y → x = y) (ht : P.underlying t = some (.map k e)) {z : Value} (hz : ∀ W : World, (zeroValue e).run P W = .ok z W) (hx : a.eval x = .map (some b)) (hy : a.eval y = ek q) (ha : keyOf P k (ek q) = some l)
    (hm : mapr P k ek ev b M ∈ L) : YieldsIf P ops (fun W => St B w0 W L) o (.tuple #[((mget M q).map ev).getD z, .bool (mget M q).isSome]) a :=
  .inl ⟨hw, fun W H => by
    unfold execOp; simp only [ho, hx, hy]
    simp [run_look true K hi ht (hz W) (H.get hm) ha]⟩
end
end Go.Proofs.Ytjghcmejmdllbaa
