/- Contracts of layer 1's functions (bits) and of its references: what each call returns; the bounds on lengths stand in each. Contracts of layer 1's references Form, Same, Width, Lent, Kept; the bounds on lengths stand in each. Contracts of layer 1's short forms; the bounds on lengths stand in each. Contracts of layer 1's reference Short, and the document's examples of that layer; no condition. Contracts of layer 1's Get and of its reference Number; the bounds on lengths stand in each. Contracts of layer 1's readings of short forms: both read what gs says; the bounds stand in each. My logic of owned memory, fifth part: a struct's field that is a struct, a slice's rest; no condition. More rules of the small logic of owned memory: an empty literal as a slice of the call's own, and append of any slice. No condition. -/
import Derived.Test.YtmokecicjmjkbaaRows
import Derived.Laws.BitsLemmas
import Derived.Laws.Bits64b
import Derived.Test.YtmokecicjmjkbaaGy1
namespace Go.Proofs.Ytmokecicjmjkbaa
open Go.ChangeShapes Go.WideShapes Go.ChangeAt Go.RowKit
set_option linter.unusedVariables false
set_option linter.unusedSimpArgs false
theorem agg3 : ∀ W : World, (isAgg 3).run Try.prog W = .ok false W := fun _ => by kernel_rfl
theorem agg4 : ∀ W : World, (isAgg 4).run Try.prog W = .ok false W := fun _ => by kernel_rfl
theorem agg5 : ∀ W : World, (isAgg 5).run Try.prog W = .ok false W := fun _ => by kernel_rfl
theorem size5 : ∀ W : World, (sizeOf 5).run Try.prog W = .ok 1 W := fun _ => by kernel_rfl
theorem agg22 : ∀ W : World, (isAgg 22).run Try.prog W = .ok false W := fun _ => by kernel_rfl
theorem size22 : ∀ W : World, (sizeOf 22).run Try.prog W = .ok 1 W := fun _ => by kernel_rfl
theorem agg26 : ∀ W : World, (isAgg 26).run Try.prog W = .ok false W := fun _ => by kernel_rfl
theorem size26 : ∀ W : World, (sizeOf 26).run Try.prog W = .ok 1 W := fun _ => by kernel_rfl
theorem agg27 : ∀ W : World, (isAgg 27).run Try.prog W = .ok false W := fun _ => by kernel_rfl
theorem agg28 : ∀ W : World, (isAgg 28).run Try.prog W = .ok false W := fun _ => by kernel_rfl
theorem agg30 : ∀ W : World, (isAgg 30).run Try.prog W = .ok true W := fun _ => by kernel_rfl
theorem size30 : ∀ W : World, (sizeOf 30).run Try.prog W = .ok 2 W := fun _ => by kernel_rfl
theorem agg31 : ∀ W : World, (isAgg 31).run Try.prog W = .ok false W := fun _ => by kernel_rfl
theorem size31 : ∀ W : World, (sizeOf 31).run Try.prog W = .ok 1 W := fun _ => by kernel_rfl
theorem agg32 : ∀ W : World, (isAgg 32).run Try.prog W = .ok false W := fun _ => by kernel_rfl
theorem size32 : ∀ W : World, (sizeOf 32).run Try.prog W = .ok 1 W := fun _ => by kernel_rfl
theorem agg34 : ∀ W : World, (isAgg 34).run Try.prog W = .ok true W := fun _ => by kernel_rfl
theorem size34 : ∀ W : World, (sizeOf 34).run Try.prog W = .ok 4 W := fun _ => by kernel_rfl
theorem agg36 : ∀ W : World, (isAgg 36).run Try.prog W = .ok true W := fun _ => by kernel_rfl
theorem size36 : ∀ W : World, (sizeOf 36).run Try.prog W = .ok 10 W := fun _ => by kernel_rfl
theorem agg37 : ∀ W : World, (isAgg 37).run Try.prog W = .ok false W := fun _ => by kernel_rfl
theorem size37 : ∀ W : World, (sizeOf 37).run Try.prog W = .ok 1 W := fun _ => by kernel_rfl
theorem agg63 : ∀ W : World, (isAgg 63).run Try.prog W = .ok false W := fun _ => by kernel_rfl
theorem size63 : ∀ W : World, (sizeOf 63).run Try.prog W = .ok 1 W := fun _ => by kernel_rfl
theorem agg68 : ∀ W : World, (isAgg 68).run Try.prog W = .ok true W := fun _ => by kernel_rfl
theorem size68 : ∀ W : World, (sizeOf 68).run Try.prog W = .ok 14 W := fun _ => by kernel_rfl
theorem agg93 : ∀ W : World, (isAgg 93).run Try.prog W = .ok false W := fun _ => by kernel_rfl
theorem size93 : ∀ W : World, (sizeOf 93).run Try.prog W = .ok 1 W := fun _ => by kernel_rfl
theorem agg121 : ∀ W : World, (isAgg 121).run Try.prog W = .ok false W := fun _ => by kernel_rfl
theorem agg131 : ∀ W : World, (isAgg 131).run Try.prog W = .ok false W := fun _ => by kernel_rfl
theorem agg159 : ∀ W : World, (isAgg 159).run Try.prog W = .ok false W := fun _ => by kernel_rfl
theorem size159 : ∀ W : World, (sizeOf 159).run Try.prog W = .ok 1 W := fun _ => by kernel_rfl
theorem size182 : ∀ W : World, (sizeOf 182).run Try.prog W = .ok 0 W := fun _ => by kernel_rfl
theorem agg184 : ∀ W : World, (isAgg 184).run Try.prog W = .ok false W := fun _ => by kernel_rfl
theorem zero22 : ∀ W : World, (zeroValue 22).run Try.prog W = .ok (.slice none 0 0) W := fun _ => by kernel_rfl
theorem zero26 : ∀ W : World, (zeroValue 26).run Try.prog W = .ok (.int .u64 0) W := fun _ => by kernel_rfl
theorem zero30 : ∀ W : World, (zeroValue 30).run Try.prog W = .ok (.agg #[(.int .u16 0), (.int .u32 0)]) W := fun _ => by kernel_rfl
theorem zero31 : ∀ W : World, (zeroValue 31).run Try.prog W = .ok (.slice none 0 0) W := fun _ => by kernel_rfl
theorem zero34 : ∀ W : World, (zeroValue 34).run Try.prog W = .ok (.agg #[(.int .u64 0), (.slice none 0 0), (.slice none 0 0), (.slice none 0 0)]) W := fun _ => by kernel_rfl
theorem zero36 : ∀ W : World, (zeroValue 36).run Try.prog W = .ok (.agg #[(.int .i64 0), (.int .u16 0), (.int .u32 0), (.int .u64 0), (.int .u64 0), (.slice none 0 0), (.int .u64 0), (.slice none 0 0), (.slice none 0 0), (.slice none 0 0)]) W := fun _ => by kernel_rfl
theorem zero159 : ∀ W : World, (zeroValue 159).run Try.prog W = .ok (.map none) W := fun _ => by kernel_rfl
theorem zero182 : ∀ W : World, (zeroValue 182).run Try.prog W = .ok (.agg #[]) W := fun _ => by kernel_rfl
theorem cpsz22 : (Try.prog.info? 5).map (·.size) = some 1 := by kernel_rfl
theorem info5 : (Try.prog.info? 5).map (fun i => (i.zero, i.size, i.bytes)) = some (some (.int .u8 0), 1, 1) := by kernel_rfl
theorem zero5 : ∀ W : World, (zeroValue 5).run Try.prog W = .ok (.int .u8 0) W := fun _ => by kernel_rfl
theorem info30 : (Try.prog.info? 30).map (fun i => (i.zero, i.size, i.bytes)) = some (some (.agg #[(.int .u16 0), (.int .u32 0)]), 2, 8) := by kernel_rfl
theorem info31 : (Try.prog.info? 31).map (fun i => (i.zero, i.size, i.bytes)) = some (some (.slice none 0 0), 1, 24) := by kernel_rfl
theorem info36 : (Try.prog.info? 36).map (fun i => (i.zero, i.size, i.bytes)) = some (some (.agg #[(.int .i64 0), (.int .u16 0), (.int .u32 0), (.int .u64 0), (.int .u64 0), (.slice none 0 0), (.int .u64 0), (.slice none 0 0), (.slice none 0 0), (.slice none 0 0)]), 10, 136) := by kernel_rfl
theorem info116 : (Try.prog.info? 116).map (fun i => (i.zero, i.size, i.bytes)) = some (some (.agg #[(.int .u64 0), (.int .i64 0), (.int .u16 0), (.int .u32 0), (.int .u64 0), (.int .u64 0), (.slice none 0 0), (.int .u64 0), (.slice none 0 0), (.slice none 0 0), (.slice none 0 0)]), 11, 144) := by kernel_rfl
theorem size116 : ∀ W : World, (sizeOf 116).run Try.prog W = .ok 11 W := fun _ => by kernel_rfl
theorem ent15 : ∀ (xs : Array Value) (W : World), (callFunc 15 xs).run Try.prog W = .ok (.enter 15 xs) W := fun _ _ => by kernel_rfl
theorem ent26 : ∀ (xs : Array Value) (W : World), (callFunc 26 xs).run Try.prog W = .ok (.enter 26 xs) W := fun _ _ => by kernel_rfl
theorem ent49 : ∀ (xs : Array Value) (W : World), (callFunc 49 xs).run Try.prog W = .ok (.enter 49 xs) W := fun _ _ => by kernel_rfl
theorem ent59 : ∀ (xs : Array Value) (W : World), (callFunc 59 xs).run Try.prog W = .ok (.enter 59 xs) W := fun _ _ => by kernel_rfl
theorem ent70 : ∀ (xs : Array Value) (W : World), (callFunc 70 xs).run Try.prog W = .ok (.enter 70 xs) W := fun _ _ => by kernel_rfl
theorem ent75 : ∀ (xs : Array Value) (W : World), (callFunc 75 xs).run Try.prog W = .ok (.enter 75 xs) W := fun _ _ => by kernel_rfl
theorem ent78 : ∀ (xs : Array Value) (W : World), (callFunc 78 xs).run Try.prog W = .ok (.enter 78 xs) W := fun _ _ => by kernel_rfl
theorem ent84 : ∀ (xs : Array Value) (W : World), (callFunc 84 xs).run Try.prog W = .ok (.enter 84 xs) W := fun _ _ => by kernel_rfl
theorem ent87 : ∀ (xs : Array Value) (W : World), (callFunc 87 xs).run Try.prog W = .ok (.enter 87 xs) W := fun _ _ => by kernel_rfl
theorem ent88 : ∀ (xs : Array Value) (W : World), (callFunc 88 xs).run Try.prog W = .ok (.enter 88 xs) W := fun _ _ => by kernel_rfl
theorem ent101 : ∀ (xs : Array Value) (W : World), (callFunc 101 xs).run Try.prog W = .ok (.enter 101 xs) W := fun _ _ => by kernel_rfl
theorem ent105 : ∀ (xs : Array Value) (W : World), (callFunc 105 xs).run Try.prog W = .ok (.enter 105 xs) W := fun _ _ => by kernel_rfl
theorem ent117 : ∀ (xs : Array Value) (W : World), (callFunc 117 xs).run Try.prog W = .ok (.enter 117 xs) W := fun _ _ => by kernel_rfl
theorem ent119 : ∀ (xs : Array Value) (W : World), (callFunc 119 xs).run Try.prog W = .ok (.enter 119 xs) W := fun _ _ => by kernel_rfl
theorem ent123 : ∀ (xs : Array Value) (W : World), (callFunc 123 xs).run Try.prog W = .ok (.enter 123 xs) W := fun _ _ => by kernel_rfl
theorem ent126 : ∀ (xs : Array Value) (W : World), (callFunc 126 xs).run Try.prog W = .ok (.enter 126 xs) W := fun _ _ => by kernel_rfl
theorem ent131 : ∀ (xs : Array Value) (W : World), (callFunc 131 xs).run Try.prog W = .ok (.enter 131 xs) W := fun _ _ => by kernel_rfl
theorem ent134 : ∀ (xs : Array Value) (W : World), (callFunc 134 xs).run Try.prog W = .ok (.enter 134 xs) W := fun _ _ => by kernel_rfl
theorem ent135 : ∀ (xs : Array Value) (W : World), (callFunc 135 xs).run Try.prog W = .ok (.enter 135 xs) W := fun _ _ => by kernel_rfl
/-- Bytes, as values. -/
def bv (l : List Nat) : List Value := l.map fun (x : Nat) => .int .u8 (x : Int)
def elB (l : List Nat) (i : Nat) : Array Value := #[.int .u8 ((l.getD i 0 : Nat) : Int)]
theorem bv_len (l : List Nat) : (bv l).length = l.length := by simp [bv]
theorem bv_one (l : List Nat) : ∀ u ∈ bv l, u.oneCell' = true := by
  intro u hu; obtain ⟨x, _, rfl⟩ := List.mem_map.1 hu; rfl
theorem bv_app (l m : List Nat) : bv l ++ bv m = bv (l ++ m) := by simp [bv]
theorem Sl.src {w : World} {a : Option Addr} {c : Nat} {l : List Nat} (h : Sl w 1 l.length (.slice a l.length c) (elB l)) : 0 < l.length → ∃ ad, a = some ad ∧ ∀ j u, (bv l)[j]? = some u → w.cell? (ad.add j) = some u := by
  obtain ⟨a', c', e, hm, hE⟩ := h
  injection e with e1 e2 e3
  subst e1
  intro h0
  obtain ⟨b, off, rfl, hb, hc⟩ := hE h0
  refine ⟨_, rfl, fun j u hu => ?_⟩
  have hj : j < l.length := by
    rcases Nat.lt_or_ge j l.length with h | h
    · exact h
    · rw [List.getElem?_eq_none (by rw [bv_len]; exact h)] at hu; cases hu
  have hadd : (⟨b, off, none⟩ : Addr).add j = ⟨b, off + j, none⟩ := by unfold Addr.add; split <;> simp_all
  have := hc j hj 0 (by omega)
  rw [Nat.mul_one, Nat.add_zero] at this
  rw [hadd, this, ← hu]
  simp [elB, bv, List.getD, hj]
theorem room_ok (v : Value) (l : List Nat) (more : Int) (hm0 : 0 ≤ more) (hm1 : more ≤ 1000) (hl : l.length ≤ 1000000) (w : World) (hs : Sl w 1 l.length v (elB l)) :
    Calls Try.prog 130 #[v, .int .i64 more] w (Ret fun v' w' => (∃ ap cp, v' = .slice ap l.length cp) ∧ w'.ownsRow w.heap.size 5 1 v' l.length (bv l) ∧ Below w.heap.size w w') := by
  have hs' := hs
  obtain ⟨a, c, rfl, hm, _⟩ := hs'
  unfold maxLen at hm
  have H := St.init w
  go_enter Try.func130, Try.ntmps130
  go_wp2_with (first | (with_reducible refine wpl rfl (dQ 12 rfl ?_); with_reducible refine (Stp.mk 12 rfl rfl Try.underlying22 info5 rfl rfl rfl (by omega) (by omega) (by omega) (by omega) H ?_); clear H; intro a12 c12 w1 H; simp only [pS]; (try simp only [Int.toNat_natCast, toNat_add8] at H ⊢)) | (with_reducible refine wpl rfl (dQ 15 rfl ?_); with_reducible refine (Stp.cp 15 rfl rfl Try.underlying22 cpsz22 rfl rfl H uP (bv_len l) (hs.grow H.below).src (bv_one l) ?_); clear H; intro w1 H; simp only [pS]))
  go_ret
  have ho := H.getSlc List.mem_cons_self
  have e1 : (bv l).take l.length ++ (List.replicate l.length (Value.int .u8 0)).drop l.length = bv l := by
    rw [List.take_of_length_le (by rw [bv_len]; exact Nat.le_refl _), List.drop_of_length_le (by simp), List.append_nil]
  rw [e1] at ho
  exact ⟨_, rfl, ⟨_, _, rfl⟩, ho, H.below⟩
end Go.Proofs.Ytmokecicjmjkbaa
namespace Go.Proofs.Ytmokecicjmjkbaa
open Go.ChangeShapes Go.WideShapes Go.ChangeAt Go.RowKit
set_option linter.unusedVariables false
set_option linter.unusedSimpArgs false
/-- Some bytes' slice, one of its bytes. -/
theorem Sl.byte {w : World} {a : Option Addr} {c : Nat} {l : List Nat} (h : Sl w 1 l.length (.slice a l.length c) (elB l)) {k : Nat} (hk : k < l.length) :
    ∃ b off, a = some ⟨b, off, none⟩ ∧ b < w.heap.size ∧ w.cell? ⟨b, off + k, none⟩ = some (.int .u8 ((l.getD k 0 : Nat) : Int)) := by
  obtain ⟨a', c', e, hm, hE⟩ := h
  injection e with e1 e2 e3
  subst e1
  obtain ⟨b, off, rfl, hb, hc⟩ := hE (by omega)
  refine ⟨b, off, rfl, hb, ?_⟩
  have := hc k hk 0 (by omega)
  rw [Nat.mul_one, Nat.add_zero] at this
  rw [this]; simp [elB]
theorem Sl.len {w : World} {v : Value} {l : List Nat} (h : Sl w 1 l.length v (elB l)) : ∃ a c, v = .slice a l.length c ∧ l.length ≤ 9223372036854775807 := by
  obtain ⟨a, c, rfl, hm, _⟩ := h
  exact ⟨a, c, rfl, by unfold maxLen at hm; omega⟩
theorem take_snoc (l : List Nat) (k : Nat) (h : k < l.length) : l.take (k + 1) = l.take k ++ [l.getD k 0] := by
  rw [List.take_succ_eq_append_getElem h]; simp [List.getD, h]
theorem same_ok (va vb : Value) (la lb : List Nat) (w : World) (ha : Sl w 1 la.length va (elB la)) (hb : Sl w 1 lb.length vb (elB lb)) :
    Calls Try.prog 17 #[va, vb] w (Ret fun v w' => v = .bool (la == lb) ∧ Below w.heap.size w w') := by
  have ha' := ha
  have hb' := hb
  obtain ⟨aa, ca, rfl, hma⟩ := ha'.len
  obtain ⟨ab, cb, rfl, hmb⟩ := hb'.len
  have H := St.init w
  by_cases hlen : la.length = lb.length
  · have h1 : ((la.length : Int) != (lb.length : Int)) = false := by simp [hlen]
    have HL := Lib.hid hlen
    clear hlen
    go_enter Try.func17, Try.ntmps17
    go_wp2_with fail
    go_loopw [5] (fun i wr => ∃ k : Nat, k ≤ la.length ∧ i = .int .i64 k ∧ la.take k = lb.take k ∧ St w.heap.size w wr []) (fun i _ => la.length - (intOf i).toNat)
    case atStart => exact ⟨0, Nat.zero_le _, rfl, rfl, H⟩
    case round =>
      clear H
      obtain ⟨k, hk, rfl, ht, H⟩ := hrel
      have HT := Lib.hid ht
      clear ht
      by_cases hlt : k < la.length
      · have hlt2 : k < lb.length := by have := HL.out; omega
        obtain ⟨b1, o1, rfl, hb1, hc1⟩ := ha.byte hlt
        obtain ⟨b2, o2, rfl, hb2, hc2⟩ := hb.byte hlt2
        have hs1 := take_snoc la k hlt
        have hs2 := take_snoc lb k hlt2
        have HS1 := Lib.hid hs1
        have HS2 := Lib.hid hs2
        clear hs1 hs2
        by_cases he : la.getD k 0 = lb.getD k 0
        · have hne : (((la.getD k 0 : Nat) : Int) != ((lb.getD k 0 : Nat) : Int)) = false := by rw [he]; exact bne_self_eq_false _
          have HE := Lib.hid he
          clear he
          obtain ⟨x, hx⟩ : ∃ x : Int, x = ((la.getD k 0 : Nat) : Int) := ⟨_, rfl⟩
          obtain ⟨y, hy⟩ : ∃ y : Int, y = ((lb.getD k 0 : Nat) : Int) := ⟨_, rfl⟩
          rw [← hx] at hc1 hne
          rw [← hy] at hc2 hne
          clear hx hy
          go_wp2_with fail
          refine rg_begin 9 rfl (S := fun W => St _ _ W _) (by kernel_rfl) H.drew ?_
          replace H := H.drew
          have HS := H
          refine rg_take (i := 0) rfl kR kR kR (Yld.move rfl rfl) HS ?_; simp only [pS, pE]
          refine rg_take (i := 1) rfl kR kR kR (Yld.move rfl rfl) HS ?_; simp only [pS, pE]
          refine rg_take (i := 2) rfl kR kR kR (Yld.o rfl) HS ?_; simp only [pS]
          first | (refine rg_take (i := 3) rfl kR kR kR (Yld.ldo rfl rfl agg5 rfl (by assumption) (by assumption)) HS ?_; simp only [pS]) | (refine rg_take (i := 3) rfl kR kR kR (Yld.ldc rfl rfl agg5 rfl mR cE) HS ?_; simp only [pS])
          refine rg_take (i := 4) rfl kR kR kR (Yld.move rfl rfl) HS ?_; simp only [pS, pE]
          refine rg_take (i := 5) rfl kR kR kR (Yld.move rfl rfl) HS ?_; simp only [pS, pE]
          refine rg_take (i := 6) rfl kR kR kR (Yld.o rfl) HS ?_; simp only [pS]
          first | (refine rg_take (i := 7) rfl kR kR kR (Yld.ldo rfl rfl agg5 rfl (by assumption) (by assumption)) HS ?_; simp only [pS]) | (refine rg_take (i := 7) rfl kR kR kR (Yld.ldc rfl rfl agg5 rfl mR cE) HS ?_; simp only [pS])
          refine rg_take (i := 8) rfl kR kR kR (Yld.o rfl) HS ?_; simp only [pS]
          refine rg_done (by kernel_rfl) ?_
          go_wp2_with fail
          go_roundw
          case rel => exact ⟨k + 1, by omega, by go_num, by rw [HS1.out, HS2.out, HT.out, HE.out], H⟩
          case measure => simp [intOf]; omega
        · have hne : (((la.getD k 0 : Nat) : Int) != ((lb.getD k 0 : Nat) : Int)) = true := bne_iff_ne.2 (by omega)
          have HE := Lib.hid he
          clear he
          obtain ⟨x, hx⟩ : ∃ x : Int, x = ((la.getD k 0 : Nat) : Int) := ⟨_, rfl⟩
          obtain ⟨y, hy⟩ : ∃ y : Int, y = ((lb.getD k 0 : Nat) : Int) := ⟨_, rfl⟩
          rw [← hx] at hc1 hne
          rw [← hy] at hc2 hne
          clear hx hy
          go_wp2_with fail
          refine rg_begin 9 rfl (S := fun W => St _ _ W _) (by kernel_rfl) H.drew ?_
          replace H := H.drew
          have HS := H
          refine rg_take (i := 0) rfl kR kR kR (Yld.move rfl rfl) HS ?_; simp only [pS, pE]
          refine rg_take (i := 1) rfl kR kR kR (Yld.move rfl rfl) HS ?_; simp only [pS, pE]
          refine rg_take (i := 2) rfl kR kR kR (Yld.o rfl) HS ?_; simp only [pS]
          first | (refine rg_take (i := 3) rfl kR kR kR (Yld.ldo rfl rfl agg5 rfl (by assumption) (by assumption)) HS ?_; simp only [pS]) | (refine rg_take (i := 3) rfl kR kR kR (Yld.ldc rfl rfl agg5 rfl mR cE) HS ?_; simp only [pS])
          refine rg_take (i := 4) rfl kR kR kR (Yld.move rfl rfl) HS ?_; simp only [pS, pE]
          refine rg_take (i := 5) rfl kR kR kR (Yld.move rfl rfl) HS ?_; simp only [pS, pE]
          refine rg_take (i := 6) rfl kR kR kR (Yld.o rfl) HS ?_; simp only [pS]
          first | (refine rg_take (i := 7) rfl kR kR kR (Yld.ldo rfl rfl agg5 rfl (by assumption) (by assumption)) HS ?_; simp only [pS]) | (refine rg_take (i := 7) rfl kR kR kR (Yld.ldc rfl rfl agg5 rfl mR cE) HS ?_; simp only [pS])
          refine rg_take (i := 8) rfl kR kR kR (Yld.o rfl) HS ?_; simp only [pS]
          refine rg_done (by kernel_rfl) ?_
          go_wp2_with fail
          go_ret
          refine ⟨_, rfl, ?_, H.below⟩
          have : (la == lb) = false := by
            simp only [beq_eq_false_iff_ne]; rintro rfl; exact HE.out rfl
          rw [this]; rfl
      · obtain rfl : k = la.length := by omega
        go_wp2_with fail
        go_ret
        refine ⟨_, rfl, ?_, H.below⟩
        have h2 := HT.out
        rw [List.take_length, HL.out, List.take_length] at h2
        rw [h2]; simp
  · have h1 : ((la.length : Int) != (lb.length : Int)) = true := by simp; omega
    go_enter Try.func17, Try.ntmps17
    go_wp2_with fail
    go_ret
    refine ⟨_, rfl, ?_, H.below⟩
    have : (la == lb) = false := by
      simp only [beq_eq_false_iff_ne]; rintro rfl; exact hlen rfl
    rw [this]; rfl
theorem wrap_u64_in (x : Int) (h0 : 0 ≤ x) (h1 : x < 18446744073709551616) : IntKind.u64.wrap x = x := by
  simp [IntKind.wrap, IntKind.signed, IntKind.bits]; omega
end Go.Proofs.Ytmokecicjmjkbaa
namespace Go.Proofs.Ytmokecicjmjkbaa
open Go.ChangeShapes Go.WideShapes Go.ChangeAt Go.RowKit
set_option linter.unusedVariables false
set_option linter.unusedSimpArgs false
/-- A number's short form, f bytes more at most. -/
def shortF : Nat → Nat → List Nat
  | 0, n => [n % 256]
  | f + 1, n => if n < 128 then [n % 256] else (n % 128 + 128) :: shortF f (n / 128)
def shortB (n : Nat) : List Nat := shortF 9 n
theorem shortF_len : ∀ (f n : Nat), (shortF f n).length ≤ f + 1
  | 0, n => by simp [shortF]
  | f + 1, n => by
    unfold shortF; split
    · simp
    · have := shortF_len f (n / 128); simp; omega
theorem shortF_small (f n : Nat) (h : n < 128) : shortF f n = [n % 256] := by
  cases f with
  | zero => rfl
  | succ f => unfold shortF; rw [if_pos h]
theorem shortF_big (f n : Nat) (h : ¬ n < 128) : shortF (f + 1) n = (n % 128 + 128) :: shortF f (n / 128) := by
  rw [shortF, if_neg h]
theorem or128 (x : Nat) (h : x < 256) : bits .or .u8 (x : Int) 128 = ((x % 128 + 128 : Nat) : Int) := by
  have := (by decide +kernel : ∀ x : Fin 256, bits .or .u8 ((x.val : Nat) : Int) 128 = ((x.val % 128 + 128 : Nat) : Int))
  exact this ⟨x, h⟩
set_option maxRecDepth 100000 in
theorem putshort_ok (v : Value) (l : List Nat) (n : Nat) (hn : n < 18446744073709551616) (hl : l.length ≤ 900000) (w : World) (hs : Sl w 1 l.length v (elB l)) :
    Calls Try.prog 101 #[v, .int .u64 (n : Int)] w (Ret fun v' w' => (∃ ap cp, v' = .slice ap (l ++ shortB n).length cp) ∧ w'.ownsRow w.heap.size 5 1 v' (l ++ shortB n).length (bv (l ++ shortB n)) ∧ Below w.heap.size w w') := by
  have HN := Lib.hid hn
  clear hn
  have H := St.init w
  go_enter Try.func101, Try.ntmps101
  go_wp2_with (first | (go_at_call 130; refine (room_ok _ l _ (by omega) (by omega) (by omega) _ (hs.grow H.below)).mono ?_; rintro e w1 ⟨v, rfl, hr⟩; obtain ⟨⟨ap, cp, rfl⟩, ho, hb1⟩ := hr; replace H := H.new hb1 (slc_sound ho) (fun g hg => (ho.lt g hg).1); clear hb1 ho))
  go_loopw [1, 5] (fun x o wr => ∃ (k m : Nat) (pre : List Nat), k ≤ 9 ∧ pre.length = k ∧ x = .int .u64 (m : Int) ∧ Hid (m < 2 ^ (64 - 7 * k)) ∧ Hid (shortB n = pre ++ shortF (9 - k) m) ∧ ∃ ap cp, o = .slice ap (l.length + pre.length) cp ∧ St w.heap.size w wr [slc 5 1 (.slice ap (l.length + pre.length) cp) (l.length + pre.length) (bv (l ++ pre))]) (fun x _ _ => (intOf x).toNat)
  case atStart => exact ⟨0, n, [], Nat.zero_le _, rfl, rfl, Lib.hid (by simpa using HN.out), Lib.hid (by simp [shortB]), ap, cp, rfl, by simpa using H⟩
  case round =>
    clear H
    obtain ⟨k, m, pre, hk, hpl, rfl, HM, HS, ap, cp, rfl, H⟩ := hrel
    have hp9 : pre.length ≤ 9 := by omega
    have HP := Lib.hid hpl
    clear hpl
    by_cases hlt : m < 128
    · have hd : decide ((128 : Int) ≤ (m : Int)) = false := by simp; omega
      go_wp2_with (first | (with_reducible refine wpl rfl (dQ 21 rfl ?_); with_reducible refine (Stp.bsl1 21 rfl rfl Try.underlying22 size5 zero5 rfl rfl H ?_); clear H; intro g21 w1 H; simp only [pS]) | (with_reducible refine wpl rfl (dQ 22 rfl ?_); with_reducible refine (Stp.app 22 rfl rfl Try.underlying22 info5 rfl (by decide) rfl rfl H (fun _ => uP) rfl (new1 (H.getRow mE)) (by simp [Value.oneCell']) (by unfold maxLen; omega) (by omega) ?_); clear H; intro a22 c22 w1 H; simp only [pS]))
      go_ret
      have e : shortB n = pre ++ [m] := by rw [HS.out, shortF_small _ _ hlt, Nat.mod_eq_of_lt (by omega)]
      have hlen : (l ++ shortB n).length = l.length + pre.length + 1 := by rw [e]; simp; omega
      have ho := H.getSlc mE
      have e2 : bv (l ++ pre) ++ [Value.int .u8 (m : Int)] = bv (l ++ shortB n) := by rw [e]; simp [bv]
      rw [e2] at ho
      rw [hlen]
      exact ⟨_, rfl, ⟨a22, c22, rfl⟩, ho, H.below⟩
    · have hd : decide ((128 : Int) ≤ (m : Int)) = true := by simp; omega
      have hk8 : k ≤ 8 := by
        rcases Nat.lt_or_ge k 9 with h | h
        · omega
        · have h2 := HM.out
          have : k = 9 := by omega
          subst this
          have : (2 : Nat) ^ (64 - 7 * 9) = 2 := by decide
          omega
      go_wp2_with (first | (with_reducible refine wpl rfl (dQ 14 rfl ?_); with_reducible refine (Stp.bsl1 14 rfl rfl Try.underlying22 size5 zero5 rfl rfl H ?_); clear H; intro g14 w1 H; simp only [pS]) | (with_reducible refine wpl rfl (dQ 15 rfl ?_); with_reducible refine (Stp.app 15 rfl rfl Try.underlying22 info5 rfl (by decide) rfl rfl H (fun _ => uP) rfl (new1 (H.getRow mE)) (by simp [Value.oneCell']) (by unfold maxLen; omega) (by omega) ?_); clear H; intro a15 c15 w1 H; simp only [pS]))
      have eo : bits .or .u8 ((m : Int) % 256) 128 = ((m % 128 + 128 : Nat) : Int) := by
        have h1 := or128 (m % 256) (Nat.mod_lt _ (by omega))
        rw [Int.natCast_emod] at h1
        rw [show ((256 : Nat) : Int) = 256 from rfl] at h1
        rw [h1]
        congr 2
        omega
      rw [eo] at H
      go_roundw
      case rel =>
        refine ⟨k + 1, m / 128, pre ++ [m % 128 + 128], by omega, by simp [HP.out], rfl, Lib.hid ?_, Lib.hid ?_, a15, c15, by simp; omega, ?_⟩
        · have h2 := HM.out
          have h3 : (2 : Nat) ^ (64 - 7 * k) = 128 * 2 ^ (64 - 7 * (k + 1)) := by
            rw [show 64 - 7 * k = 7 + (64 - 7 * (k + 1)) by omega, Nat.pow_add]
          rw [h3] at h2
          exact Nat.div_lt_of_lt_mul h2
        · rw [HS.out, show 9 - k = (9 - (k + 1)) + 1 by omega, shortF_big _ _ hlt]; simp
        · have e2 : bv (l ++ pre) ++ [Value.int .u8 ((m % 128 + 128 : Nat) : Int)] = bv (l ++ (pre ++ [m % 128 + 128])) := by simp [bv]
          rw [e2] at H
          have e3 : l.length + (pre ++ [m % 128 + 128]).length = l.length + pre.length + 1 := by simp; omega
          rw [e3]
          exact H.tl
      case measure => simp [intOf]; omega
end Go.Proofs.Ytmokecicjmjkbaa
namespace Go.Proofs.Ytmokecicjmjkbaa
open Go.ChangeShapes Go.WideShapes Go.ChangeAt Go.RowKit
set_option linter.unusedVariables false
set_option linter.unusedSimpArgs false
set_option maxRecDepth 100000 in
theorem rshort_ok (n : Nat) (hn : n < 18446744073709551616) (w : World) :
    Calls Try.prog 105 #[.int .u64 (n : Int)] w (Ret fun v' w' => (∃ ap cp, v' = .slice ap (shortB n).length cp) ∧ w'.ownsRow w.heap.size 5 1 v' (shortB n).length (bv (shortB n)) ∧ Below w.heap.size w w') := by
  have HN := Lib.hid hn
  clear hn
  have H := (St.init w).nil 5 1
  go_enter Try.func105, Try.ntmps105
  go_wp2_with fail
  go_loopw [0, 3] (fun x o wr => ∃ (k m : Nat) (pre : List Nat), k ≤ 9 ∧ pre.length = k ∧ x = .int .u64 (m : Int) ∧ Hid (m < 2 ^ (64 - 7 * k)) ∧ Hid (shortB n = pre ++ shortF (9 - k) m) ∧ ∃ ap cp, o = .slice ap pre.length cp ∧ St w.heap.size w wr [slc 5 1 (.slice ap pre.length cp) pre.length (bv pre)]) (fun x _ _ => (intOf x).toNat)
  case atStart => exact ⟨0, n, [], Nat.zero_le _, rfl, rfl, Lib.hid (by simpa using HN.out), Lib.hid (by simp [shortB]), _, _, rfl, H⟩
  case round =>
    clear H
    obtain ⟨k, m, pre, hk, hpl, rfl, HM, HS, ap, cp, rfl, H⟩ := hrel
    have hp9 : pre.length ≤ 9 := by omega
    have HP := Lib.hid hpl
    clear hpl
    by_cases hlt : m < 128
    · have hd : decide ((128 : Int) ≤ (m : Int)) = false := by simp; omega
      go_wp2_with (first | (with_reducible refine wpl rfl (dQ 18 rfl ?_); with_reducible refine (Stp.bsl1 18 rfl rfl Try.underlying22 size5 zero5 rfl rfl H ?_); clear H; intro g18 w1 H; simp only [pS]) | (with_reducible refine wpl rfl (dQ 19 rfl ?_); with_reducible refine (Stp.app 19 rfl rfl Try.underlying22 info5 rfl (by decide) rfl rfl H (fun _ => uP) rfl (new1 (H.getRow mE)) (by simp [Value.oneCell']) (by unfold maxLen; omega) (by omega) ?_); clear H; intro a19 c19 w1 H; simp only [pS]))
      go_ret
      have e : shortB n = pre ++ [m] := by rw [HS.out, shortF_small _ _ hlt, Nat.mod_eq_of_lt (by omega)]
      have hlen : (shortB n).length = pre.length + 1 := by rw [e]; simp
      have ho := H.getSlc mE
      have e2 : bv pre ++ [Value.int .u8 (m : Int)] = bv (shortB n) := by rw [e]; simp [bv]
      rw [e2] at ho
      rw [hlen]
      exact ⟨_, rfl, ⟨_, _, rfl⟩, ho, H.below⟩
    · have hd : decide ((128 : Int) ≤ (m : Int)) = true := by simp; omega
      have hk8 : k ≤ 8 := by
        rcases Nat.lt_or_ge k 9 with h | h
        · omega
        · have h2 := HM.out
          have : k = 9 := by omega
          subst this
          have : (2 : Nat) ^ (64 - 7 * 9) = 2 := by decide
          omega
      go_wp2_with (first | (with_reducible refine wpl rfl (dQ 11 rfl ?_); with_reducible refine (Stp.bsl1 11 rfl rfl Try.underlying22 size5 zero5 rfl rfl H ?_); clear H; intro g11 w1 H; simp only [pS]) | (with_reducible refine wpl rfl (dQ 12 rfl ?_); with_reducible refine (Stp.app 12 rfl rfl Try.underlying22 info5 rfl (by decide) rfl rfl H (fun _ => uP) rfl (new1 (H.getRow mE)) (by simp [Value.oneCell']) (by unfold maxLen; omega) (by omega) ?_); clear H; intro a12 c12 w1 H; simp only [pS]))
      have hm64 : m < 18446744073709551616 := Nat.lt_of_lt_of_le HM.out (by
        have : (2 : Nat) ^ (64 - 7 * k) ≤ 2 ^ 64 := Nat.pow_le_pow_right (by omega) (by omega)
        simpa using this)
      have ew : IntKind.u64.wrap ((m : Int) / 128) = ((m / 128 : Nat) : Int) := by
        rw [Int.natCast_ediv]; exact wrap_u64_in _ (by omega) (by omega)
      have eo : ((m : Int) % 128 + 128) = ((m % 128 + 128 : Nat) : Int) := by omega
      rw [ew]
      rw [eo] at H
      clear hm64
      go_roundw
      case rel =>
        refine ⟨k + 1, m / 128, pre ++ [m % 128 + 128], by omega, by simp [HP.out], rfl, Lib.hid ?_, Lib.hid ?_, a12, c12, by simp, ?_⟩
        · have h2 := HM.out
          have h3 : (2 : Nat) ^ (64 - 7 * k) = 128 * 2 ^ (64 - 7 * (k + 1)) := by
            rw [show 64 - 7 * k = 7 + (64 - 7 * (k + 1)) by omega, Nat.pow_add]
          rw [h3] at h2
          exact Nat.div_lt_of_lt_mul h2
        · rw [HS.out, show 9 - k = (9 - (k + 1)) + 1 by omega, shortF_big _ _ hlt]; simp
        · have e2 : bv pre ++ [Value.int .u8 ((m % 128 + 128 : Nat) : Int)] = bv (pre ++ [m % 128 + 128]) := by simp [bv]
          rw [e2] at H
          have e3 : (pre ++ [m % 128 + 128]).length = pre.length + 1 := by simp
          rw [e3]
          exact H.tl
      case measure => simp [intOf]; omega
end Go.Proofs.Ytmokecicjmjkbaa
namespace Go.Proofs.Ytmokecicjmjkbaa
open Go.ChangeShapes Go.WideShapes Go.ChangeAt Go.RowKit
set_option linter.unusedVariables false
set_option linter.unusedSimpArgs false
theorem getD_byte {l : List Nat} (h : ∀ x ∈ l, x < 256) (k : Nat) : l.getD k 0 < 256 := by
  by_cases hk : k < l.length
  · have : l.getD k 0 = l[k] := by simp [List.getD, hk]
    rw [this]; exact h _ (List.getElem_mem hk)
  · simp [List.getD, List.getElem?_eq_none (by omega : l.length ≤ k)]
end Go.Proofs.Ytmokecicjmjkbaa
namespace Go.Proofs.Ytmokecicjmjkbaa
open Go.ChangeShapes Go.WideShapes Go.ChangeAt Go.RowKit
set_option linter.unusedVariables false
set_option linter.unusedSimpArgs false
/-- What is read from place i on, f steps at most. -/
def gs (l : List Nat) : Nat → Nat → Nat → Nat × Nat × Nat
  | 0, _, _ => (0, 0, 2)
  | f + 1, i, n =>
    if l.length ≤ i then (0, 0, 2)
    else if i = 9 ∧ 1 < l.getD i 0 then (0, 0, 5)
    else if l.getD i 0 < 128 then (if l.getD i 0 = 0 ∧ 0 < i then (0, 0, 5) else (n + l.getD i 0 % 128 * 2 ^ (7 * i), i + 1, 0))
    else gs l f (i + 1) (n + l.getD i 0 % 128 * 2 ^ (7 * i))
theorem gs_end {l : List Nat} {f i n : Nat} (h : l.length ≤ i) : gs l f i n = (0, 0, 2) := by
  cases f with
  | zero => rfl
  | succ f => rw [gs, if_pos h]
theorem gs_big {l : List Nat} {f i n : Nat} (h : i < l.length) (h9 : i = 9) (hc : 1 < l.getD i 0) : gs l (f + 1) i n = (0, 0, 5) := by
  rw [gs, if_neg (by omega), if_pos ⟨h9, hc⟩]
theorem gs_zero {l : List Nat} {f i n : Nat} (h : i < l.length) (h9 : ¬ (i = 9 ∧ 1 < l.getD i 0)) (hc : l.getD i 0 = 0) (hi : 0 < i) : gs l (f + 1) i n = (0, 0, 5) := by
  rw [gs, if_neg (by omega), if_neg h9, if_pos (by omega), if_pos ⟨hc, hi⟩]
theorem gs_last {l : List Nat} {f i n : Nat} (h : i < l.length) (h9 : ¬ (i = 9 ∧ 1 < l.getD i 0)) (hc : l.getD i 0 < 128) (hz : ¬ (l.getD i 0 = 0 ∧ 0 < i)) : gs l (f + 1) i n = (n + l.getD i 0 % 128 * 2 ^ (7 * i), i + 1, 0) := by
  rw [gs, if_neg (by omega), if_neg h9, if_pos hc, if_neg hz]
theorem gs_more {l : List Nat} {f i n : Nat} (h : i < l.length) (h9 : ¬ (i = 9 ∧ 1 < l.getD i 0)) (hc : ¬ l.getD i 0 < 128) : gs l (f + 1) i n = gs l f (i + 1) (n + l.getD i 0 % 128 * 2 ^ (7 * i)) := by
  rw [gs, if_neg (by omega), if_neg h9, if_neg hc]
theorem and127 (x : Nat) (h : x < 256) : bits .and .u8 (x : Int) 127 = ((x % 128 : Nat) : Int) := by
  have := (by decide +kernel : ∀ x : Fin 256, bits .and .u8 ((x.val : Nat) : Int) 127 = ((x.val % 128 : Nat) : Int))
  exact this ⟨x, h⟩
theorem or_at (n y k : Nat) (hn : n < 2 ^ k) (h : n + y * 2 ^ k < 18446744073709551616) : bits .or .u64 (n : Int) ((y : Int) * 2 ^ k) = ((n + y * 2 ^ k : Nat) : Int) := by
  have e : ((y : Int) * 2 ^ k) = ((y * 2 ^ k : Nat) : Int) := by push_cast; rfl
  rw [e]
  have h1 : n < 18446744073709551616 := by omega
  have h2 : y * 2 ^ k < 18446744073709551616 := by omega
  have := Nat.shiftLeft_add_eq_or_of_lt hn y
  rw [Nat.shiftLeft_eq] at this
  rw [bits_or_u64_nat _ _ h1 h2, Nat.or_comm, ← this, Nat.add_comm]
theorem sh_small (n y k : Nat) (hk : k ≤ 9) (hn : n < 2 ^ (7 * k)) (hy : y < 128) (h9 : k = 9 → y ≤ 1) : n + y * 2 ^ (7 * k) < 2 ^ (7 * (k + 1)) ∧ n + y * 2 ^ (7 * k) < 18446744073709551616 := by
  have e : (2 : Nat) ^ (7 * (k + 1)) = 128 * 2 ^ (7 * k) := by rw [show 7 * (k + 1) = 7 + 7 * k by omega, Nat.pow_add]
  have m1 : y * 2 ^ (7 * k) ≤ 127 * 2 ^ (7 * k) := Nat.mul_le_mul_right _ (by omega)
  have h1 : n + y * 2 ^ (7 * k) < 2 ^ (7 * (k + 1)) := by omega
  refine ⟨h1, ?_⟩
  rcases Nat.lt_or_ge k 9 with h | h
  · have : (2 : Nat) ^ (7 * (k + 1)) ≤ 2 ^ 63 := Nat.pow_le_pow_right (by omega) (by omega)
    omega
  · obtain rfl : k = 9 := by omega
    have m2 : y * 2 ^ (7 * 9) ≤ 1 * 2 ^ (7 * 9) := Nat.mul_le_mul_right _ (h9 rfl)
    omega
set_option maxRecDepth 100000 in
set_option maxHeartbeats 1000000 in
theorem getshort_ok (v : Value) (l : List Nat) (hl : l.length ≤ 1000000) (hx : ∀ x ∈ l, x < 256) (w : World) (hs : Sl w 1 l.length v (elB l)) (a b c : Nat) (hr : gs l 10 0 0 = (a, b, c)) :
    Calls Try.prog 121 #[v] w (Ret fun v w' => v = .tuple #[.int .u64 (a : Int), .int .i64 (b : Int), .int .i64 (c : Int)] ∧ Below w.heap.size w w') := by
  have hs' := hs
  obtain ⟨ad, cp, rfl, hm⟩ := hs'.len
  have H := St.init w
  have HX := Lib.hid hx
  have HR := Lib.hid hr
  clear hx hr
  go_enter Try.func121, Try.ntmps121
  go_wp2_with (first | (with_reducible refine wpl rfl (ldQ (ty := 5) rfl ?_); first | (with_reducible refine (Stp.ldo rfl agg5 rfl H (by assumption) (by assumption) ?_); simp only [pS]) | (with_reducible refine (Stp.ldc rfl agg5 rfl H mR cE ?_); simp only [pS])))
  go_loopw [9, 2] (fun i x wr => ∃ k n : Nat, k ≤ l.length ∧ k ≤ 9 ∧ x = .int .u64 (n : Int) ∧ i = .int .i64 (k : Int) ∧ Hid (n < 2 ^ (7 * k)) ∧ Hid (gs l (10 - k) k n = (a, b, c)) ∧ St w.heap.size w wr []) (fun i _ _ => l.length - (intOf i).toNat)
  case atStart => exact ⟨0, 0, Nat.zero_le _, by omega, rfl, rfl, Lib.hid (by decide), HR, H⟩
  case round =>
    clear H
    obtain ⟨k, n, hk, hk9, rfl, rfl, HN, HG, H⟩ := hrel
    by_cases hlt : k < l.length
    · obtain ⟨b1, o1, rfl, hb1, hc1⟩ := hs.byte hlt
      obtain ⟨y, hy⟩ : ∃ y : Nat, y = l.getD k 0 := ⟨_, rfl⟩
      have hy8 : y < 256 := by rw [hy]; exact getD_byte HX.out k
      rw [← hy] at hc1
      have ea := and127 y hy8
      have ef : 10 - k = (9 - k) + 1 := by omega
      have HF := Lib.hid ef
      clear ef
      have HY := Lib.hid hy
      clear hy
      by_cases e9 : k = 9
      · subst e9
        have y3 : y = 0 ∨ y = 1 ∨ 1 < y := by omega
        rcases y3 with rfl | rfl | h9y
        · have hh := HG.out
          rw [HF.out, gs_zero hlt (by rw [← HY.out]; omega) HY.out.symm (by omega)] at hh
          cases hh
          go_wp2_with (first | (with_reducible refine wpl rfl (ldQ (ty := 5) rfl ?_); first | (with_reducible refine (Stp.ldo rfl agg5 rfl H (by assumption) (by assumption) ?_); simp only [pS]) | (with_reducible refine (Stp.ldc rfl agg5 rfl H mR cE ?_); simp only [pS])))
          go_ret3
          exact ⟨_, rfl, rfl, H.below⟩
        · have hh := HG.out
          rw [HF.out, gs_last hlt (by rw [← HY.out]; omega) (by rw [← HY.out]; omega) (by rw [← HY.out]; omega), ← HY.out] at hh
          cases hh
          have hs9 := sh_small n 1 9 (by omega) HN.out (by omega) (by omega)
          have ho9 := or_at n 1 (7 * 9) HN.out hs9.2
          have ho : bits .or .u64 (n : Int) 9223372036854775808 = (n : Int) + 9223372036854775808 := by simpa using ho9
          have HSM := Lib.hid hs9
          clear ho9 hs9
          have e1 : bits .and .u8 1 127 = 1 := by decide +kernel
          go_wp2_with (first | (with_reducible refine wpl rfl (ldQ (ty := 5) rfl ?_); first | (with_reducible refine (Stp.ldo rfl agg5 rfl H (by assumption) (by assumption) ?_); simp only [pS]) | (with_reducible refine (Stp.ldc rfl agg5 rfl H mR cE ?_); simp only [pS])))
          go_ret3
          exact ⟨_, rfl, rfl, H.below⟩
        · have hh := HG.out
          rw [HF.out, gs_big hlt rfl (by rw [← HY.out]; exact h9y)] at hh
          have h1y : (1 : Int) < (y : Int) := by omega
          cases hh
          go_wp2_with (first | (with_reducible refine wpl rfl (ldQ (ty := 5) rfl ?_); first | (with_reducible refine (Stp.ldo rfl agg5 rfl H (by assumption) (by assumption) ?_); simp only [pS]) | (with_reducible refine (Stp.ldc rfl agg5 rfl H mR cE ?_); simp only [pS])))
          go_ret3
          exact ⟨_, rfl, rfl, H.below⟩
      · have h9' : ¬(k = 9 ∧ 1 < l.getD k 0) := fun h => e9 h.1
        have hsm := sh_small n (y % 128) k hk9 HN.out (Nat.mod_lt _ (by omega)) (fun h => absurd h e9)
        have ho := or_at n (y % 128) (7 * k) HN.out hsm.2
        have ow : IntKind.u64.wrap ((y : Int) % 128 * 2 ^ (7 * k)) = ((y % 128 : Nat) : Int) * 2 ^ (7 * k) := by
          have e : ((y : Int) % 128 * 2 ^ (7 * k)) = ((y % 128 * 2 ^ (7 * k) : Nat) : Int) := by push_cast; rfl
          have e' : ((y % 128 : Nat) : Int) * 2 ^ (7 * k) = ((y % 128 * 2 ^ (7 * k) : Nat) : Int) := by push_cast; rfl
          rw [e, e']
          exact wrap_u64_in _ (by omega) (by have := hsm.2; omega)
        rw [← ow] at ho
        have HO := Lib.hid ho
        have HSM := Lib.hid hsm
        clear ho hsm ow
        have H9 := Lib.hid h9'
        clear h9'
        have e9i : ¬ (k : Int) = 9 := by omega
        have eu : IntKind.u64.wrap (k : Int) = (k : Int) := wrap_u64_in _ (by omega) (by omega)
        have eu7 : IntKind.u64.wrap (7 * (k : Int)) = 7 * (k : Int) := wrap_u64_in _ (by omega) (by omega)
        have et : (7 * (k : Int)).toNat = 7 * k := by omega
        by_cases hz : y = 0 ∧ 0 < k
        · have hh := HG.out
          rw [HF.out, gs_zero hlt H9.out (by rw [← HY.out]; exact hz.1) hz.2] at hh
          obtain ⟨rfl, hk0⟩ := hz
          have hk0i : (0 : Int) < (k : Int) := by omega
          cases hh
          go_wp2_with (first | (with_reducible refine wpl rfl (ldQ (ty := 5) rfl ?_); first | (with_reducible refine (Stp.ldo rfl agg5 rfl H (by assumption) (by assumption) ?_); simp only [pS]) | (with_reducible refine (Stp.ldc rfl agg5 rfl H mR cE ?_); simp only [pS])))
          go_ret3
          exact ⟨_, rfl, rfl, H.below⟩
        · by_cases hc : y < 128
          · have hci : (y : Int) < 128 := by omega
            have hh := HG.out
            rw [HF.out, gs_last hlt H9.out (by rw [← HY.out]; exact hc) (by rw [← HY.out]; exact hz), ← HY.out] at hh
            cases hh
            by_cases hy0 : y = 0
            · obtain rfl : k = 0 := by omega
              subst hy0
              rw [Nat.add_zero] at hc1
              obtain rfl : n = 0 := by have := HN.out; simp at this; omega
              clear ea eu eu7 et
              go_wp2_with (first | (with_reducible refine wpl rfl (ldQ (ty := 5) rfl ?_); first | (with_reducible refine (Stp.ldo rfl agg5 rfl H (by assumption) (by assumption) ?_); simp only [pS]) | (with_reducible refine (Stp.ldc rfl agg5 rfl H mR cE ?_); simp only [pS])))
              go_ret3
              exact ⟨_, rfl, rfl, H.below⟩
            · have hy0i : ¬ (y : Int) = 0 := by omega
              go_wp2_with (first | (with_reducible refine wpl rfl (ldQ (ty := 5) rfl ?_); first | (with_reducible refine (Stp.ldo rfl agg5 rfl H (by assumption) (by assumption) ?_); simp only [pS]) | (with_reducible refine (Stp.ldc rfl agg5 rfl H mR cE ?_); simp only [pS])))
              go_ret3
              refine ⟨_, rfl, ?_, H.below⟩
              rw [← HO.out]
              rfl
          · have hci : ¬ (y : Int) < 128 := by omega
            go_wp2_with (first | (with_reducible refine wpl rfl (ldQ (ty := 5) rfl ?_); first | (with_reducible refine (Stp.ldo rfl agg5 rfl H (by assumption) (by assumption) ?_); simp only [pS]) | (with_reducible refine (Stp.ldc rfl agg5 rfl H mR cE ?_); simp only [pS])))
            go_roundw
            case rel =>
              refine ⟨k + 1, n + y % 128 * 2 ^ (7 * k), by omega, by omega, by rw [HO.out], by go_num, Lib.hid HSM.out.1, Lib.hid ?_, H⟩
              have hh := HG.out
              rw [HF.out, gs_more hlt H9.out (by rw [← HY.out]; exact hc), ← HY.out] at hh
              rw [show 10 - (k + 1) = 9 - k by omega]
              exact hh
            case measure => simp [intOf]; omega
    · obtain rfl : k = l.length := by omega
      have hh := HG.out
      rw [gs_end (Nat.le_refl _)] at hh
      cases hh
      go_wp2_with (first | (with_reducible refine wpl rfl (ldQ (ty := 5) rfl ?_); first | (with_reducible refine (Stp.ldo rfl agg5 rfl H (by assumption) (by assumption) ?_); simp only [pS]) | (with_reducible refine (Stp.ldc rfl agg5 rfl H mR cE ?_); simp only [pS])))
      go_ret3
      exact ⟨_, rfl, rfl, H.below⟩
theorem getDB_at (pre : List Nat) (x : Nat) (t : List Nat) : (pre ++ x :: t).getD pre.length 0 = x := by simp [List.getD]
theorem gs_short (behind : List Nat) : ∀ (f i m acc : Nat) (pre : List Nat), pre.length = i → i + f = 9 → m < 2 ^ (64 - 7 * i) → (0 < i → m ≠ 0) →
    gs (pre ++ (shortF f m ++ behind)) (f + 1) i acc = (acc + m * 2 ^ (7 * i), i + (shortF f m).length, 0) := by
  have small : ∀ (f i m acc : Nat) (pre : List Nat), pre.length = i → i + f = 9 → m < 2 ^ (64 - 7 * i) → (0 < i → m ≠ 0) → m < 128 →
      gs (pre ++ (shortF f m ++ behind)) (f + 1) i acc = (acc + m * 2 ^ (7 * i), i + (shortF f m).length, 0) := by
    intro f i m acc pre hp hi hm hz h
    subst hp
    have e1 : shortF f m = [m] := by rw [shortF_small _ _ h, Nat.mod_eq_of_lt (by omega)]
    rw [e1]
    have e2 : (pre ++ ([m] ++ behind)).getD pre.length 0 = m := getDB_at pre m behind
    have hl : pre.length < (pre ++ ([m] ++ behind)).length := by simp
    rw [gs_last hl (by
      rw [e2]; rintro ⟨h9, h1⟩
      rw [h9] at hm
      have : (2 : Nat) ^ (64 - 7 * 9) = 2 := by decide
      omega) (by rw [e2]; exact h) (by rw [e2]; rintro ⟨h0, h1⟩; exact hz h1 h0), e2, Nat.mod_eq_of_lt h]
    rfl
  intro f
  induction f with
  | zero =>
    intro i m acc pre hp hi hm hz
    refine small 0 i m acc pre hp hi hm hz ?_
    obtain rfl : i = 9 := by omega
    have : (2 : Nat) ^ (64 - 7 * 9) = 2 := by decide
    omega
  | succ f ih =>
    intro i m acc pre hp hi hm hz
    by_cases h : m < 128
    · exact small (f + 1) i m acc pre hp hi hm hz h
    · subst hp
      rw [shortF_big f m h]
      have e2 : (pre ++ ((m % 128 + 128) :: shortF f (m / 128) ++ behind)).getD pre.length 0 = m % 128 + 128 := getDB_at pre _ _
      have hl : pre.length < (pre ++ ((m % 128 + 128) :: shortF f (m / 128) ++ behind)).length := by simp
      rw [gs_more hl (by omega) (by rw [e2]; omega), e2]
      have h3 : (2 : Nat) ^ (64 - 7 * pre.length) = 128 * 2 ^ (64 - 7 * (pre.length + 1)) := by
        rw [show 64 - 7 * pre.length = 7 + (64 - 7 * (pre.length + 1)) by omega, Nat.pow_add]
      have := ih (pre.length + 1) (m / 128) (acc + (m % 128 + 128) % 128 * 2 ^ (7 * pre.length)) (pre ++ [m % 128 + 128]) (by simp) (by omega) (by
        rw [h3] at hm; exact Nat.div_lt_of_lt_mul hm) (fun _ => by omega)
      rw [List.append_assoc] at this
      refine (show _ = _ from this).trans ?_
      have e4 : (2 : Nat) ^ (7 * (pre.length + 1)) = 128 * 2 ^ (7 * pre.length) := by rw [show 7 * (pre.length + 1) = 7 + 7 * pre.length by omega, Nat.pow_add]
      have e5 : (m % 128 + 128) % 128 = m % 128 := by omega
      rw [e4, e5]
      refine Prod.ext ?_ (Prod.ext ?_ rfl)
      · show acc + m % 128 * 2 ^ (7 * pre.length) + m / 128 * (128 * 2 ^ (7 * pre.length)) = acc + m * 2 ^ (7 * pre.length)
        rw [← Nat.mul_assoc, Nat.add_assoc, ← Nat.add_mul]
        congr 2
        omega
      · simp; omega
theorem gs_back (n : Nat) (hn : n < 18446744073709551616) (behind : List Nat) : gs (shortB n ++ behind) 10 0 0 = (n, (shortB n).length, 0) := by
  have := gs_short behind 9 0 n 0 [] rfl rfl (by simpa using hn) (fun h => absurd h (by omega))
  simpa [shortB] using this
end Go.Proofs.Ytmokecicjmjkbaa
namespace Go.Proofs.Ytmokecicjmjkbaa
open Go.ChangeShapes Go.WideShapes Go.ChangeAt Go.RowKit
set_option linter.unusedVariables false
set_option linter.unusedSimpArgs false
theorem cut_get (l : List Value) (off n j : Nat) (hj : j < n) : l.toArray[off + j]? = ((l.drop off).take n).toArray[j]? := by
  simp [List.getElem?_take, hj]
section
variable {P : Program} {ops : Array Oper} {a : Act} {w : World} {o : Oper} {N : Act → World → Prop}
/-- Some cells of a row that is written out, loaded as a struct. -/
theorem Stp.ldl {tg : TypeId} {B : Nat} {w0 : World} {L : List Res} {ty : TypeId} {x : Operand} {g off n : Nat} {l : List Value} (ho : o.op = .load ty x) (hagg : ∀ W : World, (isAgg ty).run P W = .ok true W) (hs : ∀ W : World, (sizeOf ty).run P W = .ok n W) (hx : a.eval x = .pointer (some ⟨g, off, none⟩)) (H : St B w0 w L)
    (hm : row tg g l.toArray ∈ L) (hn : ((l.drop off).take n).toArray.size = n) (h : N (a.put o.dst (.agg ((l.drop off).take n).toArray)) w) : Stp P o a w N :=
  Stp.ldx ho hagg hs hx H hm (cut_get l off n) hn h
theorem Yld.ldl {tg : TypeId} {B : Nat} {w0 : World} {L : List Res} {ty : TypeId} {x : Operand} {g off n : Nat} {l : List Value} (hw : Region.wanted o (yielded ops a.tmps) = true) (ho : o.op = .load ty x) (hagg : ∀ W : World, (isAgg ty).run P W = .ok true W) (hs : ∀ W : World, (sizeOf ty).run P W = .ok n W) (hx : a.eval x = .pointer (some ⟨g, off, none⟩))
    (hm : row tg g l.toArray ∈ L) (hn : ((l.drop off).take n).toArray.size = n) : YieldsIf P ops (fun W => St B w0 W L) o (.agg ((l.drop off).take n).toArray) a :=
  .inl ⟨hw, fun W H => by
    have hc' : ∀ j, j < ((l.drop off).take n).toArray.size → W.cell? ⟨g, off + j, none⟩ = ((l.drop off).take n).toArray[j]? := fun j hj => (cell_of_rowAt (H.getRow hm) (off + j)).trans (cut_get l off n j (by rw [hn] at hj; exact hj))
    have hs' : ∀ W : World, (sizeOf ty).run P W = .ok ((l.drop off).take n).toArray.size W := by rw [hn]; exact hs
    unfold execOp; simp only [ho, hx, Instr.loadAt, Instr.sureAddr]
    simp [run_load_range hc' hagg hs']⟩
/-- Some cells of a row that is written out, stored anew. -/
theorem Stp.stl {tg : TypeId} {B : Nat} {w0 : World} {L L' : List Res} {ty : TypeId} {x y : Operand} {g off n : Nat} {l m : List Value} (ho : o.op = .store ty x y) (hs : ∀ W : World, (sizeOf ty).run P W = .ok n W) (hx : a.eval x = .pointer (some ⟨g, off, none⟩)) (hy : a.eval y = .agg m.toArray) (h1 : m.all (·.oneCell') = true) (hm : m.length = n) (H : St B w0 w L)
    (hu : Upd L (row tg g l.toArray) (row tg g (l.take off ++ m ++ l.drop (off + n)).toArray) L') (hin : off + n ≤ l.length) (h : ∀ w', St B w0 w' L' → N (a.put o.dst undef) w') : Stp P o a w N := by
  have ht := H.getHeap hu.mem
  have hst : (storeCells ⟨g, off, none⟩ m).run P w = .ok () (w.setRow g (l.take off ++ m ++ l.drop (off + n)).toArray) := by
    have := run_storeCells_at (P := P) g off tg m 0 l.toArray w ht (by simp; omega) (fun v hv => (List.all_eq_true.1 h1) v hv)
    simpa [hm] using this
  refine ⟨w.setRow g (l.take off ++ m ++ l.drop (off + n)).toArray, .inr ⟨?_, h _ ?_⟩⟩
  · unfold execOp; simp only [ho, hx, hy, Instr.storeAt, Instr.sureAddr]
    simp [storeVar, hs, Value.cells, hm, hst]
  · exact H.upd hu (grownBy_setRow w g _) (row_sound (setRow_heap w g _ _ tg _ ht)) (fun k hk => .inl hk)
/-- x[k:] of a slice with elements of one cell. -/
theorem run_from {ty e : TypeId} {A : Option Addr} {n c k : Nat} {kd : IntKind} (ht : P.underlying ty = some (.slice e)) (hs : ∀ W : World, (sizeOf e).run P W = .ok 1 W) (hk : k ≤ n) (W : World) :
    (Instr.slice ty (.slice A n c) (some (.int kd (k : Int))) none none).run P W = .ok (.slice (if c = k then A else A.map (·.add k)) (n - k) (c - k)) W := by
  simp [Instr.slice, Instr.sliceBounds, Instr.sliceBound, asIntOf, run_underlying ht, hs, hk]
theorem Stp.slfrom {ty e : TypeId} {x y : Operand} {A : Option Addr} {n c k : Nat} {kd : IntKind} {z : Int} (d : Tmp) (hd : o.dst = some d) (ho : o.op = .slice ty x (some y) none none) (ht : P.underlying ty = some (.slice e)) (hs : ∀ W : World, (sizeOf e).run P W = .ok 1 W)
    (hx : a.eval x = .slice A n c) (hy : a.eval y = .int kd z) (hz : z = (k : Int)) (hk : k ≤ n) (h : ∀ A', A' = (if c = k then A else A.map (·.add k)) → N (a.put (some d) (.slice A' (n - k) (c - k))) w) : Stp P o a w N := by
  rw [← hd] at h
  subst hz
  refine ⟨w, .inl ⟨_, ?_, h _ rfl⟩⟩
  unfold execOp; simp only [ho]
  simp [hx, hy, Instr.sliceAt, run_underlying ht, run_from ht hs hk]
theorem Yld.slfrom {S : World → Prop} {ty e : TypeId} {x y : Operand} {A A' : Option Addr} {n c k : Nat} {kd : IntKind} {z : Int} (hw : Region.wanted o (yielded ops a.tmps) = true) (ho : o.op = .slice ty x (some y) none none) (ht : P.underlying ty = some (.slice e)) (hs : ∀ W : World, (sizeOf e).run P W = .ok 1 W)
    (hx : a.eval x = .slice A n c) (hy : a.eval y = .int kd z) (hz : z = (k : Int)) (hk : k ≤ n) (hA : A' = (if c = k then A else A.map (·.add k))) : YieldsIf P ops S o (.slice A' (n - k) (c - k)) a := by
  subst hz hA
  refine .inl ⟨hw, fun W _ => ?_⟩
  unfold execOp; simp only [ho]
  simp [hx, hy, Instr.sliceAt, run_underlying ht, run_from ht hs hk]
theorem post_row2 {fn : Func} {R : Ending → World → Prop} {p x : Tmp} {ty : TypeId} {B : Nat} {w0 : World} {L : List Res} {tg : TypeId} {g : Nat} {cs : Array Value} {n : Nat} (hr : fn.results = #[.cell p ty, .tmp x])
    (hagg : ∀ W : World, (isAgg ty).run P W = .ok true W) (hs : ∀ W : World, (sizeOf ty).run P W = .ok n W) (hp : a.tmps.getD p undef = .pointer (some ⟨g, 0, none⟩)) (H : St B w0 w L) (hm : row tg g cs ∈ L) (hn : cs.size = n)
    (hd : a.defers = []) (hR : R (.returned (.tuple #[.agg cs, a.tmps.getD x undef])) w) : bodyPost P fn R .ret a w := by
  refine bodyPost_ret ?_ hd hR
  have hp' : a.tmps[p]?.getD undef = .pointer (some ⟨g, 0, none⟩) := by simpa using hp
  simp [results, hr, hp', asAddr, run_load_row (H.getRow hm) hagg (by rw [hn]; exact hs)]
theorem post_row3 {fn : Func} {R : Ending → World → Prop} {p x y : Tmp} {ty : TypeId} {B : Nat} {w0 : World} {L : List Res} {tg : TypeId} {g : Nat} {cs : Array Value} {n : Nat} (hr : fn.results = #[.cell p ty, .tmp x, .tmp y])
    (hagg : ∀ W : World, (isAgg ty).run P W = .ok true W) (hs : ∀ W : World, (sizeOf ty).run P W = .ok n W) (hp : a.tmps.getD p undef = .pointer (some ⟨g, 0, none⟩)) (H : St B w0 w L) (hm : row tg g cs ∈ L) (hn : cs.size = n)
    (hd : a.defers = []) (hR : R (.returned (.tuple #[.agg cs, a.tmps.getD x undef, a.tmps.getD y undef])) w) : bodyPost P fn R .ret a w := by
  refine bodyPost_ret ?_ hd hR
  have hp' : a.tmps[p]?.getD undef = .pointer (some ⟨g, 0, none⟩) := by simpa using hp
  simp [results, hr, hp', asAddr, run_load_row (H.getRow hm) hagg (by rw [hn]; exact hs)]
end
end Go.Proofs.Ytmokecicjmjkbaa
namespace Go.Proofs.Ytmokecicjmjkbaa
open Go.ChangeShapes Go.WideShapes Go.ChangeAt Go.RowKit
section
variable {P : Program} {a : Act} {w : World} {o : Oper} {N : Act → World → Prop}
theorem Stp.bsl0 {B : Nat} {w0 : World} {L : List Res} {ty e : TypeId} {parts : Array (Nat × Operand)} (d : Tmp) (hd : o.dst = some d) (ho : o.op = .buildSlice ty 0 parts)
    (hv : ∀ W : World, (Instr.buildSlice ty 0 (parts.map fun (i, x) => (i, a.eval x))).run P W = .ok (.slice (some ⟨W.heap.size, 0, none⟩) 0 0) (W.alloc (.cells #[] e))) (H : St B w0 w L)
    (h : ∀ ap cp w', St B w0 w' (slc e 1 (.slice ap 0 cp) 0 [] :: L) → N (a.put (some d) (.slice ap 0 cp)) w') : Stp P o a w N := by
  rw [← hd] at h
  refine ⟨w.alloc (.cells #[] e), .inl ⟨_, ?_, h (some ⟨w.heap.size, 0, none⟩) 0 _ ?_⟩⟩
  · unfold execOp; simp only [ho]
    simp [hv]
  · exact H.new ((Below.refl _ _).alloc (Nat.le_refl _) _) (slc_sound (b := 0) ⟨by simp, .inr ⟨w.heap.size, 0, #[], rfl, Nat.zero_le _, heap_alloc_new w _, Nat.le_refl _, Nat.zero_le _, by simp, by simp⟩⟩) (fun g hg => by cases hg; exact Nat.le_refl _)
theorem run_append_none {t ty e : TypeId} {i : TypeInfo} (ht : P.underlying t = some (.slice e)) (hi : P.info? e = some i) (va : Option Addr) (n vc c : Nat) (hnc : n ≤ vc) :
    (Builtin.append_ #[t, t] ty #[.slice va n vc, .slice none 0 c]).run P w = .ok (.slice va n vc) w := by
  cases va <;> simp [Builtin.append_, run_underlying ht, sizeOf, typeInfo, hi, Builtin.lenOf, Builtin.firstCells, storeCells, hnc]
theorem Stp.apps {B : Nat} {w0 : World} {L : List Res} {L' : Value → List Res} {ty e : TypeId} {z : Value} {size bytes : Nat} {s x : Operand} {va A : Option Addr} {vc : Nat} {n : Nat} {xs : List Value} {m c : Nat} {news : List Value} (d : Tmp) (hd : o.dst = some d)
    (ho : o.op = .call { callee := .builtin .append, args := #[s, x], argTypes := #[ty, ty] }) (ht : P.underlying ty = some (.slice e)) (hi : (P.info? e).map (fun i => (i.zero, i.size, i.bytes)) = some (some z, size, bytes)) (hzs : z.cells.size = size) (hsz : 0 < size)
    (hs : a.eval s = .slice va n vc) (hx : a.eval x = .slice A m c) (H : St B w0 w L) (hu : ∀ v', Upd L (slc e size (.slice va n vc) n xs) (slc e size v' (n + m) (xs ++ news)) (L' v')) (hl : news.length = m * size) (hnews : 0 < m → ∃ ad, A = some ad ∧ ∀ j u, news[j]? = some u → w.cell? (ad.add j) = some u) (h1 : ∀ u ∈ news, u.oneCell' = true)
    (h63 : n + m ≤ maxLen) (hbytes : (n + m) * bytes ≤ 140737488355328)
    (h : ∀ ap cp w', St B w0 w' (L' (.slice ap (n + m) cp)) → N (a.put (some d) (.slice ap (n + m) cp)) w') : Stp P o a w N := by
  cases A with
  | some ad =>
    refine Stp.app d hd ho ht hi hzs hsz hs hx H hu hl (fun j u hj => ?_) h1 h63 hbytes h
    rcases Nat.eq_zero_or_pos m with h0 | h0
    · have : news = [] := List.eq_nil_of_length_eq_zero (by rw [hl, h0, Nat.zero_mul])
      rw [this] at hj; simp at hj
    · obtain ⟨ad', e1, e2⟩ := hnews h0
      cases e1
      exact e2 j u hj
  | none =>
    have h0 : m = 0 := by
      rcases Nat.eq_zero_or_pos m with h0 | h0
      · exact h0
      · obtain ⟨_, e1, _⟩ := hnews h0; cases e1
    subst h0
    have : news = [] := List.eq_nil_of_length_eq_zero (by simpa using hl)
    subst this
    rw [← hd] at h
    obtain ⟨i, hi1, hi2, hi3, hi4⟩ := info_parts hi
    have hown := H.getSlc (hu (.slice va n vc)).mem
    have hnc : n ≤ vc := by
      rcases hown.2 with ⟨e1, e2⟩ | ⟨g, cap, cur, e1, hbg, hgc, hnc, hcm, hcs, htake⟩
      · omega
      · cases e1; exact hnc
    have hr := run_append_none (P := P) (w := w) (ty := o.type) ht hi1 va n vc c hnc
    refine ⟨w, .inl ⟨_, ?_, h va vc w ?_⟩⟩
    · unfold execOp
      simp only [ho, resolve, invoke, builtin, Sem.run_bind, Sem.run_pure, Result.andThen_ok, List.map_toArray, List.map_cons, List.map_nil, hs, hx, hr]
      rfl
    · refine H.upd (hu _) ⟨rfl, rfl, rfl, Nat.le_refl _, fun _ _ _ => rfl⟩ (slc_sound (b := B) ?_) (fun g hg => .inl hg)
      simpa using hown
end
end Go.Proofs.Ytmokecicjmjkbaa
