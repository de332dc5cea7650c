/- The same readings at the law's own bounds; a thing's bytes by its kind. -/
import Derived.Test.YtcjbippgjhgoiaaBodyR6
import Derived.Test.YtcjbippgjhgoiaaBody6
namespace Go.Proofs.Ytcjbippgjhgoiaa
open Go.ChangeShapes Go.WideShapes Go.ChangeAt Go.RowKit Go.Deep
set_option linter.unusedVariables false
set_option linter.unusedSimpArgs false
theorem mNumL_ok {B : Nat} {w0 : World} {L M : List Res} (g : Nat) (s : Value) (l r : List Nat) (n : Nat) (hb : Byt B w0 L s l) (hl : l = shortB n ++ r) (hn : n < 18446744073709551616) (hML : L.Sublist M) (w : World) (H : St B w0 w (row 104 g #[s, .int .i64 0] :: M)) :
    Calls Try.prog 28 #[.pointer (some ⟨g, 0, none⟩), .int .u64 18446744073709551615] w (Ret fun v w' => v = .int .u64 (n : Int) ∧ ∃ s', Byt B w0 L s' r ∧ St B w0 w' (row 104 g #[s', .int .i64 0] :: M)) := mNum_ok g s l r n 18446744073709551615 hb hl hn (by omega) hML w H
theorem mBytesL_ok {B : Nat} {w0 : World} {L M : List Res} (g : Nat) (s : Value) (l r : List Nat) (d : List Nat) (hb : Byt B w0 L s l) (hl : l = shortB d.length ++ (d ++ r)) (hmo : d.length ≤ 300) (hML : L.Sublist M) (w : World) (H : St B w0 w (row 104 g #[s, .int .i64 0] :: M)) :
    Calls Try.prog 32 #[.pointer (some ⟨g, 0, none⟩), .int .i64 300] w (Ret fun v w' => ∃ s' ab cb, v = .slice ab d.length cb ∧ Byt B w0 L s' r ∧ St B w0 w' (row 104 g #[s', .int .i64 0] :: slc 5 1 (.slice ab d.length cb) d.length (bv d) :: M)) := mBytes_ok g s l r d 300 hb hl hmo (by omega) hML w H
theorem mPidsL_ok {B : Nat} {w0 : World} {L M : List Res} (g : Nat) (s : Value) (l r : List Nat) (ps : List (Nat × Nat)) (hb : Byt B w0 L s l) (hl : l = shortB ps.length ++ (pidsB ps ++ r)) (hp : okPids ps) (hmo : ps.length ≤ 60) (hML : L.Sublist M) (w : World) (H : St B w0 w (row 104 g #[s, .int .i64 0] :: M)) :
    Calls Try.prog 34 #[.pointer (some ⟨g, 0, none⟩), .int .i64 60] w (Ret fun v w' => ∃ s' ab cb, v = .slice ab ps.length cb ∧ Byt B w0 L s' r ∧ St B w0 w' (row 104 g #[s', .int .i64 0] :: slc 34 2 (.slice ab ps.length cb) ps.length (pv ps) :: M)) := mPids_ok g s l r ps 60 hb hl hp hmo (by omega) hML w H
theorem pv_get (ps : List (Nat × Nat)) : ∀ i, i < ps.length → ∀ j, j < 2 → (pv ps)[i * 2 + j]? = (elQ ps i)[j]? := by
  induction ps with
  | nil => intro i h; exact absurd h (Nat.not_lt_zero _)
  | cons p l ih =>
    intro i h j hj
    have hc : pv (p :: l) = .int .u16 (p.1 : Int) :: .int .u32 (p.2 : Int) :: pv l := by simp [pv]
    cases i with
    | zero =>
      rw [hc]
      match j, hj with
      | 0, _ => rfl
      | 1, _ => rfl
    | succ i =>
      rw [hc, show (i + 1) * 2 + j = (i * 2 + j) + 1 + 1 by omega, List.getElem?_cons_succ, List.getElem?_cons_succ, ih i (by simpa using h) j hj]
      simp [elQ]
theorem own_pv {w : World} {b : Nat} {v : Value} {ps : List (Nat × Nat)} (h : w.ownsRow b 34 2 v ps.length (pv ps)) (hl : ps.length ≤ 100000) : Sl w 2 ps.length v (elQ ps) :=
  Sl.of_ownN h (fun i hi j hj => pv_get ps i hi j hj) (by unfold maxLen; omega)
theorem rreadE_ok {B : Nat} {w0 : World} {M : List Res} (v : Value) (l : List Nat) (hl : l.length ≤ 100000) (hx : ∀ x ∈ l, x < 256) (w : World) (hs : Sl w 1 l.length v (elB l)) (H : St B w0 w M) :
    Calls Try.prog 27 #[v] w (Ret fun v' w' => ∃ g s Lb, v' = .pointer (some ⟨g, 0, none⟩) ∧ Byt B w0 Lb s l ∧ St B w0 w' (row 104 g #[s, .int .i64 0] :: Lb)) := by
  refine (rread_ok v l hl hx w hs H).mono ?_
  rintro e w1 ⟨v, rfl, g, s, ap, cp, rfl, hb, H1⟩
  exact ⟨_, rfl, g, s, _, rfl, hb, H1⟩
theorem catT_drop (xs : List Th) (k : Nat) (h : k < xs.length) (h6 : k < 60) : catT ((xs.take 60).drop k) = layB xs[k] ++ catT ((xs.take 60).drop (k + 1)) := by
  have hk : k < (xs.take 60).length := by rw [List.length_take]; omega
  unfold catT
  rw [List.drop_eq_getElem_cons hk, List.flatMap_cons, List.getElem_take]
theorem catT_end (xs : List Th) (k : Nat) (h : k = 60 ∨ k = xs.length) : catT ((xs.take 60).drop k) = [] := by
  have : (xs.take 60).drop k = [] := List.drop_eq_nil_of_le (by rw [List.length_take]; omega)
  rw [this]; rfl
theorem Byt.nil {B : Nat} {w0 : World} {L : List Res} {s : Value} (h : Byt B w0 L s []) : ∃ A c, s = .slice A 0 c := by
  obtain ⟨A, n, c, rfl, e1, _⟩ := h
  obtain rfl : n = 0 := e1.symm
  exact ⟨A, c, rfl⟩
theorem layB0 (x : Th) (h : (x.kind % ((6 : Nat) : Int)).toNat = 0) (r : List Nat) : layB x ++ r = shortB x.n ++ r := by unfold layB; rw [h]; rfl
theorem layB1 (x : Th) (h : (x.kind % ((6 : Nat) : Int)).toNat = 1) (r : List Nat) : layB x ++ r = x.t.toNat :: r := by unfold layB; rw [h]; rfl
theorem layB2 (x : Th) (h : (x.kind % ((6 : Nat) : Int)).toNat = 2) (r : List Nat) : layB x ++ r = pidB x.i x.c ++ r := by unfold layB; rw [h]; rfl
theorem layB3 (x : Th) (h : (x.kind % ((6 : Nat) : Int)).toNat = 3) (r : List Nat) : layB x ++ r = shortB x.r ++ (pidB x.i x.c ++ r) := by unfold layB; rw [h]; exact List.append_assoc _ _ _
theorem layB4 (x : Th) (h : (x.kind % ((6 : Nat) : Int)).toNat = 4) (r : List Nat) : layB x ++ r = shortB x.b.length ++ (x.b ++ r) := by unfold layB; rw [h]; exact List.append_assoc _ _ _
theorem layB5 (x : Th) (h : (x.kind % ((6 : Nat) : Int)).toNat = 5) (r : List Nat) : layB x ++ r = shortB x.ps.length ++ (pidsB x.ps ++ r) := by unfold layB; rw [h]; exact List.append_assoc _ _ _
end Go.Proofs.Ytcjbippgjhgoiaa
