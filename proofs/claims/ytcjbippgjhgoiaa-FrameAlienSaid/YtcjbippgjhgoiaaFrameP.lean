/- Layer 6 (frame) in plain numbers: what has a form is read of it; what is cut or turned isn't. No condition but widths. -/
import Derived.Test.YtcjbippgjhgoiaaFrame13
import Derived.Test.YtcjbippgjhgoiaaCrc7
namespace Go.Proofs.Ytcjbippgjhgoiaa
open Go.ChangeShapes Go.WideShapes Go.ChangeAt Go.RowKit Go.Deep
set_option linter.unusedVariables false
set_option linter.unusedSimpArgs false
theorem getP_back (i c : Nat) (hi : i < 65536) (hc : c < 4294967296) (t : List Nat) : getP (pidB i c ++ t) = (i, c, (pidB i c).length, 0) := by
  have h1 := gs_back i (by omega) (shortB c ++ t)
  have h2 := gs_back c (by omega) t
  have e : pidB i c ++ t = shortB i ++ (shortB c ++ t) := by rw [pidB, List.append_assoc]
  unfold getP
  rw [e, h1]
  simp only [List.drop_left]
  rw [h2, if_neg (by simp), if_neg (by simp), if_neg (by omega)]
  rw [pidB, List.length_append]
theorem decL_zero {l : List Nat} {k fi fc ti tc s : Nat} {b : List Nat} (h : decL l = (0, k, fi, fc, ti, tc, s, b)) : 12 ≤ l.length ∧ numB ((l.drop 4).take 4) = l.length ∧ numB (l.drop (l.length - 4)) = sumC (l.take (l.length - 4)) := by
  unfold decL at h
  split at h
  · unfold bad at h; cases h
  · split at h
    · unfold bad at h; cases h
    · split at h
      · unfold bad at h; cases h
      · split at h
        · unfold bad at h; cases h
        · rename_i h1 h2 h3 h4
          exact ⟨by omega, Decidable.not_not.1 h3, Decidable.not_not.1 h4⟩
theorem formL_len (k fi fc ti tc s : Nat) (b : List Nat) : (formL k fi fc ti tc s b).length = 12 + (restL fi fc ti tc s).length + b.length := by
  rw [formL, sealL_len, innL_len]; omega
theorem formL_byte {k : Nat} (hk : k < 256) (fi fc ti tc s : Nat) {b : List Nat} (hb : ∀ x ∈ b, x < 256) : ∀ x ∈ formL k fi fc ti tc s b, x < 256 := sealL_byte (innL_byte hk fi fc ti tc s hb)
theorem formL_head (k fi fc ti tc s : Nat) (b : List Nat) : ∃ t, formL k fi fc ti tc s b = 86 :: 83 :: 1 :: k :: (putB (12 + (restL fi fc ti tc s).length + b.length) 4 4 ++ t) := by
  refine ⟨restL fi fc ti tc s ++ b ++ putB (sumC (innL k fi fc ti tc s b)) 4 4, ?_⟩
  unfold formL sealL
  generalize sumC (innL k fi fc ti tc s b) = q
  unfold innL
  simp [List.append_assoc]
theorem formL_size (k fi fc ti tc s : Nat) (b : List Nat) (hb : b.length ≤ 1000000) : numB (((formL k fi fc ti tc s b).drop 4).take 4) = (formL k fi fc ti tc s b).length := by
  obtain ⟨t, ht⟩ := formL_head k fi fc ti tc s b
  rw [formL_len, ht]
  simp only [List.drop_succ_cons, List.drop_zero]
  have hp := putB_len (12 + (restL fi fc ti tc s).length + b.length) 4 4
  rw [List.take_append_of_le_length (by omega), List.take_of_length_le (by omega)]
  have := restL_len fi fc ti tc s
  exact num_putB4 (by omega)
theorem decL_back (k fi fc ti tc s : Nat) (hfi : fi < 65536) (hfc : fc < 4294967296) (hti : ti < 65536) (htc : tc < 4294967296) (hs0 : s < 18446744073709551616) (b : List Nat) (hb : ∀ x ∈ b, x < 256) (he : chk (k : Int) fi fc ti tc b.length = 0) :
    decL (formL k fi fc ti tc s b) = (0, k, fi, fc, ti, tc, s, b) := by
  obtain ⟨z1, z2, _, _, z5⟩ := chk_zero he
  have hk : k < 256 := by omega
  obtain ⟨t, ht⟩ := formL_head k fi fc ti tc s b
  have hlen := formL_len k fi fc ti tc s b
  have hsz := formL_size k fi fc ti tc s b (by omega)
  have hx := innL_byte hk fi fc ti tc s hb
  have il := innL_len k fi fc ti tc s b
  unfold decL
  rw [if_neg (by omega), if_neg (by rw [ht]; simp), if_neg (by rw [hsz]; simp)]
  have en : (formL k fi fc ti tc s b).length - 4 = (innL k fi fc ti tc s b).length := by omega
  rw [en]
  have hd : (formL k fi fc ti tc s b).drop (innL k fi fc ti tc s b).length = putB (sumC (innL k fi fc ti tc s b)) 4 4 := drop_seal _
  have htk : (formL k fi fc ti tc s b).take (innL k fi fc ti tc s b).length = innL k fi fc ti tc s b := take_seal _
  rw [hd, htk, if_neg (by rw [num_putB4 (sumC_lt hx)]; simp)]
  have hk3 : (formL k fi fc ti tc s b).getD 3 0 = k := by rw [ht]; rfl
  rw [hk3]
  have hy : (innL k fi fc ti tc s b).drop 8 = pidB fi fc ++ (pidB ti tc ++ (shortB s ++ b)) := by
    unfold innL
    have h8 : ([86, 83, 1, k] ++ putB (12 + (restL fi fc ti tc s).length + b.length) 4 4).length = 8 := by simp [putB_len]
    rw [← h8, List.drop_left]
    simp [restL, List.append_assoc]
  rw [hy]
  unfold decR
  rw [getP_back fi fc hfi hfc]
  simp only [List.drop_left]
  rw [getP_back ti tc hti htc]
  simp only [List.drop_left]
  rw [gs_back s hs0 b]
  simp only [List.drop_left]
  rw [if_neg (by simp), if_neg (by simp), if_neg (by simp), if_neg (by rw [he]; simp)]
theorem cut_bad (k fi fc ti tc s : Nat) (b : List Nat) (hb : b.length ≤ 1000000) (j : Nat) (hj : j < (formL k fi fc ti tc s b).length) {e k' fi' fc' ti' tc' s' : Nat} {b' : List Nat} (h : decL ((formL k fi fc ti tc s b).take j) = (e, k', fi', fc', ti', tc', s', b')) : e ≠ 0 := by
  rintro rfl
  obtain ⟨h1, h2, _⟩ := decL_zero h
  have hl : ((formL k fi fc ti tc s b).take j).length = j := by rw [List.length_take]; omega
  rw [hl] at h1 h2
  have e1 : (((formL k fi fc ti tc s b).take j).drop 4).take 4 = ((formL k fi fc ti tc s b).drop 4).take 4 := by
    rw [List.drop_take, List.take_take]
    rw [show min 4 (j - 4) = 4 by omega]
  rw [e1, formL_size _ _ _ _ _ _ _ hb] at h2
  omega
theorem turn_bad (k fi fc ti tc s : Nat) (b : List Nat) (hk : k < 256) (hb : ∀ x ∈ b, x < 256) (j y : Nat) (hj : j < (formL k fi fc ti tc s b).length) (hy : y < 256) (hne : y ≠ (formL k fi fc ti tc s b).getD j 0) {e k' fi' fc' ti' tc' s' : Nat} {b' : List Nat} (h : decL ((formL k fi fc ti tc s b).set j y) = (e, k', fi', fc', ti', tc', s', b')) : e ≠ 0 := by
  rintro rfl
  obtain ⟨h1, _, h3⟩ := decL_zero h
  have hx := innL_byte hk fi fc ti tc s hb
  have hl : (formL k fi fc ti tc s b).length = (innL k fi fc ti tc s b).length + 4 := sealL_len _
  rw [List.length_set, hl, Nat.add_sub_cancel] at h3
  exact seal_turned hx j y (by omega) hy hne h3
end Go.Proofs.Ytcjbippgjhgoiaa
