/- The contracts of layer 6's Decode and of its reference (frame), joined; the bounds stand in each. -/
import Derived.Test.YtcjbippgjhgoiaaFrame8
namespace Go.Proofs.Ytcjbippgjhgoiaa
open Go.ChangeShapes Go.WideShapes Go.ChangeAt Go.RowKit
set_option linter.unusedVariables false
set_option linter.unusedSimpArgs false
attribute [local irreducible] sumC numB gs getP
set_option maxRecDepth 100000 in
set_option maxHeartbeats 1000000 in
theorem decode_ok (A : Option Addr) (L c : Nat) (l : List Nat) (hL : l.length = L) (hcap : L ≤ c) (hl : L ≤ 6000) (hx : ∀ x ∈ l, x < 256) (e k fi fc ti tc s : Nat) (b : List Nat) (hd : decL l = (e, k, fi, fc, ti, tc, s, b)) (w : World) (hs : Sl w 1 l.length (.slice A L c) (elB l)) :
    Calls Try.prog 22 #[.slice A L c] w (Ret fun v w' => (∃ ap cp, v = .tuple #[.agg #[.int .i64 (k : Int), .int .u16 (fi : Int), .int .u32 (fc : Int), .int .u16 (ti : Int), .int .u32 (tc : Int), .int .u64 (s : Int), .slice ap b.length cp], .int .i64 (e : Int)] ∧ w'.ownsRow w.heap.size 5 1 (.slice ap b.length cp) b.length (bv b)) ∧ Below w.heap.size w w') := by
  unfold decL at hd
  by_cases h12 : L < 12
  · rw [if_pos (by omega)] at hd
    cases hd
    exact dec_short A L c h12 w
  rw [if_neg (by omega)] at hd
  by_cases hne : l.getD 0 0 ≠ 86 ∨ l.getD 1 0 ≠ 83 ∨ l.getD 2 0 ≠ 1
  · rw [if_pos hne] at hd
    cases hd
    exact dec_alien A L c l hL hcap h12 hx hne w hs
  rw [if_neg hne] at hd
  have hown : l.getD 0 0 = 86 ∧ l.getD 1 0 = 83 ∧ l.getD 2 0 = 1 := by omega
  clear hne
  obtain ⟨q, hq⟩ : ∃ q, l.getD 3 0 = q := ⟨_, rfl⟩
  by_cases hsz : numB ((l.drop 4).take 4) ≠ l.length
  · rw [if_pos hsz] at hd
    cases hd
    exact dec_size A L c l hL hcap h12 hl hx hown q hq (by rw [← hL]; exact hsz) w hs
  rw [if_neg hsz] at hd
  have he2 : numB ((l.drop 4).take 4) = L := by rw [← hL]; exact Decidable.not_not.1 hsz
  clear hsz
  obtain ⟨n, hn⟩ : ∃ n, L = n + 4 := ⟨L - 4, by omega⟩
  have en : l.length - 4 = n := by omega
  rw [en] at hd
  by_cases hbad : numB (l.drop n) ≠ sumC (l.take n)
  · rw [if_pos hbad] at hd
    cases hd
    exact dec_sum A L c l hL hcap h12 hl hx hown q hq he2 n hn hbad w hs
  rw [if_neg hbad] at hd
  have hgood : numB (l.drop n) = sumC (l.take n) := Decidable.not_not.1 hbad
  clear hbad
  obtain ⟨y, hy⟩ : ∃ y, (l.take n).drop 8 = y := ⟨_, rfl⟩
  rw [hq, hy] at hd
  have hyl : y.length = n - 8 := by rw [← hy, List.length_drop, List.length_take]; omega
  obtain ⟨a1, c1, n1, e1, hp⟩ : ∃ a c n e, getP y = (a, c, n, e) := ⟨_, _, _, _, rfl⟩
  obtain ⟨a2, c2, n2, e2, hp2⟩ : ∃ a c n e, getP (y.drop n1) = (a, c, n, e) := ⟨_, _, _, _, rfl⟩
  obtain ⟨s3, m, e3, hg3⟩ : ∃ s m e, gs ((y.drop n1).drop n2) 10 0 0 = (s, m, e) := ⟨_, _, _, rfl⟩
  unfold decR at hd
  simp only [hp, hp2, hg3] at hd
  by_cases h1 : e1 ≠ 0
  · rw [if_pos h1] at hd
    cases hd
    exact dec_one A L c l hL hcap h12 hl hx hown q hq he2 n hn hgood y hy a1 c1 n1 e1 hp h1 w hs
  rw [if_neg h1] at hd
  obtain rfl : e1 = 0 := Decidable.not_not.1 h1
  by_cases h2 : e2 ≠ 0
  · rw [if_pos h2] at hd
    cases hd
    exact dec_two A L c l hL hcap h12 hl hx hown q hq he2 n hn hgood y hy a1 c1 n1 hp a2 c2 n2 e2 hp2 h2 w hs
  rw [if_neg h2] at hd
  obtain rfl : e2 = 0 := Decidable.not_not.1 h2
  by_cases h3 : e3 ≠ 0
  · rw [if_pos h3] at hd
    cases hd
    exact dec_three A L c l hL hcap h12 hl hx hown q hq he2 n hn hgood y hy a1 c1 n1 hp a2 c2 n2 hp2 s3 m e3 hg3 h3 w hs
  rw [if_neg h3] at hd
  obtain rfl : e3 = 0 := Decidable.not_not.1 h3
  obtain ⟨e4, hc⟩ : ∃ e, chk (q : Int) a1 c1 a2 c2 (((y.drop n1).drop n2).drop m).length = e := ⟨_, rfl⟩
  rw [hc] at hd
  by_cases h4 : e4 ≠ 0
  · rw [if_pos h4] at hd
    cases hd
    exact dec_chk A L c l hL hcap h12 hl hx hown q hq he2 n hn hgood y hy a1 c1 n1 hp a2 c2 n2 hp2 s3 m hg3 e4 hc h4 w hs
  rw [if_neg h4] at hd
  obtain rfl : e4 = 0 := Decidable.not_not.1 h4
  have hlen : (((y.drop n1).drop n2).drop m).length = n - 8 - n1 - n2 - m := by
    rw [List.length_drop, List.length_drop, List.length_drop, hyl]; try omega
  cases hd
  rw [hlen]
  exact dec_good A L c l hL hcap h12 hl hx hown k hq he2 n hn hgood y hy fi fc n1 hp ti tc n2 hp2 s m hg3 hc w hs

set_option maxRecDepth 100000 in
set_option maxHeartbeats 1000000 in
theorem rdecode_ok (A : Option Addr) (L c : Nat) (l : List Nat) (hL : l.length = L) (hcap : L ≤ c) (hl : L ≤ 6000) (hx : ∀ x ∈ l, x < 256) (e k fi fc ti tc s : Nat) (b : List Nat) (hd : decL l = (e, k, fi, fc, ti, tc, s, b)) (w : World) (hs : Sl w 1 l.length (.slice A L c) (elB l)) :
    Calls Try.prog 23 #[.slice A L c] w (Ret fun v w' => (∃ ap cp, v = .tuple #[.agg #[.int .i64 (k : Int), .int .u16 (fi : Int), .int .u32 (fc : Int), .int .u16 (ti : Int), .int .u32 (tc : Int), .int .u64 (s : Int), .slice ap b.length cp], .int .i64 (e : Int)] ∧ w'.ownsRow w.heap.size 5 1 (.slice ap b.length cp) b.length (bv b)) ∧ Below w.heap.size w w') := by
  unfold decL at hd
  by_cases h12 : L < 12
  · rw [if_pos (by omega)] at hd
    cases hd
    exact rdec_short A L c h12 w
  rw [if_neg (by omega)] at hd
  by_cases hne : l.getD 0 0 ≠ 86 ∨ l.getD 1 0 ≠ 83 ∨ l.getD 2 0 ≠ 1
  · rw [if_pos hne] at hd
    cases hd
    exact rdec_alien A L c l hL hcap h12 hx hne w hs
  rw [if_neg hne] at hd
  have hown : l.getD 0 0 = 86 ∧ l.getD 1 0 = 83 ∧ l.getD 2 0 = 1 := by omega
  clear hne
  obtain ⟨q, hq⟩ : ∃ q, l.getD 3 0 = q := ⟨_, rfl⟩
  by_cases hsz : numB ((l.drop 4).take 4) ≠ l.length
  · rw [if_pos hsz] at hd
    cases hd
    exact rdec_size A L c l hL hcap h12 hl hx hown q hq (by rw [← hL]; exact hsz) w hs
  rw [if_neg hsz] at hd
  have he2 : numB ((l.drop 4).take 4) = L := by rw [← hL]; exact Decidable.not_not.1 hsz
  clear hsz
  obtain ⟨n, hn⟩ : ∃ n, L = n + 4 := ⟨L - 4, by omega⟩
  have en : l.length - 4 = n := by omega
  rw [en] at hd
  by_cases hbad : numB (l.drop n) ≠ sumC (l.take n)
  · rw [if_pos hbad] at hd
    cases hd
    exact rdec_sum A L c l hL hcap h12 hl hx hown q hq he2 n hn hbad w hs
  rw [if_neg hbad] at hd
  have hgood : numB (l.drop n) = sumC (l.take n) := Decidable.not_not.1 hbad
  clear hbad
  obtain ⟨y, hy⟩ : ∃ y, (l.take n).drop 8 = y := ⟨_, rfl⟩
  rw [hq, hy] at hd
  have hyl : y.length = n - 8 := by rw [← hy, List.length_drop, List.length_take]; omega
  obtain ⟨a1, c1, n1, e1, hp⟩ : ∃ a c n e, getP y = (a, c, n, e) := ⟨_, _, _, _, rfl⟩
  obtain ⟨a2, c2, n2, e2, hp2⟩ : ∃ a c n e, getP (y.drop n1) = (a, c, n, e) := ⟨_, _, _, _, rfl⟩
  obtain ⟨s3, m, e3, hg3⟩ : ∃ s m e, gs ((y.drop n1).drop n2) 10 0 0 = (s, m, e) := ⟨_, _, _, rfl⟩
  unfold decR at hd
  simp only [hp, hp2, hg3] at hd
  by_cases h1 : e1 ≠ 0
  · rw [if_pos h1] at hd
    cases hd
    exact rdec_one A L c l hL hcap h12 hl hx hown q hq he2 n hn hgood y hy a1 c1 n1 e1 hp h1 w hs
  rw [if_neg h1] at hd
  obtain rfl : e1 = 0 := Decidable.not_not.1 h1
  by_cases h2 : e2 ≠ 0
  · rw [if_pos h2] at hd
    cases hd
    exact rdec_two A L c l hL hcap h12 hl hx hown q hq he2 n hn hgood y hy a1 c1 n1 hp a2 c2 n2 e2 hp2 h2 w hs
  rw [if_neg h2] at hd
  obtain rfl : e2 = 0 := Decidable.not_not.1 h2
  by_cases h3 : e3 ≠ 0
  · rw [if_pos h3] at hd
    cases hd
    exact rdec_three A L c l hL hcap h12 hl hx hown q hq he2 n hn hgood y hy a1 c1 n1 hp a2 c2 n2 hp2 s3 m e3 hg3 h3 w hs
  rw [if_neg h3] at hd
  obtain rfl : e3 = 0 := Decidable.not_not.1 h3
  obtain ⟨e4, hc⟩ : ∃ e, chk (q : Int) a1 c1 a2 c2 (((y.drop n1).drop n2).drop m).length = e := ⟨_, rfl⟩
  rw [hc] at hd
  by_cases h4 : e4 ≠ 0
  · rw [if_pos h4] at hd
    cases hd
    exact rdec_chk A L c l hL hcap h12 hl hx hown q hq he2 n hn hgood y hy a1 c1 n1 hp a2 c2 n2 hp2 s3 m hg3 e4 hc h4 w hs
  rw [if_neg h4] at hd
  obtain rfl : e4 = 0 := Decidable.not_not.1 h4
  have hlen : (((y.drop n1).drop n2).drop m).length = n - (8 + n1 + n2 + m) := by
    rw [List.length_drop, List.length_drop, List.length_drop, hyl]; try omega
  cases hd
  rw [hlen]
  exact rdec_good A L c l hL hcap h12 hl hx hown k hq he2 n hn hgood y hy fi fc n1 hp ti tc n2 hp2 s m hg3 hc w hs

end Go.Proofs.Ytcjbippgjhgoiaa
