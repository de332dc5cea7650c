/- How great what is read of bytes may be; no condition. What view.Get's walk wants: contracts at literals, a leaf more, a view of what was read; the bounds stand in each. The contract of layer 8's Get (view) on any bytes; the bounds stand in it. What cmd.Get's walk wants: contracts with the place in the list last; a command of what was read; the bounds stand in each. The contract of layer 9's Get (cmd) on any bytes, its parts: Check at what was read; the bounds stand in each. -/
import Derived.Test.YtmokecicjmjkbaaGy15
namespace Go.Proofs.Ytmokecicjmjkbaa
set_option linter.unusedVariables false
set_option linter.unusedSimpArgs false
theorem okPids_snoc {l : List Pr} {p : Pr} (h : okPids l) (h1 : p.1 < 65536) (h2 : p.2 < 4294967296) : okPids (l ++ [p]) := by
  intro q hq
  rcases List.mem_append.1 hq with hq | hq
  · exact h q hq
  · obtain rfl := List.mem_singleton.1 hq; exact ⟨h1, h2⟩
theorem pidsL_sm : ∀ (n : Nat) (a : List Pr × Rs), okPids a.1 → (pidsL n a).1.length ≤ a.1.length + n ∧ okPids (pidsL n a).1
  | 0, a, h => ⟨Nat.le_refl _, h⟩
  | n + 1, a, h => by
    unfold pidsL
    split
    · exact ⟨by omega, h⟩
    · have := pidsL_sm n (a.1 ++ [(pidF a.2).1], (pidF a.2).2) (okPids_snoc h pidF_lt.1 pidF_lt.2)
      simp only [List.length_append, List.length_singleton] at this
      exact ⟨by omega, this.2⟩
theorem okPids_nil : okPids [] := fun p hp => by cases hp
theorem pidsF_sm {most : Nat} {s : Rs} : (pidsF most s).1.length ≤ most ∧ okPids (pidsF most s).1 := by
  unfold pidsF
  split
  · exact ⟨Nat.zero_le _, okPids_nil⟩
  · split
    · exact ⟨Nat.zero_le _, okPids_nil⟩
    · have h1 := pidsL_sm (numF most s).1 ([], (numF most s).2) okPids_nil
      have h2 := numF_most (most := most) (s := s)
      simp only [List.length_nil] at h1
      exact ⟨by omega, h1.2⟩
theorem okPids_getD {m : List Pr} (h : okPids m) (k : Nat) : (m.getD k (0, 0)).1 < 65536 ∧ (m.getD k (0, 0)).2 < 4294967296 := by
  by_cases hk : k < m.length
  · have : m.getD k (0, 0) = m[k] := by simp [List.getD, hk]
    rw [this]; exact h _ (List.getElem_mem hk)
  · have : m.getD k (0, 0) = (0, 0) := by rw [List.getD, List.getElem?_eq_none (by omega)]; rfl
    rw [this]; exact ⟨by decide, by decide⟩
theorem plcL_sm {m : List Pr} (hm : okPids m) : ∀ (n : Nat) (a : List Pr × Rs), okPids a.1 → (plcL m n a).1.length ≤ a.1.length + n ∧ okPids (plcL m n a).1
  | 0, a, h => ⟨Nat.le_refl _, h⟩
  | n + 1, a, h => by
    unfold plcL
    split
    · exact ⟨by omega, h⟩
    · split
      · exact ⟨by show a.1.length ≤ _; omega, h⟩
      · have := plcL_sm hm n (a.1 ++ [m.getD (numF (m.length - 1) a.2).1 (0, 0)], (numF (m.length - 1) a.2).2) (okPids_snoc h (okPids_getD hm _).1 (okPids_getD hm _).2)
        simp only [List.length_append, List.length_singleton] at this
        exact ⟨by omega, this.2⟩
theorem plcF_sm {m : List Pr} (hm : okPids m) {s : Rs} : (plcF m s).1.length ≤ 24 ∧ okPids (plcF m s).1 := by
  unfold plcF
  have h1 := plcL_sm hm (numF 24 s).1 ([], (numF 24 s).2) okPids_nil
  have h2 := numF_most (most := 24) (s := s)
  simp only [List.length_nil] at h1
  exact ⟨by omega, h1.2⟩
theorem lvsL_sm {m : List Pr} (hm : okPids m) : ∀ (n : Nat) (a : List (List Pr) × Rs), (∀ l ∈ a.1, l.length ≤ 24 ∧ okPids l) → (lvsL m n a).1.length ≤ a.1.length + n ∧ ∀ l ∈ (lvsL m n a).1, l.length ≤ 24 ∧ okPids l
  | 0, a, h => ⟨Nat.le_refl _, h⟩
  | n + 1, a, h => by
    unfold lvsL
    split
    · exact ⟨by omega, h⟩
    · have := lvsL_sm hm n (a.1 ++ [(plcF m a.2).1], (plcF m a.2).2) (by
        intro l hl
        rcases List.mem_append.1 hl with hl | hl
        · exact h l hl
        · obtain rfl := List.mem_singleton.1 hl; exact plcF_sm hm)
      simp only [List.length_append, List.length_singleton] at this
      exact ⟨by omega, this.2⟩
theorem vwR_sm (s : Rs) : smV (vwR s).1 ∧ wfV (vwR s).1 ∧ (vwR s).1.mem.length ≤ 24 ∧ (vwR s).1.lvs.length ≤ 24 := by
  unfold vwR
  simp only
  obtain ⟨h1, h2⟩ := pidsF_sm (most := 24) (s := (numF 4611686018427387904 s).2)
  have h3 := numF_most (most := 4611686018427387904) (s := s)
  obtain ⟨h4, h5⟩ := lvsL_sm h2 (numF 24 (pidsF 24 (numF 4611686018427387904 s).2).2).1 ([], (numF 24 (pidsF 24 (numF 4611686018427387904 s).2).2).2) (by intro l hl; cases hl)
  have h6 := numF_most (most := 24) (s := (pidsF 24 (numF 4611686018427387904 s).2).2)
  simp only [List.length_nil] at h4
  obtain ⟨h7, h8⟩ := plcF_sm h2 (s := (lvsL (pidsF 24 (numF 4611686018427387904 s).2).1 (numF 24 (pidsF 24 (numF 4611686018427387904 s).2).2).1 ([], (numF 24 (pidsF 24 (numF 4611686018427387904 s).2).2).2)).2)
  have h9 := Nat.le_trans h4 (show 0 + _ ≤ 24 by omega)
  exact ⟨⟨Nat.le_trans h1 (by decide), Nat.le_trans h9 (by decide), fun l hl => Nat.le_trans (h5 l hl).1 (by decide), Nat.le_trans h7 (by decide)⟩,
    ⟨Nat.lt_of_le_of_lt h3 (by decide), h2, fun l hl => (h5 l hl).2, h8⟩, h1, h9⟩
theorem vw0_sm : smV vw0 ∧ wfV vw0 :=
  ⟨⟨Nat.zero_le _, Nat.zero_le _, fun l hl => absurd hl List.not_mem_nil, Nat.zero_le _⟩, ⟨by show (0 : Nat) < _; decide, okPids_nil, fun l hl => absurd hl List.not_mem_nil, okPids_nil⟩⟩
theorem vwF_sm (s : Rs) : smV (vwF s).1 ∧ wfV (vwF s).1 := by
  unfold vwF
  simp only
  split
  · exact vw0_sm
  · exact ⟨(vwR_sm s).1, (vwR_sm s).2.1⟩
theorem bytesF_data {most : Nat} {s : Rs} (h : bt s) : (bytesF most s).1.length ≤ most ∧ ∀ x ∈ (bytesF most s).1, x < 256 := by
  unfold bytesF
  split
  · exact ⟨Nat.zero_le _, fun x hx => by cases hx⟩
  · split
    · exact ⟨Nat.zero_le _, fun x hx => by cases hx⟩
    · split
      · exact ⟨Nat.zero_le _, fun x hx => by cases hx⟩
      · refine ⟨?_, fun x hx => numF_bt (most := most) h x (List.mem_of_mem_take hx)⟩
        rw [List.length_take]
        exact Nat.le_trans (Nat.min_le_left _ _) numF_most
attribute [local irreducible] numF bytesF pidF vwF
theorem cmR_sm {s : Rs} (h : bt s) : smC (cmR s).1 ∧ wfC (cmR s).1 := by
  unfold cmR
  simp only
  split
  · have h1 : bt (numF 4611686018427387904 (numF 4611686018427387904 (pidF (numF 3 s).2).2).2).2 := numF_bt (numF_bt (pidF_bt (numF_bt h)))
    obtain ⟨h2, h3⟩ := bytesF_data (most := 200) h1
    have h4 := pidF_lt (s := (numF 3 s).2)
    exact ⟨⟨Nat.le_trans h2 (by decide), vw0_sm.1⟩, ⟨h4.1, h4.2, Nat.lt_of_le_of_lt numF_most (by decide), Nat.lt_of_le_of_lt numF_most (by decide), h3, vw0_sm.2⟩⟩
  · split
    · have h5 := vwF_sm (numF 3 s).2
      exact ⟨⟨Nat.zero_le _, h5.1⟩, ⟨(show (0 : Nat) < 65536 from by decide), (show (0 : Nat) < 4294967296 from by decide), (show (0 : Nat) < 18446744073709551616 from by decide), (show (0 : Nat) < 18446744073709551616 from by decide), (fun x hx => by cases hx), h5.2⟩⟩
    · exact ⟨⟨Nat.zero_le _, vw0_sm.1⟩, ⟨(show (0 : Nat) < 65536 from by decide), (show (0 : Nat) < 4294967296 from by decide), (show (0 : Nat) < 18446744073709551616 from by decide), (show (0 : Nat) < 18446744073709551616 from by decide), (fun x hx => by cases hx), vw0_sm.2⟩⟩
end Go.Proofs.Ytmokecicjmjkbaa
namespace Go.Proofs.Ytmokecicjmjkbaa
open Go.ChangeShapes Go.WideShapes Go.ChangeAt Go.RowKit Go.Deep
set_option linter.unusedVariables false
set_option linter.unusedSimpArgs false
set_option linter.unusedSectionVars false
set_option maxRecDepth 100000
set_option maxHeartbeats 4000000
theorem mPidsG24_ok {B : Nat} {w0 : World} {L M : List Res} (g : Nat) (s : Value) (l : List Nat) (e : Nat) (hb : Byt B w0 L s l) (w : World) (H : St B w0 w (row 144 g #[s, .int .i64 (e : Int)] :: M)) (hML : L.Sublist M) :
    Calls Try.prog 125 #[.pointer (some ⟨g, 0, none⟩), .int .i64 24] w (Ret fun v w' => ∃ s' l' e' ab cb d, v = .slice ab d.length cb ∧ Hid (pidsF 24 (l, e) = (d, (l', e'))) ∧ Byt B w0 L s' l' ∧ St B w0 w' (row 144 g #[s', .int .i64 (e' : Int)] :: slc 30 2 (.slice ab d.length cb) d.length (pv d) :: M)) := mPidsG_ok g s l e 24 hb (by omega) hML w H
theorem places2_ok {B : Nat} {w0 : World} {L M : List Res} (g : Nat) (s : Value) (l : List Nat) (e : Nat) (m : List Pr) (ma : Option Addr) (mc : Nat) (hm1 : m.length ≤ 1000) (hb : Byt B w0 L s l) (w : World) (H : St B w0 w (row 144 g #[s, .int .i64 (e : Int)] :: M)) (hML : L.Sublist M) (hq : slc 30 2 (.slice ma m.length mc) m.length (pv m) ∈ M) :
    Calls Try.prog 126 #[.pointer (some ⟨g, 0, none⟩), .slice ma m.length mc] w (Ret fun v w' => ∃ s' l' e' ab cb d, v = .slice ab d.length cb ∧ Hid (plcF m (l, e) = (d, (l', e'))) ∧ Byt B w0 L s' l' ∧ St B w0 w' (row 144 g #[s', .int .i64 (e' : Int)] :: slc 30 2 (.slice ab d.length cb) d.length (pv d) :: M)) :=
  places_ok g s l e m ma mc hm1 (fun W _ q => own_pvk (q _ hq) rfl (by omega)) hb hML w H
/-- One leaf more is read. -/
theorem St.leafA {B : Nat} {w0 w : World} {L : List Res} {G : Nat → Prop} {hd : Nat → Value} {acc : List (List Pr)} {k : Nat} {a : Option Addr} {c : Nat} {l : List Pr} (H : St B w0 w (slc 30 2 (.slice a l.length c) l.length (pv l) :: lvr G hd acc k :: L)) (hk : acc.length = k) (hm : l.length ≤ 100000) :
    ∃ G', St B w0 w (lvr G' (fun i => if i = k then .slice a l.length c else hd i) (acc ++ [l]) (k + 1) :: L) := by
  refine ⟨fun g => (Value.slice a l.length c).ownBlock = some g ∨ G g, H.join.conv (fun g h => h) (fun hS => ⟨?_, hS.lt, lvr_loc _ _ _ _⟩)⟩
  intro i hi
  obtain ⟨h1, h2⟩ := hS.here
  by_cases hik : i = k
  · subst hik
    simp only [if_true]
    have e : (acc ++ [l]).getD i [] = l := by simp [List.getD, ← hk]
    rw [e]
    exact (SlG.of_pv (b := 0) h1 hm).mono (fun g h => .inl h)
  · show SlG _ w 2 _ (if i = k then _ else hd i) _
    rw [if_neg hik]
    have e : (acc ++ [l]).getD i [] = acc.getD i [] := by
      have : i < acc.length := by omega
      rw [List.getD, List.getD, List.getElem?_append_left this]
    rw [e]
    exact (h2 i (by omega)).mono (fun g h => .inr h)
/-- What was read, as a view that is no longer written. -/
theorem St.vwrOf {B : Nat} {w0 w : World} {L : List Res} {G : Nat → Prop} {hd : Nat → Value} (x : Vw) {k ml dl : Nat} {am av al : Option Addr} {cm cv cl : Nat} (H : St B w0 w (slc 30 2 (.slice am ml cm) ml (pv x.mem) :: slc 31 1 (.slice av k cv) k (hdv hd k) :: lvr G hd x.lvs k :: slc 30 2 (.slice al dl cl) dl (pv x.ldr) :: L))
    (h1 : x.mem.length = ml) (h2 : x.lvs.length = k) (h3 : x.ldr.length = dl) (b1 : ml ≤ 1000) (b2 : k ≤ 1000) (b3 : dl ≤ 1000) : ∃ G', St B w0 w (vwr G' (.slice am x.mem.length cm) (.slice av x.lvs.length cv) (.slice al x.ldr.length cl) x :: L) := by
  subst h1 h2 h3
  have H2 := H.join.join.join
  refine ⟨_, H2.conv (r' := vwr _ (.slice am x.mem.length cm) (.slice av x.lvs.length cv) (.slice al x.ldr.length cl) x) (fun g h => h) (fun hS => ⟨?_, hS.lt, fun _ _ hb h1 => VwG.loc hb h1⟩)⟩
  obtain ⟨⟨⟨a1, a2⟩, a3⟩, a4⟩ := hS.here
  refine ⟨(SlG.of_pv (b := 0) a1 (by omega)).mono (fun g h => .inl (.inl (.inl h))), ⟨hd, ?_, fun i hi => (a3 i hi).mono (fun g h => .inl (.inr h))⟩, (SlG.of_pv (b := 0) a4 (by omega)).mono (fun g h => .inr h)⟩
  exact (SlG.of_own (b := 0) (e := 31) (size := 1) (v := .slice av x.lvs.length cv) (n := x.lvs.length) (xs := hdv hd x.lvs.length) a2 (fun i hi j hj => by
    obtain rfl : j = 0 := by omega
    rw [Nat.mul_one, Nat.add_zero, hdv_get hd x.lvs.length i hi]; rfl) (by unfold maxLen; omega)).mono (fun g h => .inl (.inl (.inr h)))
end Go.Proofs.Ytmokecicjmjkbaa
namespace Go.Proofs.Ytmokecicjmjkbaa
open Go.ChangeShapes Go.WideShapes Go.ChangeAt Go.RowKit Go.Deep
set_option linter.unusedVariables false
set_option linter.unusedSimpArgs false
set_option linter.unusedSectionVars false
set_option maxRecDepth 100000
set_option maxHeartbeats 4000000
theorem vcheckL_ok {G1 : Nat → Prop} (id : Nat) (d : List Pr) (acc : List (List Pr)) (q : List Pr) (k : Nat) (am : Option Addr) (cm : Nat) (av : Option Addr) (cv : Nat) (al : Option Addr) (cl : Nat) (c : Int) (hm : smV ⟨id, d, acc, q⟩) (hw : wfV ⟨id, d, acc, q⟩) (hk : acc.length = k) (hc : vErr ⟨id, d, acc, q⟩ = c) (w : World)
    (hx : VwG G1 w (.slice am d.length cm) (.slice av acc.length cv) (.slice al q.length cl) ⟨id, d, acc, q⟩) :
    Calls Try.prog 82 #[.agg #[.int .u64 (id : Int), .slice am d.length cm, .slice av k cv, .slice al q.length cl]] w (Ret fun v w' => v = .int .i64 c ∧ Below w.heap.size w w') := by
  subst hk hc
  exact vcheck_ok ⟨id, d, acc, q⟩ am av al cm cv cl hm hw w hx
theorem lvsL_go {m : List Pr} {n : Nat} {acc : List (List Pr)} {l : List Nat} : lvsL m (n + 1) (acc, (l, 0)) = lvsL m n (acc ++ [(plcF m (l, 0)).1], (plcF m (l, 0)).2) := if_neg (fun h => h rfl)
theorem lvsL_stop {m : List Pr} {n : Nat} {a : List (List Pr) × Rs} (h : a.2.2 ≠ 0) : lvsL m n a = a := by
  cases n with
  | zero => rfl
  | succ n => exact if_pos h
theorem lvsL_zero {m : List Pr} {a : List (List Pr) × Rs} : lvsL m 0 a = a := rfl
theorem vwr0 {B : Nat} {w0 w : World} {L : List Res} (H : St B w0 w L) : St B w0 w (vwr (fun _ => False) (.slice none 0 0) (.slice none 0 0) (.slice none 0 0) vw0 :: L) :=
  St.emp (p := (vwr (fun _ => False) (.slice none 0 0) (.slice none 0 0) (.slice none 0 0) vw0).2) (fun W => VwG.nil _ W 0) H
theorem St.vwE {B : Nat} {w0 w : World} {L : List Res} {G : Nat → Prop} {va vl vd : Value} {x : Vw} (H : St B w0 w L) (hm : vwr G va vl vd x ∈ L) : VwG G w va vl vd x := H.get hm
attribute [local irreducible] vErr vOk numF pidsF plcF lvsL
theorem vget_ok {B : Nat} {w0 : World} {L M : List Res} (g : Nat) (s : Value) (l : List Nat) (e : Nat) (hb : Byt B w0 L s l) (hML : L.Sublist M) (w : World) (H : St B w0 w (row 144 g #[s, .int .i64 (e : Int)] :: M)) :
    Calls Try.prog 96 #[.pointer (some ⟨g, 0, none⟩)] w (Ret fun v w' => ∃ s' l' e' x ma mc la lc da dc G, v = .agg (vwC x ma la da mc lc dc) ∧ Hid (vwF (l, e) = (x, (l', e'))) ∧ Byt B w0 L s' l' ∧ St B w0 w' (row 144 g #[s', .int .i64 (e' : Int)] :: vwr G (.slice ma x.mem.length mc) (.slice la x.lvs.length lc) (.slice da x.ldr.length dc) x :: M)) := by
  obtain ⟨⟨id, l1, e1⟩, hz1⟩ : ∃ z, numF 4611686018427387904 (l, e) = z := ⟨_, rfl⟩
  have HZ1 := Lib.hid hz1
  clear hz1
  go_enter Try.func96, Try.ntmps96
  go_upto_region 2 with (first | (go_at_call 67; (with_reducible refine (mNumG4611686018427387904_ok g _ l e hb _ (H.pull (r := row 144 g _) pU) (by repeat (first | exact hML | apply List.Sublist.cons))).mono ?_); rintro e w1 ⟨v, rfl, hr⟩; obtain ⟨rfl, s1, hb1, H2⟩ := hr; clear H; have H := H2; clear H2; rw [HZ1.out] at hb1 H ⊢; simp only at hb1 H ⊢) | (go_at_call 125; (with_reducible refine (mPidsG24_ok g _ l1 e1 hb1 _ (H.pull (r := row 144 g _) pU) (by repeat (first | exact hML | apply List.Sublist.cons))).mono ?_); rintro e w1 ⟨v, rfl, hr⟩; obtain ⟨s2, l2, e2, am, cm, d, rfl, HZ2, hb2, H2⟩ := hr; clear H; have H := H2; clear H2) | (with_reducible refine wpl rfl (dQ 10 rfl ?_); with_reducible refine (Stp.build (v := (.agg #[.int .u64 (id : Int), .slice am d.length cm, .slice none 0 0, .slice none 0 0])) 10 rfl rfl (fun W => by kernel_rfl) ?_); simp only [pS]) | (with_reducible refine wpl rfl (dQ 2 rfl ?_); with_reducible refine (Stp.alloc 2 rfl rfl zero34 H ?_); clear H; intro g2 w1 H; simp only [pS]; simp only [nC] at H) | (with_reducible refine wpl rfl (dQ 3 rfl ?_); with_reducible refine (Stp.alloc 3 rfl rfl zero34 H ?_); clear H; intro g3 w1 H; simp only [pS]; simp only [nC] at H) | (with_reducible refine wpl rfl (stQ (ty := 34) rfl ?_); first | (with_reducible refine (Stp.str rfl size34 rfl rfl (by first | rfl | (simp [Value.oneCell']; done) | assumption) H uP sZ sZ ?_); clear H; intro w1 H; simp only [pS]) | (with_reducible refine (Stp.stl rfl size34 rfl rfl rfl rfl H uP (by simp) ?_); clear H; intro w1 H; simp only [pS]; simp only [List.drop_succ_cons, List.drop_zero, List.take_succ_cons, List.take_zero, List.nil_append, List.cons_append, Nat.reduceAdd] at H)))
  have hds := pidsF_sm (most := 24) (s := (l1, e1))
  rw [HZ2.out] at hds
  have hd24 : d.length ≤ 24 := hds.1
  have HOK : Hid (okPids d) := Lib.hid hds.2
  obtain ⟨⟨n, l3, e3⟩, hz3⟩ : ∃ z, numF 24 (l2, e2) = z := ⟨_, rfl⟩
  have hn24 : n ≤ 24 := by have := numF_most (most := 24) (s := (l2, e2)); rw [hz3] at this; exact this
  have HZ3 := Lib.hid hz3
  clear hds hz3
  go_upto_region 3 with (first | (go_at_call 67; (with_reducible refine (mNumG24_ok g _ l2 e2 hb2 _ (H.pull (r := row 144 g _) pU) (by repeat (first | exact hML | apply List.Sublist.cons))).mono ?_); rintro e w1 ⟨v, rfl, hr⟩; obtain ⟨rfl, s3, hb3, H2⟩ := hr; clear H; have H := H2; clear H2; rw [HZ3.out] at hb3 H ⊢; simp only at hb3 H ⊢))
  replace H : St B w0 _ (slc 31 1 (.slice none 0 0) 0 (hdv (fun _ => undef) 0) :: lvr (fun _ => False) (fun _ => undef) [] 0 :: _) := (St.emp (p := (lvr (fun _ => False) (fun _ => undef) [] 0).2) (fun _ i hi => absurd hi (Nat.not_lt_zero _)) H).nil 31 1
  go_wp2_with fail
  go_loopw [5] (fun i wr => ∃ (k : Nat) (s4 : Value) (l4 : List Nat) (e4 : Nat) (acc : List (List Pr)) (av : Option Addr) (cv : Nat) (G : Nat → Prop) (hd : Nat → Value), k ≤ n ∧ i = .int .u64 (k : Int) ∧ Hid (acc.length = k) ∧ Hid (lvsL d (n - k) (acc, (l4, e4)) = lvsL d n ([], (l3, e3))) ∧ Byt B w0 L s4 l4 ∧ St B w0 wr (row 144 g #[s4, .int .i64 (e4 : Int)] :: row 34 g3 #[.int .u64 (id : Int), .slice am d.length cm, .slice av k cv, .slice none 0 0] :: slc 31 1 (.slice av k cv) k (hdv hd k) :: lvr G hd acc k :: slc 30 2 (.slice am d.length cm) d.length (pv d) :: row 34 g2 #[.int .u64 0, .slice none 0 0, .slice none 0 0, .slice none 0 0] :: M)) (fun i _ => n - (intOf i).toNat)
  case atStart => exact ⟨0, s3, l3, e3, [], none, 0, _, _, Nat.zero_le _, rfl, Lib.hid rfl, Lib.hid rfl, hb3, ((((((H.pull (r := row 34 g2 _) pU).pull (r := slc 30 2 (.slice am d.length cm) d.length (pv d)) pU).pull (r := lvr _ _ [] 0) pU).pull (r := slc 31 1 _ 0 _) pU).pull (r := row 34 g3 _) pU).pull (r := row 144 g _) pU).sub sU⟩
  case round =>
    clear H hb3
    obtain ⟨k, s4, l4, e4, acc, av, cv, G, hd, hk, rfl, HA, HP, hb4, H⟩ := hrel
    by_cases hgo : k < n ∧ e4 = 0
    · obtain ⟨hlt, rfl⟩ := hgo
      have kli : (k : Int) < (n : Int) := by omega
      have hei : (((0 : Nat) : Int) == 0) = true := by simp
      have hp2 : lvsL d (n - (k + 1)) (acc ++ [(plcF d (l4, 0)).1], (plcF d (l4, 0)).2) = lvsL d n ([], (l3, e3)) := by
        rw [← HP.out, show n - k = (n - (k + 1)) + 1 by omega]
        exact lvsL_go.symm
      have HPP := Lib.hid hp2
      clear hp2
      go_wp2_with (first | (go_at_call 69; (with_reducible refine (rerr_ok _ _ _ _ (H.getHeap mE)).mono ?_); rintro e w1 ⟨v, rfl, hr⟩; obtain ⟨rfl, hb1⟩ := hr; replace H := H.grow hb1; clear hb1))
      refine rk_begin 9 10 (fun W => St B w0 W [row 34 g3 #[.int .u64 (id : Int), .slice am d.length cm, .slice av k cv, .slice none 0 0]]) rfl (by kernel_rfl) ?_
      replace H := H.drew
      have HS := H
      refine rk_free (i := 0) rfl kR kR kR kR (Yld.o rfl) (fun _ => (H.sub sU)) ?_; simp only [pS]
      first | (refine rk_take (i := 1) rfl kR kR kR kR kR kR (Yld.ldc rfl rfl agg32 rfl mR cE) (H.sub sU) ?_; simp only [pS]) | (refine rk_take (i := 1) rfl kR kR kR kR kR kR (Yld.ldo rfl rfl agg32 rfl (by assumption) (by assumption)) (H.sub sU) ?_; simp only [pS])
      refine rk_free (i := 2) rfl kR kR kR kR (Yld.move rfl rfl) (fun _ => (H.sub sU)) ?_; simp only [pS, pE]
      refine rk_free (i := 3) rfl kR kR kR kR (Yld.o rfl) (fun _ => (H.sub sU)) ?_; simp only [pS]
      first | (refine rk_take (i := 4) rfl kR kR kR kR kR kR (Yld.ldc rfl rfl agg31 rfl mR cE) (H.sub sU) ?_; simp only [pS]) | (refine rk_take (i := 4) rfl kR kR kR kR kR kR (Yld.ldo rfl rfl agg31 rfl (by assumption) (by assumption)) (H.sub sU) ?_; simp only [pS])
      refine rk_one (i := 5) (by kernel_rfl) rfl rfl (fun K hK => ?_)
      refine wp_callf rfl ent126 (places2_ok g s4 l4 0 d am cm (by omega) hb4 _ (H.pull (r := row 144 g _) pU) (by repeat (first | exact hML | apply List.Sublist.cons)) mE) rfl (fun v w1 hr => ?_)
      obtain ⟨s5, l5, e5, ab, cb, q, rfl, HQ, hb5, H2⟩ := hr
      clear H
      have H := H2
      clear H2
      clear HS
      have HS := H
      refine hK.out _ _ (fun _ => (H.sub sU)) ?_
      clear hK K
      simp only [pS]
      refine rk_one (i := 6) (by kernel_rfl) rfl rfl (fun K hK => ?_)
      refine Stp.wp (Stp.bsl (e := 31) (cs := #[.slice ab q.length cb]) 29 rfl rfl (fun W => by kernel_rfl) H ?_)
      clear H
      intro g29 w1 H
      clear HS
      have HS := H
      refine hK.out _ _ (fun _ => (H.sub sU)) ?_
      clear hK K
      simp only [pS]
      refine rk_one (i := 7) (by kernel_rfl) rfl rfl (fun K hK => ?_)
      refine Stp.wp (Stp.apps 30 rfl rfl Try.underlying32 info31 rfl (by decide) rfl rfl H (fun _ => uP) (show ([.slice ab q.length cb] : List Value).length = 1 * 1 from rfl) (fun _ => ⟨_, rfl, newL (H.gr 31)⟩) (by simp [Value.oneCell']) (by unfold maxLen; omega) (by omega) ?_)
      clear H
      intro a30 c30 w1 H
      clear HS
      have HS := H
      refine hK.out _ _ (fun _ => (H.sub sU)) ?_
      clear hK K
      simp only [pS]
      refine rk_free (i := 8) rfl kR kR kR kR (Yld.o rfl) (fun _ => (H.sub sU)) ?_; simp only [pS]
      refine rk_one (i := 9) (by kernel_rfl) rfl rfl (fun K hK => ?_)
      refine Stp.wp (Stp.stc rfl size32 rfl rfl rfl rfl H uP (by simp) ?_)
      clear H
      intro w1 H
      simp only [pE, nC, pS] at H
      clear HS
      have HS := H
      refine hK.out _ _ (fun h => by cases (show true = false from h)) ?_
      clear hK K
      simp only [pS]
      refine rk_done (by kernel_rfl) ?_
      have hq24 : q.length ≤ 24 := by have := (plcF_sm HOK.out (s := (l4, 0))).1; rw [HQ.out] at this; exact this
      have HP2 : Hid (lvsL d (n - (k + 1)) (acc ++ [q], (l5, e5)) = lvsL d n ([], (l3, e3))) := Lib.hid (by have := HPP.out; rw [HQ.out] at this; exact this)
      go_wp2_with fail
      obtain ⟨G', H2⟩ := St.leafA ((H.pull (r := lvr G hd acc k) pU).pull (r := slc 30 2 (.slice ab q.length cb) _ _) pU) HA.out (by omega)
      clear H
      have H := H2
      clear H2
      rw [hdv_snoc] at H
      go_roundw
      case rel => exact ⟨k + 1, s5, l5, e5, acc ++ [q], _, _, G', _, by omega, by go_num, Lib.hid (by rw [List.length_append, HA.out]; rfl), HP2, hb5, ((((((H.pull (r := row 34 g2 _) pU).pull (r := slc 30 2 (.slice am d.length cm) d.length (pv d)) pU).pull (r := lvr G' _ (acc ++ [q]) (k + 1)) pU).pull (r := slc 31 1 _ (k + 1) (hdv _ (k + 1))) pU).pull (r := row 34 g3 _) pU).pull (r := row 144 g _) pU).sub sU⟩
      case measure => simp [intOf]; omega
    · have HV : Hid (lvsL d n ([], (l3, e3)) = (acc, (l4, e4))) := Lib.hid (by
        rw [← HP.out]
        by_cases he4 : e4 ≠ 0
        · exact lvsL_stop he4
        · have : k = n := by
            rcases Nat.lt_or_ge k n with h | h
            · exact absurd ⟨h, by omega⟩ hgo
            · omega
          subst this
          rw [Nat.sub_self]; exact lvsL_zero)
      by_cases hlt : k < n
      · have kli : (k : Int) < (n : Int) := by omega
        have hei : ((e4 : Int) == 0) = false := by
          have : e4 ≠ 0 := fun h => hgo ⟨hlt, h⟩
          simp; omega
        clear hgo hlt
        go_upto_region 8 with (first | (go_at_call 69; (with_reducible refine (rerr_ok _ _ _ _ (H.getHeap mE)).mono ?_); rintro e w1 ⟨v, rfl, hr⟩; obtain ⟨rfl, hb1⟩ := hr; replace H := H.grow hb1; clear hb1) | (go_at_call 126; (with_reducible refine (places2_ok g s4 l4 e4 d am cm (by omega) hb4 _ (H.pull (r := row 144 g _) pU) (by repeat (first | exact hML | apply List.Sublist.cons)) mE).mono ?_); rintro e w1 ⟨v, rfl, hr⟩; obtain ⟨s5, l5, e5, ab, cb, q, rfl, HQ, hb5, H2⟩ := hr; clear H; have H := H2; clear H2) | (with_reducible refine wpl rfl (ldQ (ty := 31) rfl ?_); first | (with_reducible refine (Stp.ldo rfl agg31 rfl H (by assumption) (by assumption) ?_); simp only [pS]) | (with_reducible refine (Stp.ldc rfl agg31 rfl H mR cE ?_); simp only [pS])) | (with_reducible refine wpl rfl (stQ (ty := 31) rfl ?_); first | (with_reducible refine (Stp.stc rfl size31 rfl rfl rfl rfl H uP (by first | omega | (simp; done) | (simp; omega)) ?_); clear H; intro w1 H; simp only [pS]; simp only [pE, nC, pS] at H)))
        have hq24 : q.length ≤ 24 := by have := (plcF_sm HOK.out (s := (l4, e4))).1; rw [HQ.out] at this; exact this
        have HR : Hid (vwR (l, e) = (⟨id, d, acc, q⟩, (l5, e5))) := Lib.hid (by
          unfold vwR
          simp only
          rw [HZ1.out]
          simp only
          rw [HZ2.out]
          simp only
          rw [HZ3.out]
          simp only
          rw [HV.out]
          simp only
          rw [HQ.out])
        have HFV : Hid (vwF (l, e) = if (mayE (l5, e5) (vOk ⟨id, d, acc, q⟩)).2 ≠ 0 then (vw0, mayE (l5, e5) (vOk ⟨id, d, acc, q⟩)) else (⟨id, d, acc, q⟩, mayE (l5, e5) (vOk ⟨id, d, acc, q⟩))) := Lib.hid (by unfold vwF; simp only; rw [HR.out])
        obtain ⟨Gx, H2⟩ := St.vwrOf (⟨id, d, acc, q⟩ : Vw) ((((H.pull (r := slc 30 2 (.slice ab q.length cb) _ _) pU).pull (r := lvr G hd acc k) pU).pull (r := slc 31 1 (.slice av k cv) k (hdv hd k)) pU).pull (r := slc 30 2 (.slice am d.length cm) d.length (pv d)) pU) rfl HA.out rfl (Nat.le_trans hd24 (by decide)) (by omega) (Nat.le_trans hq24 (by decide))
        clear H
        have H := H2
        clear H2
        have hsm := vwR_sm (l, e)
        rw [HR.out] at hsm
        have HX1 := Lib.hid hsm.1
        have HX2 := Lib.hid hsm.2.1
        have HK := HA
        clear hsm hq24
        by_cases he5 : e5 ≠ 0
        · have hei5 : ((e5 : Int) == 0) = false := by simp; omega
          have hei6 : ((e5 : Int) != 0) = true := by simp; omega
          have HF : Hid (vwF (l, e) = (vw0, (l5, e5))) := Lib.hid (by
            have hm : ∀ b, mayE (l5, e5) b = (l5, e5) := fun b => by unfold mayE; rw [if_neg (fun h => he5 h.1)]
            rw [HFV.out, hm, if_pos he5])
          clear he5
          go_wp2_with (first | (go_at_call 69; (with_reducible refine (rerr_ok _ _ _ _ (H.getHeap mE)).mono ?_); rintro e w1 ⟨v, rfl, hr⟩; obtain ⟨rfl, hb1⟩ := hr; replace H := H.grow hb1; clear hb1) | (with_reducible refine wpl rfl (dQ 50 rfl ?_); with_reducible refine (Stp.build (v := (.agg #[.int .u64 0, .slice none 0 0, .slice none 0 0, .slice none 0 0])) 50 rfl rfl (fun W => by kernel_rfl) ?_); simp only [pS]) | (with_reducible refine wpl rfl (stQ (ty := 34) rfl ?_); first | (with_reducible refine (Stp.str rfl size34 rfl rfl (by first | rfl | (simp [Value.oneCell']; done) | assumption) H uP sZ sZ ?_); clear H; intro w1 H; simp only [pS]) | (with_reducible refine (Stp.stl rfl size34 rfl rfl rfl rfl H uP (by simp) ?_); clear H; intro w1 H; simp only [pS]; simp only [List.drop_succ_cons, List.drop_zero, List.take_succ_cons, List.take_zero, List.nil_append, List.cons_append, Nat.reduceAdd] at H)))
          refine post_row rfl agg34 size34 rfl H mE rfl rfl ⟨_, rfl, s5, l5, e5, vw0, none, 0, none, 0, none, 0, (fun _ => False), rfl, HF, hb5, ?_⟩
          exact ((vwr0 H).pull (r := row 144 g _) pU).sub (L' := row 144 g #[s5, .int .i64 (e5 : Int)] :: vwr (fun _ => False) (.slice none 0 0) (.slice none 0 0) (.slice none 0 0) vw0 :: M) sU
        · obtain rfl : e5 = 0 := by omega
          have hei5 : (((0 : Nat) : Int) == 0) = true := by simp
          have hei6 : (((0 : Nat) : Int) != 0) = false := by simp
          cases hv : vOk ⟨id, d, acc, q⟩
          · have HF : Hid (vwF (l, e) = (vw0, (l5, 5))) := Lib.hid (by
              rw [HFV.out, hv]
              unfold mayE
              simp)
            obtain ⟨c, hc⟩ : ∃ c, vErr ⟨id, d, acc, q⟩ = c := ⟨_, rfl⟩
            have HC := Lib.hid hc
            have hc1 : c = 1 := by rw [← hc]; unfold vErr; rw [hv]; rfl
            have hci : (c != 0) = true := by rw [hc1]; rfl
            clear hc hc1 hv he5
            go_wp2_with (first | (go_at_call 69; (with_reducible refine (rerr_ok _ _ _ _ (H.getHeap mE)).mono ?_); rintro e w1 ⟨v, rfl, hr⟩; obtain ⟨rfl, hb1⟩ := hr; replace H := H.grow hb1; clear hb1) | (go_at_call 82; (with_reducible refine (vcheckL_ok id d acc q k am cm av cv ab cb c HX1.out HX2.out HK.out HC.out _ (H.vwE (G := Gx) mE)).mono ?_); rintro e w1 ⟨v, rfl, hr⟩; obtain ⟨rfl, hb1⟩ := hr; replace H := H.grow hb1; clear hb1) | (go_at_call 68; (with_reducible refine (rstop5_ok g _ 0 rfl _ (H.pull (r := row 144 g _) pU)).mono ?_); rintro e w1 ⟨v, rfl, hr⟩; obtain ⟨rfl, H2⟩ := hr; clear H; have H := H2; clear H2) | (with_reducible refine wpl rfl (dQ 50 rfl ?_); with_reducible refine (Stp.build (v := (.agg #[.int .u64 0, .slice none 0 0, .slice none 0 0, .slice none 0 0])) 50 rfl rfl (fun W => by kernel_rfl) ?_); simp only [pS]) | (with_reducible refine wpl rfl (stQ (ty := 34) rfl ?_); first | (with_reducible refine (Stp.str rfl size34 rfl rfl (by first | rfl | (simp [Value.oneCell']; done) | assumption) H uP sZ sZ ?_); clear H; intro w1 H; simp only [pS]) | (with_reducible refine (Stp.stl rfl size34 rfl rfl rfl rfl H uP (by simp) ?_); clear H; intro w1 H; simp only [pS]; simp only [List.drop_succ_cons, List.drop_zero, List.take_succ_cons, List.take_zero, List.nil_append, List.cons_append, Nat.reduceAdd] at H)) | (with_reducible refine wpl rfl (ldQ (ty := 34) rfl ?_); first | (with_reducible refine (Stp.ldor rfl agg34 size34 rfl H (by assumption) sZ (by assumption) ?_); simp only [pS]) | (with_reducible refine (Stp.ldr rfl agg34 size34 rfl H mR sZ ?_); simp only [pS]) | (with_reducible refine (Stp.ldl rfl agg34 size34 rfl H mR (by simp) ?_); simp only [pS]; simp only [List.drop_succ_cons, List.drop_zero, List.take_succ_cons, List.take_zero])))
            refine post_row rfl agg34 size34 rfl H mE rfl rfl ⟨_, rfl, s5, l5, 5, vw0, none, 0, none, 0, none, 0, (fun _ => False), rfl, HF, hb5, ?_⟩
            exact ((vwr0 H).pull (r := row 144 g _) pU).sub (L' := row 144 g #[s5, .int .i64 ((5 : Nat) : Int)] :: vwr (fun _ => False) (.slice none 0 0) (.slice none 0 0) (.slice none 0 0) vw0 :: M) sU
          · have HF : Hid (vwF (l, e) = (⟨id, d, acc, q⟩, (l5, 0))) := Lib.hid (by
              rw [HFV.out, hv]
              unfold mayE
              simp)
            obtain ⟨c, hc⟩ : ∃ c, vErr ⟨id, d, acc, q⟩ = c := ⟨_, rfl⟩
            have HC := Lib.hid hc
            have hc1 : c = 0 := by rw [← hc]; unfold vErr; rw [hv]; rfl
            have hci : (c != 0) = false := by rw [hc1]; rfl
            clear hc hc1 hv he5
            go_wp2_with (first | (go_at_call 69; (with_reducible refine (rerr_ok _ _ _ _ (H.getHeap mE)).mono ?_); rintro e w1 ⟨v, rfl, hr⟩; obtain ⟨rfl, hb1⟩ := hr; replace H := H.grow hb1; clear hb1) | (go_at_call 82; (with_reducible refine (vcheckL_ok id d acc q k am cm av cv ab cb c HX1.out HX2.out HK.out HC.out _ (H.vwE (G := Gx) mE)).mono ?_); rintro e w1 ⟨v, rfl, hr⟩; obtain ⟨rfl, hb1⟩ := hr; replace H := H.grow hb1; clear hb1) | (with_reducible refine wpl rfl (stQ (ty := 34) rfl ?_); first | (with_reducible refine (Stp.str rfl size34 rfl rfl (by first | rfl | (simp [Value.oneCell']; done) | assumption) H uP sZ sZ ?_); clear H; intro w1 H; simp only [pS]) | (with_reducible refine (Stp.stl rfl size34 rfl rfl rfl rfl H uP (by simp) ?_); clear H; intro w1 H; simp only [pS]; simp only [List.drop_succ_cons, List.drop_zero, List.take_succ_cons, List.take_zero, List.nil_append, List.cons_append, Nat.reduceAdd] at H)) | (with_reducible refine wpl rfl (ldQ (ty := 34) rfl ?_); first | (with_reducible refine (Stp.ldor rfl agg34 size34 rfl H (by assumption) sZ (by assumption) ?_); simp only [pS]) | (with_reducible refine (Stp.ldr rfl agg34 size34 rfl H mR sZ ?_); simp only [pS]) | (with_reducible refine (Stp.ldl rfl agg34 size34 rfl H mR (by simp) ?_); simp only [pS]; simp only [List.drop_succ_cons, List.drop_zero, List.take_succ_cons, List.take_zero])))
            refine post_row rfl agg34 size34 rfl H mE rfl rfl ⟨_, rfl, s5, l5, 0, ⟨id, d, acc, q⟩, am, cm, av, cv, ab, cb, Gx, (by rw [← HA.out]), HF, hb5, ?_⟩
            exact (((H.pull (r := vwr Gx _ _ _ _) pU).pull (r := row 144 g _) pU)).sub sU
      · have kli : ¬ (k : Int) < (n : Int) := by omega
        clear hgo hlt
        go_upto_region 8 with (first | (go_at_call 126; (with_reducible refine (places2_ok g s4 l4 e4 d am cm (by omega) hb4 _ (H.pull (r := row 144 g _) pU) (by repeat (first | exact hML | apply List.Sublist.cons)) mE).mono ?_); rintro e w1 ⟨v, rfl, hr⟩; obtain ⟨s5, l5, e5, ab, cb, q, rfl, HQ, hb5, H2⟩ := hr; clear H; have H := H2; clear H2) | (with_reducible refine wpl rfl (ldQ (ty := 31) rfl ?_); first | (with_reducible refine (Stp.ldo rfl agg31 rfl H (by assumption) (by assumption) ?_); simp only [pS]) | (with_reducible refine (Stp.ldc rfl agg31 rfl H mR cE ?_); simp only [pS])) | (with_reducible refine wpl rfl (stQ (ty := 31) rfl ?_); first | (with_reducible refine (Stp.stc rfl size31 rfl rfl rfl rfl H uP (by first | omega | (simp; done) | (simp; omega)) ?_); clear H; intro w1 H; simp only [pS]; simp only [pE, nC, pS] at H)))
        have hq24 : q.length ≤ 24 := by have := (plcF_sm HOK.out (s := (l4, e4))).1; rw [HQ.out] at this; exact this
        have HR : Hid (vwR (l, e) = (⟨id, d, acc, q⟩, (l5, e5))) := Lib.hid (by
          unfold vwR
          simp only
          rw [HZ1.out]
          simp only
          rw [HZ2.out]
          simp only
          rw [HZ3.out]
          simp only
          rw [HV.out]
          simp only
          rw [HQ.out])
        have HFV : Hid (vwF (l, e) = if (mayE (l5, e5) (vOk ⟨id, d, acc, q⟩)).2 ≠ 0 then (vw0, mayE (l5, e5) (vOk ⟨id, d, acc, q⟩)) else (⟨id, d, acc, q⟩, mayE (l5, e5) (vOk ⟨id, d, acc, q⟩))) := Lib.hid (by unfold vwF; simp only; rw [HR.out])
        obtain ⟨Gx, H2⟩ := St.vwrOf (⟨id, d, acc, q⟩ : Vw) ((((H.pull (r := slc 30 2 (.slice ab q.length cb) _ _) pU).pull (r := lvr G hd acc k) pU).pull (r := slc 31 1 (.slice av k cv) k (hdv hd k)) pU).pull (r := slc 30 2 (.slice am d.length cm) d.length (pv d)) pU) rfl HA.out rfl (Nat.le_trans hd24 (by decide)) (by omega) (Nat.le_trans hq24 (by decide))
        clear H
        have H := H2
        clear H2
        have hsm := vwR_sm (l, e)
        rw [HR.out] at hsm
        have HX1 := Lib.hid hsm.1
        have HX2 := Lib.hid hsm.2.1
        have HK := HA
        clear hsm hq24
        by_cases he5 : e5 ≠ 0
        · have hei5 : ((e5 : Int) == 0) = false := by simp; omega
          have hei6 : ((e5 : Int) != 0) = true := by simp; omega
          have HF : Hid (vwF (l, e) = (vw0, (l5, e5))) := Lib.hid (by
            have hm : ∀ b, mayE (l5, e5) b = (l5, e5) := fun b => by unfold mayE; rw [if_neg (fun h => he5 h.1)]
            rw [HFV.out, hm, if_pos he5])
          clear he5
          go_wp2_with (first | (go_at_call 69; (with_reducible refine (rerr_ok _ _ _ _ (H.getHeap mE)).mono ?_); rintro e w1 ⟨v, rfl, hr⟩; obtain ⟨rfl, hb1⟩ := hr; replace H := H.grow hb1; clear hb1) | (with_reducible refine wpl rfl (dQ 50 rfl ?_); with_reducible refine (Stp.build (v := (.agg #[.int .u64 0, .slice none 0 0, .slice none 0 0, .slice none 0 0])) 50 rfl rfl (fun W => by kernel_rfl) ?_); simp only [pS]) | (with_reducible refine wpl rfl (stQ (ty := 34) rfl ?_); first | (with_reducible refine (Stp.str rfl size34 rfl rfl (by first | rfl | (simp [Value.oneCell']; done) | assumption) H uP sZ sZ ?_); clear H; intro w1 H; simp only [pS]) | (with_reducible refine (Stp.stl rfl size34 rfl rfl rfl rfl H uP (by simp) ?_); clear H; intro w1 H; simp only [pS]; simp only [List.drop_succ_cons, List.drop_zero, List.take_succ_cons, List.take_zero, List.nil_append, List.cons_append, Nat.reduceAdd] at H)))
          refine post_row rfl agg34 size34 rfl H mE rfl rfl ⟨_, rfl, s5, l5, e5, vw0, none, 0, none, 0, none, 0, (fun _ => False), rfl, HF, hb5, ?_⟩
          exact ((vwr0 H).pull (r := row 144 g _) pU).sub (L' := row 144 g #[s5, .int .i64 (e5 : Int)] :: vwr (fun _ => False) (.slice none 0 0) (.slice none 0 0) (.slice none 0 0) vw0 :: M) sU
        · obtain rfl : e5 = 0 := by omega
          have hei5 : (((0 : Nat) : Int) == 0) = true := by simp
          have hei6 : (((0 : Nat) : Int) != 0) = false := by simp
          cases hv : vOk ⟨id, d, acc, q⟩
          · have HF : Hid (vwF (l, e) = (vw0, (l5, 5))) := Lib.hid (by
              rw [HFV.out, hv]
              unfold mayE
              simp)
            obtain ⟨c, hc⟩ : ∃ c, vErr ⟨id, d, acc, q⟩ = c := ⟨_, rfl⟩
            have HC := Lib.hid hc
            have hc1 : c = 1 := by rw [← hc]; unfold vErr; rw [hv]; rfl
            have hci : (c != 0) = true := by rw [hc1]; rfl
            clear hc hc1 hv he5
            go_wp2_with (first | (go_at_call 69; (with_reducible refine (rerr_ok _ _ _ _ (H.getHeap mE)).mono ?_); rintro e w1 ⟨v, rfl, hr⟩; obtain ⟨rfl, hb1⟩ := hr; replace H := H.grow hb1; clear hb1) | (go_at_call 82; (with_reducible refine (vcheckL_ok id d acc q k am cm av cv ab cb c HX1.out HX2.out HK.out HC.out _ (H.vwE (G := Gx) mE)).mono ?_); rintro e w1 ⟨v, rfl, hr⟩; obtain ⟨rfl, hb1⟩ := hr; replace H := H.grow hb1; clear hb1) | (go_at_call 68; (with_reducible refine (rstop5_ok g _ 0 rfl _ (H.pull (r := row 144 g _) pU)).mono ?_); rintro e w1 ⟨v, rfl, hr⟩; obtain ⟨rfl, H2⟩ := hr; clear H; have H := H2; clear H2) | (with_reducible refine wpl rfl (dQ 50 rfl ?_); with_reducible refine (Stp.build (v := (.agg #[.int .u64 0, .slice none 0 0, .slice none 0 0, .slice none 0 0])) 50 rfl rfl (fun W => by kernel_rfl) ?_); simp only [pS]) | (with_reducible refine wpl rfl (stQ (ty := 34) rfl ?_); first | (with_reducible refine (Stp.str rfl size34 rfl rfl (by first | rfl | (simp [Value.oneCell']; done) | assumption) H uP sZ sZ ?_); clear H; intro w1 H; simp only [pS]) | (with_reducible refine (Stp.stl rfl size34 rfl rfl rfl rfl H uP (by simp) ?_); clear H; intro w1 H; simp only [pS]; simp only [List.drop_succ_cons, List.drop_zero, List.take_succ_cons, List.take_zero, List.nil_append, List.cons_append, Nat.reduceAdd] at H)) | (with_reducible refine wpl rfl (ldQ (ty := 34) rfl ?_); first | (with_reducible refine (Stp.ldor rfl agg34 size34 rfl H (by assumption) sZ (by assumption) ?_); simp only [pS]) | (with_reducible refine (Stp.ldr rfl agg34 size34 rfl H mR sZ ?_); simp only [pS]) | (with_reducible refine (Stp.ldl rfl agg34 size34 rfl H mR (by simp) ?_); simp only [pS]; simp only [List.drop_succ_cons, List.drop_zero, List.take_succ_cons, List.take_zero])))
            refine post_row rfl agg34 size34 rfl H mE rfl rfl ⟨_, rfl, s5, l5, 5, vw0, none, 0, none, 0, none, 0, (fun _ => False), rfl, HF, hb5, ?_⟩
            exact ((vwr0 H).pull (r := row 144 g _) pU).sub (L' := row 144 g #[s5, .int .i64 ((5 : Nat) : Int)] :: vwr (fun _ => False) (.slice none 0 0) (.slice none 0 0) (.slice none 0 0) vw0 :: M) sU
          · have HF : Hid (vwF (l, e) = (⟨id, d, acc, q⟩, (l5, 0))) := Lib.hid (by
              rw [HFV.out, hv]
              unfold mayE
              simp)
            obtain ⟨c, hc⟩ : ∃ c, vErr ⟨id, d, acc, q⟩ = c := ⟨_, rfl⟩
            have HC := Lib.hid hc
            have hc1 : c = 0 := by rw [← hc]; unfold vErr; rw [hv]; rfl
            have hci : (c != 0) = false := by rw [hc1]; rfl
            clear hc hc1 hv he5
            go_wp2_with (first | (go_at_call 69; (with_reducible refine (rerr_ok _ _ _ _ (H.getHeap mE)).mono ?_); rintro e w1 ⟨v, rfl, hr⟩; obtain ⟨rfl, hb1⟩ := hr; replace H := H.grow hb1; clear hb1) | (go_at_call 82; (with_reducible refine (vcheckL_ok id d acc q k am cm av cv ab cb c HX1.out HX2.out HK.out HC.out _ (H.vwE (G := Gx) mE)).mono ?_); rintro e w1 ⟨v, rfl, hr⟩; obtain ⟨rfl, hb1⟩ := hr; replace H := H.grow hb1; clear hb1) | (with_reducible refine wpl rfl (stQ (ty := 34) rfl ?_); first | (with_reducible refine (Stp.str rfl size34 rfl rfl (by first | rfl | (simp [Value.oneCell']; done) | assumption) H uP sZ sZ ?_); clear H; intro w1 H; simp only [pS]) | (with_reducible refine (Stp.stl rfl size34 rfl rfl rfl rfl H uP (by simp) ?_); clear H; intro w1 H; simp only [pS]; simp only [List.drop_succ_cons, List.drop_zero, List.take_succ_cons, List.take_zero, List.nil_append, List.cons_append, Nat.reduceAdd] at H)) | (with_reducible refine wpl rfl (ldQ (ty := 34) rfl ?_); first | (with_reducible refine (Stp.ldor rfl agg34 size34 rfl H (by assumption) sZ (by assumption) ?_); simp only [pS]) | (with_reducible refine (Stp.ldr rfl agg34 size34 rfl H mR sZ ?_); simp only [pS]) | (with_reducible refine (Stp.ldl rfl agg34 size34 rfl H mR (by simp) ?_); simp only [pS]; simp only [List.drop_succ_cons, List.drop_zero, List.take_succ_cons, List.take_zero])))
            refine post_row rfl agg34 size34 rfl H mE rfl rfl ⟨_, rfl, s5, l5, 0, ⟨id, d, acc, q⟩, am, cm, av, cv, ab, cb, Gx, (by rw [← HA.out]), HF, hb5, ?_⟩
            exact (((H.pull (r := vwr Gx _ _ _ _) pU).pull (r := row 144 g _) pU)).sub sU
end Go.Proofs.Ytmokecicjmjkbaa
namespace Go.Proofs.Ytmokecicjmjkbaa
open Go.ChangeShapes Go.WideShapes Go.ChangeAt Go.RowKit Go.Deep
set_option linter.unusedVariables false
set_option linter.unusedSimpArgs false
set_option linter.unusedSectionVars false
set_option maxRecDepth 100000
set_option maxHeartbeats 4000000
theorem vgetL_ok {B : Nat} {w0 : World} {L M : List Res} (g : Nat) (s : Value) (l : List Nat) (e : Nat) (hb : Byt B w0 L s l) (w : World) (H : St B w0 w (row 144 g #[s, .int .i64 (e : Int)] :: M)) (hML : L.Sublist M) :
    Calls Try.prog 96 #[.pointer (some ⟨g, 0, none⟩)] w (Ret fun v w' => ∃ s' l' e' x ma mc la lc da dc G, v = .agg (vwC x ma la da mc lc dc) ∧ Hid (vwF (l, e) = (x, (l', e'))) ∧ Byt B w0 L s' l' ∧ St B w0 w' (row 144 g #[s', .int .i64 (e' : Int)] :: vwr G (.slice ma x.mem.length mc) (.slice la x.lvs.length lc) (.slice da x.ldr.length dc) x :: M)) := vget_ok g s l e hb hML w H
theorem mPidA_ok {B : Nat} {w0 : World} {L M : List Res} (g : Nat) (s : Value) (l : List Nat) (e : Nat) (hb : Byt B w0 L s l) (w : World) (H : St B w0 w (row 144 g #[s, .int .i64 (e : Int)] :: M)) (hML : L.Sublist M) :
    Calls Try.prog 94 #[.pointer (some ⟨g, 0, none⟩)] w (Ret fun v w' => v = .agg #[.int .u16 ((pidF (l, e)).1.1 : Int), .int .u32 ((pidF (l, e)).1.2 : Int)] ∧ ∃ s', Byt B w0 L s' (pidF (l, e)).2.1 ∧ St B w0 w' (row 144 g #[s', .int .i64 ((pidF (l, e)).2.2 : Int)] :: M)) := mPidG_ok g s l e hb hML w H
theorem mBytesA_ok {B : Nat} {w0 : World} {L M : List Res} (g : Nat) (s : Value) (l : List Nat) (e : Nat) (hb : Byt B w0 L s l) (w : World) (H : St B w0 w (row 144 g #[s, .int .i64 (e : Int)] :: M)) (hML : L.Sublist M) :
    Calls Try.prog 95 #[.pointer (some ⟨g, 0, none⟩), .int .i64 200] w (Ret fun v w' => ∃ s' ab cb d e', v = .slice ab d.length cb ∧ bytesF 200 (l, e) = (d, ((bytesF 200 (l, e)).2.1, e')) ∧ Byt B w0 L s' (bytesF 200 (l, e)).2.1 ∧ St B w0 w' (row 144 g #[s', .int .i64 (e' : Int)] :: slc 5 1 (.slice ab d.length cb) d.length (bv d) :: M)) := mBytesG_ok g s l e 200 hb (by omega) hML w H
/-- What was read, as a command that is no longer written. -/
theorem St.cmrOf {B : Nat} {w0 w : World} {L : List Res} {G : Nat → Prop} (c : Cm) {n : Nat} {ba : Option Addr} {bc : Nat} {va vl vd : Value} (H : St B w0 w (slc 5 1 (.slice ba n bc) n (bv c.data) :: vwr G va vl vd c.v :: L)) (h1 : c.data.length = n) (b1 : n ≤ 1000) : ∃ G', St B w0 w (cmr G' (.slice ba c.data.length bc) va vl vd c :: L) := by
  subst h1
  refine ⟨_, H.join.conv (r' := cmr _ (.slice ba c.data.length bc) va vl vd c) (fun g h => h) (fun hS => ⟨?_, hS.lt, fun _ _ hb h1 => ⟨h1.1.loc hb, h1.2.loc hb⟩⟩)⟩
  obtain ⟨a1, a2⟩ := hS.here
  exact ⟨(SlG.of_bv (b := 0) a1 (by omega)).mono (fun g h => .inl h), VwG.mono (fun g h => .inr h) a2⟩
end Go.Proofs.Ytmokecicjmjkbaa
namespace Go.Proofs.Ytmokecicjmjkbaa
open Go.ChangeShapes Go.WideShapes Go.ChangeAt Go.RowKit Go.Deep
set_option linter.unusedVariables false
set_option linter.unusedSimpArgs false
set_option linter.unusedSectionVars false
set_option maxRecDepth 100000
set_option maxHeartbeats 4000000
theorem St.cmE2 {B : Nat} {w0 w : World} {L : List Res} {G : Nat → Prop} {vb va vl vd : Value} {c : Cm} (H : St B w0 w L) (hm : cmr G vb va vl vd c ∈ L) : CmG G w vb va vl vd c := H.get hm
theorem ccheckL1_ok {G1 : Nat → Prop} (k : Nat) {i : Int} (hm : smC ⟨(k : Int), (0, 0), 0, 0, [], vw0⟩) (hw : wfC ⟨(k : Int), (0, 0), 0, 0, [], vw0⟩) (hc : cErr ⟨(k : Int), (0, 0), 0, 0, [], vw0⟩ = i) (w : World) (hx : CmG G1 w (.slice none 0 0) (.slice none 0 0) (.slice none 0 0) (.slice none 0 0) ⟨(k : Int), (0, 0), 0, 0, [], vw0⟩) :
    Calls Try.prog 48 #[.agg #[.int .i64 (k : Int), .int .u16 0, .int .u32 0, .int .u64 0, .int .u64 0, .slice none 0 0, .int .u64 0, .slice none 0 0, .slice none 0 0, .slice none 0 0]] w (Ret fun v w' => v = .int .i64 i ∧ Below w.heap.size w w') := by
  subst hc
  exact ccheck_ok ⟨(k : Int), (0, 0), 0, 0, [], vw0⟩ none none none none 0 0 0 0 hm.v hw w hx
theorem ccheckL2_ok {G1 : Nat → Prop} (p : Pr) (n v : Nat) (d : List Nat) (ab : Option Addr) (cb : Nat) {i : Int} (hm : smC ⟨2, p, n, v, d, vw0⟩) (hw : wfC ⟨2, p, n, v, d, vw0⟩) (hc : cErr ⟨2, p, n, v, d, vw0⟩ = i) (w : World) (hx : CmG G1 w (.slice ab d.length cb) (.slice none 0 0) (.slice none 0 0) (.slice none 0 0) ⟨2, p, n, v, d, vw0⟩) :
    Calls Try.prog 48 #[.agg #[.int .i64 2, .int .u16 (p.1 : Int), .int .u32 (p.2 : Int), .int .u64 (n : Int), .int .u64 (v : Int), .slice ab d.length cb, .int .u64 0, .slice none 0 0, .slice none 0 0, .slice none 0 0]] w (Ret fun v w' => v = .int .i64 i ∧ Below w.heap.size w w') := by
  subst hc
  exact ccheck_ok ⟨2, p, n, v, d, vw0⟩ ab none none none cb 0 0 0 hm.v hw w hx
theorem ccheckL3_ok {G1 : Nat → Prop} (x : Vw) (ma la da : Option Addr) (mc lc dc : Nat) {i : Int} (hm : smC ⟨3, (0, 0), 0, 0, [], x⟩) (hw : wfC ⟨3, (0, 0), 0, 0, [], x⟩) (hc : cErr ⟨3, (0, 0), 0, 0, [], x⟩ = i) (w : World) (hx : CmG G1 w (.slice none 0 0) (.slice ma x.mem.length mc) (.slice la x.lvs.length lc) (.slice da x.ldr.length dc) ⟨3, (0, 0), 0, 0, [], x⟩) :
    Calls Try.prog 48 #[.agg #[.int .i64 3, .int .u16 0, .int .u32 0, .int .u64 0, .int .u64 0, .slice none 0 0, .int .u64 (x.id : Int), .slice ma x.mem.length mc, .slice la x.lvs.length lc, .slice da x.ldr.length dc]] w (Ret fun v w' => v = .int .i64 i ∧ Below w.heap.size w w') := by
  subst hc
  exact ccheck_ok ⟨3, (0, 0), 0, 0, [], x⟩ none ma la da 0 mc lc dc hm.v hw w hx
end Go.Proofs.Ytmokecicjmjkbaa
