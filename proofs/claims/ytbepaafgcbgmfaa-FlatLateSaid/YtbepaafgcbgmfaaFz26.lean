/- Layer 29 (flat): lives, stays and the rules in plain data; who lives less breaks no rule; what anybody is told is a beginning of what was told most; no condition. Layer 29 (flat), plain laws: who lives less breaks no rule; the order of those who live, and what was sent besides; what was told most; no condition. -/
import Derived.Test.YtbepaafgcbgmfaaFz21
namespace Go.Proofs.Ytbepaafgcbgmfaa
open Go.ChangeShapes Go.WideShapes Go.ChangeAt Go.RowKit Go.Maps Go.Deep
set_option linter.unusedVariables false
set_option linter.unusedSimpArgs false
set_option linter.unusedSectionVars false
abbrev Pl := Pr × List Ev
/-- A message that was sent. -/
structure Ps where
  p : Pr
  vw : Nat
  num : Nat
  data : List Nat
  seen : Int
/-- A stay. -/
structure Pd where
  p : Pr
  x : Vw
  all : List Ev
  told : List Ev
  fol : Bool
def plL (x : Lv) : Pl := (x.p, evD x.l)
def psS (x : Sn) : Ps := ⟨x.p, x.vw, x.num, x.data, x.seen⟩
def pdS (d : Sd) : Pd := ⟨d.1, d.2.1.1.x, evD d.2.2.1, evD d.2.2.2.1, d.2.2.2.2⟩
def pdY (y : Sy) : Pd := pdS (syd y)
def pd0 : Pd := pdY sy0
def stP (S : List (List Ev)) (e : Ev) : List (List Ev) := if e.kd = 1 then S ++ [[e]] else match S.getLast? with | none => [] | some x => S.dropLast ++ [x ++ [e]]
def staysP (l : List Ev) : List (List Ev) := l.foldl stP []
def tlP (es : List Ev) : List Ev := es.filter fun e => decide (e.kd = 2)
def lifeNP (p : Pr) (n : Nat) : Nat → List (List Ev) → List Pd
  | _, [] => []
  | k, es :: T => ⟨p, (es.headD ev0).x, es, tlP es, decide (k + 1 < n)⟩ :: lifeNP p n (k + 1) T
def lifeP (a : Pl) : List Pd := lifeNP a.1 (staysP a.2).length 0 (staysP a.2)
def allP (ls : List Pl) : List Pd := ls.flatMap lifeP
theorem stA_map (S : List (List Eh)) (e : Eh) : (stA S e).map evD = stP (S.map evD) e.1 := by
  unfold stA stP
  by_cases h : e.1.kd = 1
  · rw [if_pos h, if_pos h]; simp [evD]
  · rw [if_neg h, if_neg h, List.getLast?_map]
    cases S.getLast? with
    | none => rfl
    | some x => simp [evD, List.map_dropLast]
theorem staysP_map (l : List Eh) : (staysH l).map evD = staysP (evD l) := by
  have : ∀ (l : List Eh) (S : List (List Eh)), (l.foldl stA S).map evD = (evD l).foldl stP (S.map evD) := by
    intro l
    induction l with
    | nil => intro S; rfl
    | cons a l ih => intro S; show ((l.foldl stA (stA S a)).map evD) = _; rw [ih, stA_map]; rfl
  exact this l []
theorem tlP_map (es : List Eh) : evD (tlE es) = tlP (evD es) := by
  unfold tlE tlP evD; rw [List.filter_map]; rfl
theorem headP_map (es : List Eh) : (es.headD eh0).1 = (evD es).headD ev0 := by cases es <;> rfl
theorem lifeN_map (p : Pr) (n : Nat) : ∀ (T : List (List Eh)) (k : Nat), (lifeN p n k T).map pdS = lifeNP p n k (T.map evD)
  | [], k => rfl
  | es :: T, k => by
    show pdS _ :: (lifeN p n (k + 1) T).map pdS = _
    rw [lifeN_map p n T (k + 1)]
    show _ = (⟨p, ((evD es).headD ev0).x, evD es, tlP (evD es), decide (k + 1 < n)⟩ : Pd) :: _
    rw [← headP_map, ← tlP_map]; rfl
theorem life_map (x : Lv) : (lifeH x.p x.l).map pdS = lifeP (plL x) := by
  unfold lifeH lifeP plL
  rw [lifeN_map, staysP_map, ← staysP_map, List.length_map]
theorem lifeNP_get (p : Pr) (n : Nat) : ∀ (T : List (List Ev)) (k i : Nat), (lifeNP p n k T)[i]? = T[i]?.map fun es => ⟨p, (es.headD ev0).x, es, tlP es, decide (k + i + 1 < n)⟩
  | [], k, i => rfl
  | es :: T, k, i => by
    cases i with
    | zero => rfl
    | succ i =>
      show (lifeNP p n (k + 1) T)[i]? = _
      rw [lifeNP_get p n T (k + 1) i, show k + 1 + i = k + (i + 1) by omega]; rfl
theorem lifeNP_len (p : Pr) (n : Nat) : ∀ (T : List (List Ev)) (k : Nat), (lifeNP p n k T).length = T.length
  | [], k => rfl
  | es :: T, k => by show (lifeNP p n (k + 1) T).length + 1 = _; rw [lifeNP_len p n T (k + 1)]; rfl
theorem lifeP_get (a : Pl) (i : Nat) : (lifeP a)[i]? = (staysP a.2)[i]?.map fun es => ⟨a.1, (es.headD ev0).x, es, tlP es, decide (i + 1 < (staysP a.2).length)⟩ := by
  unfold lifeP; rw [lifeNP_get]; simp only [Nat.zero_add]
/-! ### The rules -/
def exP (l : List Ev) : Int := fidx (fun e => decide (e.kd = 4)) l
def ordXP (l : List Ev) : Bool := (decide (l.length = 0) || decide ((l.headD ev0).kd = 1)) && !(decide (0 ≤ exP l) && decide (exP l < (l.length : Int) - 1))
def vwOkP (ss : List Pd) (i : Nat) (y : Pd) : Bool := decide (vErr y.x = 0) && (decide (y.p ∈ y.x.mem) && (decide (i = 0) || decide (y.x.id = ((ss.getD (i - 1) pd0).x.id + 1) % 18446744073709551616)))
def wasP (sn : List Ps) (id : Nat) (V : Ev) (most : Int) : Bool := sn.any fun x => decide ((x.p, x.vw, x.num) = ((V.p, id, V.n) : Ky)) && (decide (x.data = V.data) && decide (x.seen ≤ most))
def nblP (l : List Ev) : Nat := (l.filter fun e => decide (e.kd = 3)).length
def cntPP (l : List Ev) (p : Pr) : Nat := (l.filter fun e => decide (e.p = p)).length
def cntDP (l : List Ev) : Bool := allN (fun i (e : Ev) => decide (e.n = cntPP (l.take i) e.p + 1)) 0 l
def bgP (a b : Pd) : Bool := begD a.told b.told
def knP (sn : List Ps) (y : Pd) : Bool := y.told.all fun e => decide (e.p ∈ y.x.mem) && wasP sn y.x.id e 9223372036854775807
def behP (sn : List Ps) (y : Pd) : Bool := allN (fun i (e : Ev) => wasP sn y.x.id e (i : Int)) 0 y.told
def prP (ss : List Pd) (ok : Pd → Pd → Bool) : Bool := ss.all fun a => ss.all fun b => !(decide (a.x.id = b.x.id)) || ok a b
def ruleP (ls : List Pl) (sn : List Ps) : Nat → Bool
  | 1 => allN (fun i (x : Pl) => !(decide (x.1 ∈ (ls.take i).map (·.1))) && ordXP x.2) 0 ls
  | 2 => ls.all fun x => allN (vwOkP (lifeP x)) 0 (lifeP x)
  | 3 => (allP ls).all (fun y => decide (nblP y.all ≤ 1))
  | 4 => prP (allP ls) (fun a b => vSame a.x b.x)
  | 5 => (allP ls).all (knP sn)
  | 6 => (allP ls).all (fun y => cntDP y.told)
  | 7 => prP (allP ls) (fun a b => bgP a b || bgP b a)
  | 8 => prP (allP ls) (fun a b => !a.fol || !b.fol || decide (a.told.length = b.told.length) && bgP a b)
  | 9 => prP (allP ls) (fun a b => !b.fol || bgP a b)
  | _ => (allP ls).all (behP sn)
def fstBad (r : Nat → Bool) : Nat := ([1, 2, 3, 4, 5, 6, 7, 8, 9, 10].find? (fun n => !r n)).getD 0
def checkP (ls : List Pl) (sn : List Ps) : Nat := fstBad (ruleP ls sn)
theorem allN_map {α β : Type} (f : α → β) (p : Nat → β → Bool) : ∀ (l : List α) (k : Nat), allN p k (l.map f) = allN (fun i a => p i (f a)) k l
  | [], k => rfl
  | a :: l, k => by show (p k (f a) && allN p (k + 1) (l.map f)) = _; rw [allN_map f p l (k + 1)]; rfl
theorem allN_congr {α : Type} {p q : Nat → α → Bool} : ∀ (l : List α) (k : Nat), (∀ i (h : i < l.length), p (k + i) l[i] = q (k + i) l[i]) → allN p k l = allN q k l
  | [], k, _ => rfl
  | a :: l, k, h => by
    have h0 : p k a = q k a := h 0 (Nat.succ_pos _)
    have h1 : allN p (k + 1) l = allN q (k + 1) l := allN_congr l (k + 1) (fun i hi => by
      have := h (i + 1) (Nat.succ_lt_succ hi)
      rw [Nat.add_assoc, Nat.add_comm 1 i]; exact this)
    show (p k a && allN p (k + 1) l) = (q k a && allN q (k + 1) l)
    rw [h0, h1]
theorem fidx_map {α β : Type} (f : α → β) (p : β → Bool) : ∀ l : List α, fidx p (l.map f) = fidx (fun a => p (f a)) l
  | [] => rfl
  | a :: l => by show (if p (f a) then 0 else if fidx p (l.map f) = -1 then -1 else fidx p (l.map f) + 1) = _; rw [fidx_map f p l]; rfl
theorem exP_map (l : List Eh) : exAt l = exP (evD l) := by unfold exAt exP evD; rw [fidx_map]
theorem ordX_map (l : List Eh) : ordX l = ordXP (evD l) := by unfold ordX ordXP; rw [exP_map, headP_map, evD_len]
theorem nbl_map (l : List Eh) : nbl l = nblP (evD l) := by unfold nbl nblP evD; rw [List.filter_map, List.length_map]; rfl
theorem cntP_map (l : List Eh) (p : Pr) : cntP l p = cntPP (evD l) p := by unfold cntP cntPP evD; rw [List.filter_map, List.length_map]; rfl
theorem cntD_map (l : List Eh) : cntD l = cntDP (evD l) := by
  unfold cntD cntDP
  conv => rhs; rw [evD, allN_map]
  exact allN_congr _ _ (fun i h => by simp only [Nat.zero_add]; rw [cntP_map, evD_take]; rfl)
theorem all_mapY {ss : List Sy} {L : List Pd} (hs : ss.map pdY = L) {f : Sy → Bool} {g : Pd → Bool} (h : ∀ y, f y = g (pdY y)) : ss.all f = L.all g := by
  subst hs
  rw [List.all_map]
  have : f = g ∘ pdY := funext h
  rw [this]
section
variable {D : Ck} {ls : List Lv} {sn : List Sn}
theorem CkD.pds (h : CkD D ls sn) : D.ss.map pdY = allP (ls.map plL) := by
  rw [h.ss]
  unfold allP
  rw [List.map_flatMap, List.flatMap_map]
  have h1 : D.bys.map (fun b => b.ss.map pdY) = ls.map (fun x => lifeP (plL x)) := by
    have := congrArg (List.map (List.map pdS)) h.by_
    rw [List.map_map, List.map_map] at this
    have e1 : (List.map pdS ∘ fun b : By => b.ss.map syd) = fun b => b.ss.map pdY := by funext b; simp [pdY]
    have e2 : (List.map pdS ∘ fun x : Lv => lifeH x.p x.l) = fun x => lifeP (plL x) := by funext x; exact life_map x
    rw [e1, e2] at this; exact this
  have := congrArg List.flatten h1
  rwa [← List.flatMap_def, ← List.flatMap_def] at this
theorem CkD.was (h : CkD D ls sn) (id : Nat) (V : Ev) (most : Int) : wasD D id V most = wasP (sn.map psS) id V most := by
  unfold wasD wasP
  rw [h.se, List.any_filter, List.any_map]; rfl
theorem CkD.kn (h : CkD D ls sn) (y : Sy) : knownD D y = knP (sn.map psS) (pdY y) := by
  unfold knownD knP
  show _ = (y.told.map (·.1)).all _
  rw [List.all_map]
  exact congrArg (y.told.all) (funext fun e => by simp only [Function.comp]; rw [h.was]; rfl)
theorem CkD.beh (h : CkD D ls sn) (y : Sy) : behD D y = behP (sn.map psS) (pdY y) := by
  unfold behD behP
  show _ = allN _ 0 (y.told.map (·.1))
  rw [allN_map]
  exact allN_congr _ _ (fun i hi => h.was _ _ _)
theorem pairs_map (hs : D.ss.map pdY = allP (ls.map plL)) {ok : Sy → Sy → Bool} {okP : Pd → Pd → Bool} (h : ∀ a b, ok a b = okP (pdY a) (pdY b)) : pairsD D.ss ok = prP (allP (ls.map plL)) okP := by
  rw [← hs]
  unfold pairsD prP
  rw [List.all_map]
  refine congrArg (D.ss.all) (funext fun a => ?_)
  simp only [Function.comp]
  rw [List.all_map]
  exact congrArg (D.ss.all) (funext fun b => by simp only [Function.comp]; rw [h]; rfl)
theorem vwOk_map (ss : List Sy) (i : Nat) (y : Sy) : vwOk ss i y = vwOkP (ss.map pdY) i (pdY y) := by
  unfold vwOk vwOkP
  have : ((ss.map pdY).getD (i - 1) pd0).x = (ss.getD (i - 1) sy0).e.1.x := by
    simp only [List.getD, List.getElem?_map]
    cases ss[i - 1]? <;> rfl
  rw [this]; rfl
theorem CkD.rule (h : CkD D ls sn) (n : Nat) (h1 : 1 ≤ n) (h2 : n ≤ 10) : ruleD D n = ruleP (ls.map plL) (sn.map psS) n := by
  have hs := h.pds
  have hk : n = 1 ∨ n = 2 ∨ n = 3 ∨ n = 4 ∨ n = 5 ∨ n = 6 ∨ n = 7 ∨ n = 8 ∨ n = 9 ∨ n = 10 := by omega
  rcases hk with rfl | rfl | rfl | rfl | rfl | rfl | rfl | rfl | rfl | rfl
  · show ordD D.ls = allN _ 0 (ls.map plL)
    rw [h.eq, ordD, allN_map]
    exact allN_congr _ _ (fun i hi => by
      rw [ordX_map, ← List.map_take, List.map_map]; rfl)
  · show viewsD D = (ls.map plL).all _
    unfold viewsD
    have h1 : D.bys.map (fun b => b.ss.map pdY) = ls.map (fun x => lifeP (plL x)) := by
      have := congrArg (List.map (List.map pdS)) h.by_
      rw [List.map_map, List.map_map] at this
      have e1 : (List.map pdS ∘ fun b : By => b.ss.map syd) = fun b => b.ss.map pdY := by funext b; simp [pdY]
      have e2 : (List.map pdS ∘ fun x : Lv => lifeH x.p x.l) = fun x => lifeP (plL x) := by funext x; exact life_map x
      rw [e1, e2] at this; exact this
    have h2 : D.bys.all (fun b => allN (vwOk b.ss) 0 b.ss) = (D.bys.map (fun b => b.ss.map pdY)).all (fun L => allN (vwOkP L) 0 L) := by
      rw [List.all_map]
      have e : (fun b : By => allN (vwOk b.ss) 0 b.ss) = ((fun L => allN (vwOkP L) 0 L) ∘ fun b : By => b.ss.map pdY) := by
        funext b
        simp only [Function.comp]
        rw [allN_map]
        exact allN_congr _ _ (fun i hi => vwOk_map _ _ _)
      rw [e]
    rw [h2, h1, List.all_map, List.all_map]; rfl
  · exact all_mapY hs (fun y => by rw [nbl_map]; rfl)
  · exact pairs_map hs (fun a b => rfl)
  · exact all_mapY hs (fun y => h.kn y)
  · exact all_mapY hs (fun y => cntD_map _)
  · exact pairs_map hs (fun a b => rfl)
  · exact pairs_map hs (fun a b => by
      show _ = (!a.fol || !b.fol || decide ((evD a.told).length = (evD b.told).length) && bg a b)
      rw [evD_len, evD_len])
  · exact pairs_map hs (fun a b => rfl)
  · exact all_mapY hs (fun y => h.beh y)
/-- The checker's answer hangs on the plain data alone. -/
theorem CkD.check (h : CkD D ls sn) : checkD D = checkP (ls.map plL) (sn.map psS) := by
  unfold checkD checkP fstBad
  have e : ∀ n, 1 ≤ n → n ≤ 10 → ruleD D n = ruleP (ls.map plL) (sn.map psS) n := h.rule
  simp only [List.find?_cons, List.find?_nil]
  rw [e 1 (by omega) (by omega), e 2 (by omega) (by omega), e 3 (by omega) (by omega), e 4 (by omega) (by omega), e 5 (by omega) (by omega), e 6 (by omega) (by omega), e 7 (by omega) (by omega), e 8 (by omega) (by omega), e 9 (by omega) (by omega), e 10 (by omega) (by omega)]
end
end Go.Proofs.Ytbepaafgcbgmfaa

namespace Go.Proofs.Ytbepaafgcbgmfaa
open Go.ChangeShapes Go.WideShapes Go.ChangeAt Go.RowKit Go.Maps Go.Deep
set_option linter.unusedVariables false
set_option linter.unusedSimpArgs false
set_option linter.unusedSectionVars false
/-! ### The first rule that does not hold -/
theorem fst_none {r : Nat → Bool} (h : ∀ k, 1 ≤ k → k ≤ 10 → r k = true) : fstBad r = 0 := by
  unfold fstBad
  rw [List.find?_eq_none.2 (fun n hn => by
    have : 1 ≤ n ∧ n ≤ 10 := by simp only [List.mem_cons, List.not_mem_nil, or_false] at hn; omega
    rw [h n this.1 this.2]; simp)]
  rfl
theorem fst_at {r : Nat → Bool} {n : Nat} (h1 : 1 ≤ n) (h2 : n ≤ 10) (h : ∀ k, 1 ≤ k → k < n → r k = true) (hn : r n = false) : fstBad r = n := by
  unfold fstBad
  have hk : n = 1 ∨ n = 2 ∨ n = 3 ∨ n = 4 ∨ n = 5 ∨ n = 6 ∨ n = 7 ∨ n = 8 ∨ n = 9 ∨ n = 10 := by omega
  rcases hk with rfl | rfl | rfl | rfl | rfl | rfl | rfl | rfl | rfl | rfl <;> simp (discharger := omega) [List.find?_cons, h, hn]
theorem fst_ex (r : Nat → Bool) : ∀ n, (∀ k, 1 ≤ k → k ≤ n → r k = true) ∨ ∃ m, 1 ≤ m ∧ m ≤ n ∧ (∀ k, 1 ≤ k → k < m → r k = true) ∧ r m = false
  | 0 => .inl (fun k h1 h2 => absurd h2 (by omega))
  | n + 1 => by
    rcases fst_ex r n with h | ⟨m, h1, h2, h3, h4⟩
    · cases hr : r (n + 1)
      · exact .inr ⟨n + 1, by omega, Nat.le_refl _, fun k h1 h2 => h k h1 (by omega), hr⟩
      · refine .inl (fun k h1 h2 => ?_)
        rcases Nat.lt_or_ge n k with h3 | h3
        · obtain rfl : k = n + 1 := by omega
          exact hr
        · exact h k h1 h3
    · exact .inr ⟨m, h1, by omega, h3, h4⟩
theorem fst_cases (r : Nat → Bool) : (fstBad r = 0 ∧ ∀ k, 1 ≤ k → k ≤ 10 → r k = true) ∨ (1 ≤ fstBad r ∧ fstBad r ≤ 10 ∧ (∀ k, 1 ≤ k → k < fstBad r → r k = true) ∧ r (fstBad r) = false) := by
  rcases fst_ex r 10 with h | ⟨m, h1, h2, h3, h4⟩
  · exact .inl ⟨fst_none h, h⟩
  · have := fst_at h1 h2 h3 h4
    exact .inr (by rw [this]; exact ⟨h1, h2, h3, h4⟩)
theorem fst_zero {r : Nat → Bool} (h : fstBad r = 0) : ∀ k, 1 ≤ k → k ≤ 10 → r k = true := by
  rcases fst_cases r with ⟨_, h1⟩ | ⟨h1, _⟩
  · exact h1
  · omega
theorem check_zero {ls : List Pl} {sn : List Ps} (h : checkP ls sn = 0) : ∀ k, 1 ≤ k → k ≤ 10 → ruleP ls sn k = true := fst_zero h
/-! ### Who lives less -/
theorem fidx_or {α : Type} (p : α → Bool) : ∀ l : List α, fidx p l = -1 ∨ 0 ≤ fidx p l
  | [] => .inl rfl
  | a :: l => by
    unfold fidx
    split
    · exact .inr (Int.le_refl _)
    · split
      · exact .inl rfl
      · rcases fidx_or p l with h | h
        · contradiction
        · exact .inr (by omega)
theorem fidx_app {α : Type} (p : α → Bool) (t : List α) : ∀ l : List α, 0 ≤ fidx p l → fidx p (l ++ t) = fidx p l
  | [], h => absurd (show (0 : Int) ≤ -1 from h) (by decide)
  | a :: l, h => by
    show (if p a then 0 else if fidx p (l ++ t) = -1 then -1 else fidx p (l ++ t) + 1) = (if p a then 0 else if fidx p l = -1 then -1 else fidx p l + 1)
    have h0 : (if p a then (0 : Int) else if fidx p l = -1 then -1 else fidx p l + 1) ≥ 0 := h
    split
    · rfl
    · rename_i hp
      rw [if_neg hp] at h0
      split at h0
      · exact absurd h0 (by decide)
      · rename_i hn
        have := fidx_or p l
        rw [fidx_app p t l (by omega)]
theorem ordXP_cut {a t : List Ev} (h : ordXP (a ++ t) = true) : ordXP a = true := by
  unfold ordXP at h ⊢
  rw [Bool.and_eq_true] at h ⊢
  refine ⟨?_, ?_⟩
  · cases a with
    | nil => rfl
    | cons e r =>
      have := h.1
      rw [Bool.or_eq_true] at this ⊢
      rcases this with h1 | h1
      · simp at h1
      · exact .inr h1
  · have h2 := h.2
    simp only [Bool.not_eq_true', Bool.and_eq_false_iff, decide_eq_false_iff_not] at h2 ⊢
    by_cases h3 : 0 ≤ exP a
    · have : exP (a ++ t) = exP a := fidx_app _ t a h3
      rw [this, List.length_append] at h2
      rcases h2 with h4 | h4
      · exact absurd h3 h4
      · exact .inr (by omega)
    · exact .inl h3
theorem stP_get {S : List (List Ev)} {e : Ev} {i : Nat} {es : List Ev} (h : S[i]? = some es) : ∃ es', (stP S e)[i]? = some es' ∧ es <+: es' ∧ (i + 1 < S.length → es' = es) := by
  have hi : i < S.length := (List.getElem?_eq_some_iff.1 h).1
  unfold stP
  split
  · exact ⟨es, by rw [List.getElem?_append_left hi, h], List.prefix_refl _, fun _ => rfl⟩
  · split
    · rename_i hn
      rw [List.getLast?_eq_none_iff] at hn
      subst hn; cases h
    · rename_i x hx
      by_cases h2 : i + 1 < S.length
      · refine ⟨es, ?_, List.prefix_refl _, fun _ => rfl⟩
        rw [List.getElem?_append_left (by rw [List.length_dropLast]; omega), List.getElem?_dropLast, if_pos (by omega), h]
      · have hl : i = S.length - 1 := by omega
        rw [List.getLast?_eq_getElem?, ← hl, h] at hx
        obtain rfl := Option.some.inj hx
        refine ⟨es ++ [e], ?_, List.prefix_append _ _, fun h3 => absurd h3 h2⟩
        rw [List.getElem?_append_right (by rw [List.length_dropLast]; omega), List.length_dropLast, hl]
        simp
theorem stP_len (S : List (List Ev)) (e : Ev) : S.length ≤ (stP S e).length := by
  unfold stP
  split
  · rw [List.length_append]; omega
  · split
    · rename_i hn
      rw [List.getLast?_eq_none_iff] at hn
      subst hn; exact Nat.le_refl _
    · rename_i x hx
      have : 0 < S.length := List.length_pos_of_mem (List.mem_of_getLast? hx)
      rw [List.length_append, List.length_dropLast, List.length_singleton]; omega
theorem stP_fold (S0 : List (List Ev)) : ∀ (t : List Ev) (S : List (List Ev)), ((∀ i es, S0[i]? = some es → ∃ es', S[i]? = some es' ∧ es <+: es' ∧ (i + 1 < S0.length → es' = es)) ∧ S0.length ≤ S.length) →
    (∀ i es, S0[i]? = some es → ∃ es', (t.foldl stP S)[i]? = some es' ∧ es <+: es' ∧ (i + 1 < S0.length → es' = es)) ∧ S0.length ≤ (t.foldl stP S).length
  | [], S, h => h
  | e :: t, S, h => by
    refine stP_fold S0 t (stP S e) ⟨fun i es hi => ?_, Nat.le_trans h.2 (stP_len S e)⟩
    obtain ⟨es', h1, h2, h3⟩ := h.1 i es hi
    obtain ⟨es2, h4, h5, h6⟩ := stP_get (e := e) h1
    exact ⟨es2, h4, h2.trans h5, fun hl => (h6 (Nat.lt_of_lt_of_le hl h.2)).trans (h3 hl)⟩
theorem staysP_cut (a t : List Ev) : (∀ i es, (staysP a)[i]? = some es → ∃ es', (staysP (a ++ t))[i]? = some es' ∧ es <+: es' ∧ (i + 1 < (staysP a).length → es' = es)) ∧ (staysP a).length ≤ (staysP (a ++ t)).length := by
  have := stP_fold (staysP a) t (staysP a) ⟨fun i es h => ⟨es, h, List.prefix_refl _, fun _ => rfl⟩, Nat.le_refl _⟩
  unfold staysP at this ⊢
  rw [List.foldl_append]
  exact this
theorem stP_ne {S : List (List Ev)} {e : Ev} (h : ∀ es ∈ S, es ≠ []) : ∀ es ∈ stP S e, es ≠ [] := by
  unfold stP
  intro es hes
  split at hes
  · rcases List.mem_append.1 hes with h1 | h1
    · exact h es h1
    · obtain rfl := List.mem_singleton.1 h1; simp
  · split at hes
    · cases hes
    · rcases List.mem_append.1 hes with h1 | h1
      · exact h es (List.dropLast_subset _ h1)
      · obtain rfl := List.mem_singleton.1 h1; simp
theorem staysP_ne (l : List Ev) : ∀ es ∈ staysP l, es ≠ [] := by
  have : ∀ (l : List Ev) (S : List (List Ev)), (∀ es ∈ S, es ≠ []) → ∀ es ∈ l.foldl stP S, es ≠ [] := by
    intro l
    induction l with
    | nil => intro S h; exact h
    | cons a l ih => intro S h; exact ih _ (stP_ne h)
  exact this l [] (fun es h => absurd h List.not_mem_nil)
/-- A stay, and the same stay of who lived on. -/
structure CutD (d d' : Pd) : Prop where
  p : d'.p = d.p
  x : d'.x = d.x
  all : d.all <+: d'.all
  told : d.told <+: d'.told
  fol : d.fol = true → d'.fol = true ∧ d'.told = d.told
theorem life_cut {p : Pr} {a t : List Ev} {i : Nat} {d : Pd} (h : (lifeP (p, a))[i]? = some d) : ∃ d', (lifeP (p, a ++ t))[i]? = some d' ∧ CutD d d' := by
  rw [lifeP_get] at h
  obtain ⟨es, he, rfl⟩ := Option.map_eq_some_iff.1 h
  obtain ⟨es', h1, ⟨r, hr⟩, h3⟩ := (staysP_cut a t).1 i es he
  have hl := (staysP_cut a t).2
  have hne := staysP_ne a es (List.mem_of_getElem? he)
  refine ⟨⟨p, (es'.headD ev0).x, es', tlP es', decide (i + 1 < (staysP (a ++ t)).length)⟩, by rw [lifeP_get]; simp only [h1, Option.map_some], ⟨rfl, ?_, ⟨r, hr⟩, ?_, fun hf => ?_⟩⟩
  · cases es with
    | nil => exact absurd rfl hne
    | cons e es => rw [← hr]; rfl
  · show tlP es <+: tlP es'
    rw [← hr]
    unfold tlP
    rw [List.filter_append]
    exact List.prefix_append _ _
  · have hf' : i + 1 < (staysP a).length := of_decide_eq_true hf
    exact ⟨decide_eq_true (Nat.lt_of_lt_of_le hf' hl), by show tlP es' = tlP es; rw [h3 hf']⟩
theorem begD_iff {a b : List Ev} : begD a b = true ↔ a <+: b := by
  unfold begD
  rw [Bool.and_eq_true, decide_eq_true_eq, decide_eq_true_eq, List.prefix_iff_eq_take]
  constructor
  · exact fun h => h.2
  · intro h
    refine ⟨?_, h⟩
    have := congrArg List.length h
    rw [List.length_take] at this
    omega
/-- Those who live, each of whose events are a beginning of another one's. -/
def CutL (ls' ls : List Pl) : Prop := ls'.length = ls.length ∧ ∀ (i : Nat) (x' : Pl), ls'[i]? = some x' → ∃ t, ls[i]? = some (x'.1, x'.2 ++ t)
theorem CutL.keys {ls' ls : List Pl} (h : CutL ls' ls) : ls'.map (·.1) = ls.map (·.1) := by
  refine List.ext_getElem? (fun i => ?_)
  rw [List.getElem?_map, List.getElem?_map]
  cases hx : ls'[i]? with
  | none =>
    rw [List.getElem?_eq_none_iff] at hx
    rw [List.getElem?_eq_none (by have := h.1; omega)]
  | some x' =>
    obtain ⟨t, ht⟩ := h.2 i x' hx
    rw [ht]; rfl
theorem CutL.stay {ls' ls : List Pl} (h : CutL ls' ls) {d : Pd} (hd : d ∈ allP ls') : ∃ d' ∈ allP ls, CutD d d' := by
  obtain ⟨x', hx, hd⟩ := List.mem_flatMap.1 hd
  obtain ⟨i, hi⟩ := List.getElem?_of_mem hx
  obtain ⟨t, ht⟩ := h.2 i x' hi
  obtain ⟨j, hj⟩ := List.getElem?_of_mem hd
  obtain ⟨d', h1, h2⟩ := life_cut (t := t) hj
  exact ⟨d', List.mem_flatMap.2 ⟨_, List.mem_of_getElem? ht, List.mem_of_getElem? h1⟩, h2⟩
theorem pre_get {α : Type} {a b : List α} (h : a <+: b) {i : Nat} (hi : i < a.length) : ∃ hb : i < b.length, b[i] = a[i] := by
  obtain ⟨t, rfl⟩ := h
  exact ⟨by rw [List.length_append]; omega, List.getElem_append_left hi⟩
theorem pre_take {α : Type} {a b : List α} (h : a <+: b) {i : Nat} (hi : i ≤ a.length) : b.take i = a.take i := by
  obtain ⟨t, rfl⟩ := h
  exact List.take_append_of_le_length hi
theorem prP_iff {ss : List Pd} {ok : Pd → Pd → Bool} : prP ss ok = true ↔ ∀ a ∈ ss, ∀ b ∈ ss, a.x.id = b.x.id → ok a b = true := by
  unfold prP
  simp only [List.all_eq_true, Bool.or_eq_true, Bool.not_eq_true', decide_eq_false_iff_not]
  constructor
  · intro h a ha b hb e
    rcases h a ha b hb with h1 | h1
    · exact absurd e h1
    · exact h1
  · intro h a ha b hb
    by_cases e : a.x.id = b.x.id
    · exact .inr (h a ha b hb e)
    · exact .inl e
theorem prP_cut {ls' ls : List Pl} (h : CutL ls' ls) {ok : Pd → Pd → Bool} (hk : ∀ a a' b b', CutD a a' → CutD b b' → ok a' b' = true → ok a b = true) (h1 : prP (allP ls) ok = true) : prP (allP ls') ok = true := by
  rw [prP_iff] at h1 ⊢
  intro a ha b hb e
  obtain ⟨a', ha', ca⟩ := h.stay ha
  obtain ⟨b', hb', cb⟩ := h.stay hb
  exact hk a a' b b' ca cb (h1 a' ha' b' hb' (by rw [ca.x, cb.x]; exact e))
theorem all_cut {ls' ls : List Pl} (h : CutL ls' ls) {ok : Pd → Bool} (hk : ∀ a a', CutD a a' → ok a' = true → ok a = true) (h1 : (allP ls).all ok = true) : (allP ls').all ok = true := by
  rw [List.all_eq_true] at h1 ⊢
  intro a ha
  obtain ⟨a', ha', ca⟩ := h.stay ha
  exact hk a a' ca (h1 a' ha')
theorem cut_rule {ls' ls : List Pl} (h : CutL ls' ls) (sn : List Ps) (n : Nat) (h1 : ruleP ls sn n = true) : ruleP ls' sn n = true := by
  unfold ruleP at h1 ⊢
  split
  · simp only at h1
    rw [allN_iff] at h1 ⊢
    intro i hi
    have hx : ls'[i]? = some ls'[i] := List.getElem?_eq_getElem hi
    obtain ⟨t, ht⟩ := h.2 i _ hx
    obtain ⟨hi2, e2⟩ := List.getElem?_eq_some_iff.1 ht
    have h2 := h1 i hi2
    rw [e2, Bool.and_eq_true] at h2
    simp only [Nat.zero_add] at h2 ⊢
    rw [List.map_take, h.keys, ← List.map_take, Bool.and_eq_true]
    exact ⟨h2.1, ordXP_cut h2.2⟩
  · simp only at h1
    rw [List.all_eq_true] at h1 ⊢
    intro x' hx'
    obtain ⟨k, hk⟩ := List.getElem?_of_mem hx'
    obtain ⟨t, ht⟩ := h.2 k x' hk
    have h2 := h1 _ (List.mem_of_getElem? ht)
    rw [allN_iff] at h2 ⊢
    intro i hi
    obtain ⟨d', hd1, hd2⟩ := life_cut (t := t) (List.getElem?_eq_getElem hi)
    obtain ⟨hi2, e2⟩ := List.getElem?_eq_some_iff.1 hd1
    have h3 := h2 i hi2
    rw [e2] at h3
    simp only [Nat.zero_add] at h3 ⊢
    unfold vwOkP at h3 ⊢
    rw [hd2.x, hd2.p] at h3
    have hp : ((lifeP (x'.1, x'.2 ++ t)).getD (i - 1) pd0).x = ((lifeP x').getD (i - 1) pd0).x := by
      obtain ⟨d2, hg1, hg2⟩ := life_cut (t := t) (List.getElem?_eq_getElem (l := lifeP (x'.1, x'.2)) (i := i - 1) (by have : i < (lifeP (x'.1, x'.2)).length := hi; omega))
      simp only [List.getD, hg1, Option.getD_some]
      rw [hg2.x]
      rw [List.getElem?_eq_getElem (by have : i < (lifeP x').length := hi; omega)]; rfl
    rw [hp] at h3
    exact h3
  · exact all_cut h (fun a a' c ha => by
      have h2 := of_decide_eq_true ha
      refine decide_eq_true (Nat.le_trans ?_ h2)
      obtain ⟨t, ht⟩ := c.all
      unfold nblP
      rw [← ht, List.filter_append, List.length_append]; omega) h1
  · exact prP_cut h (fun a a' b b' ca cb hk => by rw [ca.x, cb.x] at hk; exact hk) h1
  · exact all_cut h (fun a a' c ha => by
      unfold knP at ha ⊢
      rw [List.all_eq_true] at ha ⊢
      intro e he
      have := ha e (c.told.subset he)
      rw [c.x] at this; exact this) h1
  · exact all_cut h (fun a a' c ha => by
      unfold cntDP at ha ⊢
      rw [allN_iff] at ha ⊢
      intro i hi
      obtain ⟨hb, e⟩ := pre_get c.told hi
      have := ha i hb
      rw [e, Nat.zero_add, pre_take c.told (Nat.le_of_lt hi)] at this
      rw [Nat.zero_add]; exact this) h1
  · exact prP_cut h (fun a a' b b' ca cb hk => by
      rw [Bool.or_eq_true] at hk ⊢
      unfold bgP at hk ⊢
      rw [begD_iff, begD_iff] at hk ⊢
      rcases hk with hk | hk
      · exact List.prefix_or_prefix_of_prefix (ca.told.trans hk) cb.told
      · exact List.prefix_or_prefix_of_prefix ca.told (cb.told.trans hk)) h1
  · exact prP_cut h (fun a a' b b' ca cb hk => by
      cases ha : a.fol
      · rfl
      · cases hb : b.fol
        · rfl
        · obtain ⟨f1, t1⟩ := ca.fol ha
          obtain ⟨f2, t2⟩ := cb.fol hb
          unfold bgP at hk ⊢
          rw [f1, f2, t1, t2] at hk; exact hk) h1
  · exact prP_cut h (fun a a' b b' ca cb hk => by
      cases hb : b.fol
      · rfl
      · obtain ⟨f2, t2⟩ := cb.fol hb
        unfold bgP at hk ⊢
        rw [f2, t2] at hk
        simp only [Bool.not_true, Bool.false_or] at hk ⊢
        rw [begD_iff] at hk ⊢
        exact ca.told.trans hk) h1
  · rename_i n1 n2 n3 n4 n5 n6 n7 n8 n9
    split at h1
    all_goals first | contradiction | exact all_cut h (fun a a' c ha => by
      unfold behP at ha ⊢
      rw [allN_iff] at ha ⊢
      intro i hi
      obtain ⟨hb, e⟩ := pre_get c.told hi
      have := ha i hb
      rw [e, c.x] at this; exact this) h1
theorem check_cut {ls' ls : List Pl} (h : CutL ls' ls) (sn : List Ps) (h0 : checkP ls sn = 0) : checkP ls' sn = 0 :=
  fst_none (fun k h1 h2 => cut_rule h sn k (check_zero h0 k h1 h2))
/-! ### The order of those who live, and what was sent besides -/
theorem all_mem {α : Type} {l m : List α} (h : ∀ a, a ∈ l ↔ a ∈ m) (p : α → Bool) : l.all p = m.all p := by
  rw [Bool.eq_iff_iff, List.all_eq_true, List.all_eq_true]
  exact ⟨fun h1 a ha => h1 a ((h a).2 ha), fun h1 a ha => h1 a ((h a).1 ha)⟩
theorem prP_mem {l m : List Pd} (h : ∀ a, a ∈ l ↔ a ∈ m) (ok : Pd → Pd → Bool) : prP l ok = prP m ok := by
  unfold prP
  rw [all_mem h]
  exact congrArg (m.all) (funext fun a => all_mem h _)
theorem rule1_iff (ls : List Pl) : allN (fun i (x : Pl) => !(decide (x.1 ∈ (ls.take i).map (·.1))) && ordXP x.2) 0 ls = true ↔ (ls.Pairwise fun a b => a.1 ≠ b.1) ∧ ∀ x ∈ ls, ordXP x.2 = true := by
  rw [allN_iff, List.pairwise_iff_getElem]
  constructor
  · intro h
    refine ⟨fun i j hi hj hij e => ?_, fun x hx => ?_⟩
    · have := h j hj
      rw [Nat.zero_add, Bool.and_eq_true, Bool.not_eq_true', decide_eq_false_iff_not] at this
      refine this.1 (List.mem_map.2 ⟨ls[i], ?_, e⟩)
      exact List.mem_iff_getElem.2 ⟨i, by rw [List.length_take]; omega, by rw [List.getElem_take]⟩
    · obtain ⟨i, hi, rfl⟩ := List.getElem_of_mem hx
      have := h i hi
      rw [Bool.and_eq_true] at this
      exact this.2
  · rintro ⟨h1, h2⟩ i hi
    rw [Nat.zero_add, Bool.and_eq_true, Bool.not_eq_true', decide_eq_false_iff_not]
    refine ⟨fun hm => ?_, h2 _ (List.getElem_mem hi)⟩
    obtain ⟨a, ha, e⟩ := List.mem_map.1 hm
    obtain ⟨j, hj, rfl⟩ := List.getElem_of_mem ha
    rw [List.length_take] at hj
    rw [List.getElem_take] at e
    exact h1 j i (by omega) hi (by omega) e
theorem rev_rule (ls : List Pl) (sn : List Ps) (n : Nat) : ruleP ls.reverse sn n = ruleP ls sn n := by
  have hm : ∀ a, a ∈ allP ls.reverse ↔ a ∈ allP ls := fun a => by simp only [allP, List.mem_flatMap, List.mem_reverse]
  unfold ruleP
  split
  · rw [Bool.eq_iff_iff, rule1_iff, rule1_iff, List.pairwise_reverse]
    refine and_congr ⟨fun h => h.imp (fun h => Ne.symm h), fun h => h.imp (fun h => Ne.symm h)⟩ ?_
    simp only [List.mem_reverse]
  · rw [List.all_reverse]
  · exact all_mem hm _
  · exact prP_mem hm _
  · exact all_mem hm _
  · exact all_mem hm _
  · exact prP_mem hm _
  · exact prP_mem hm _
  · exact prP_mem hm _
  · rename_i h1 h2 h3 h4 h5 h6 h7 h8 h9
    exact all_mem hm _
theorem check_rev (ls : List Pl) (sn : List Ps) : checkP ls.reverse sn = checkP ls sn := by
  unfold checkP
  rw [show ruleP ls.reverse sn = ruleP ls sn from funext fun n => rev_rule ls sn n]
theorem wasP_more (sn more : List Ps) (id : Nat) (V : Ev) (most : Int) (h : wasP sn id V most = true) : wasP (sn ++ more) id V most = true := by
  unfold wasP at h ⊢
  rw [List.any_append, h, Bool.true_or]
theorem more_rule (ls : List Pl) (sn more : List Ps) (n : Nat) (hn : 1 ≤ n) (hn2 : n ≤ 10) : (ruleP ls sn n = true → ruleP ls (sn ++ more) n = true) ∧ (n ≠ 5 → n ≠ 10 → ruleP ls (sn ++ more) n = ruleP ls sn n) := by
  have hk : n = 1 ∨ n = 2 ∨ n = 3 ∨ n = 4 ∨ n = 5 ∨ n = 6 ∨ n = 7 ∨ n = 8 ∨ n = 9 ∨ n = 10 := by omega
  rcases hk with rfl | rfl | rfl | rfl | rfl | rfl | rfl | rfl | rfl | rfl
  · exact ⟨fun h => h, fun _ _ => rfl⟩
  · exact ⟨fun h => h, fun _ _ => rfl⟩
  · exact ⟨fun h => h, fun _ _ => rfl⟩
  · exact ⟨fun h => h, fun _ _ => rfl⟩
  · refine ⟨fun h => ?_, fun h => absurd rfl h⟩
    have h1 : (allP ls).all (knP sn) = true := h
    show (allP ls).all (knP (sn ++ more)) = true
    rw [List.all_eq_true] at h1 ⊢
    intro d hd
    have h2 := h1 d hd
    unfold knP at h2 ⊢
    rw [List.all_eq_true] at h2 ⊢
    intro e he
    have h3 := h2 e he
    rw [Bool.and_eq_true] at h3 ⊢
    exact ⟨h3.1, wasP_more _ _ _ _ _ h3.2⟩
  · exact ⟨fun h => h, fun _ _ => rfl⟩
  · exact ⟨fun h => h, fun _ _ => rfl⟩
  · exact ⟨fun h => h, fun _ _ => rfl⟩
  · exact ⟨fun h => h, fun _ _ => rfl⟩
  · refine ⟨fun h => ?_, fun _ h => absurd rfl h⟩
    have h1 : (allP ls).all (behP sn) = true := h
    show (allP ls).all (behP (sn ++ more)) = true
    rw [List.all_eq_true] at h1 ⊢
    intro d hd
    have h2 := h1 d hd
    unfold behP at h2 ⊢
    rw [allN_iff] at h2 ⊢
    intro i hi
    exact wasP_more _ _ _ _ _ (h2 i hi)
theorem check_more (ls : List Pl) (sn more : List Ps) : checkP ls (sn ++ more) = checkP ls sn ∨ (checkP ls sn = 5 ∧ (checkP ls (sn ++ more) = 0 ∨ 5 < checkP ls (sn ++ more))) ∨ (checkP ls sn = 10 ∧ checkP ls (sn ++ more) = 0) := by
  have hm := more_rule ls sn more
  unfold checkP
  rcases fst_cases (ruleP ls sn) with ⟨h0, h1⟩ | ⟨h1, h2, h3, h4⟩
  · left
    rw [h0]
    exact fst_none (fun k hk1 hk2 => (hm k hk1 hk2).1 (h1 k hk1 hk2))
  · obtain ⟨x, hx⟩ : ∃ x, fstBad (ruleP ls sn) = x := ⟨_, rfl⟩
    rw [hx] at h1 h2 h3 h4 ⊢
    rcases fst_cases (ruleP ls (sn ++ more)) with ⟨g0, g1⟩ | ⟨g1, g2, g3, g4⟩
    · rw [g0]
      have := g1 x h1 h2
      by_cases e5 : x = 5
      · exact .inr (.inl ⟨e5, .inl rfl⟩)
      · by_cases e10 : x = 10
        · exact .inr (.inr ⟨e10, rfl⟩)
        · rw [(hm x h1 h2).2 e5 e10, h4] at this; cases this
    · obtain ⟨y, hy⟩ : ∃ y, fstBad (ruleP ls (sn ++ more)) = y := ⟨_, rfl⟩
      rw [hy] at g1 g2 g3 g4 ⊢
      rcases Nat.lt_trichotomy y x with hlt | rfl | hgt
      · have := (hm y g1 g2).1 (h3 y g1 hlt)
        rw [g4] at this; cases this
      · exact .inl rfl
      · have := g3 x h1 hgt
        by_cases e5 : x = 5
        · exact .inr (.inl ⟨e5, .inr (by omega)⟩)
        · by_cases e10 : x = 10
          · omega
          · rw [(hm x h1 h2).2 e5 e10, h4] at this; cases this
/-! ### What was told most -/
def ordS (id : Nat) (out : List Ev) (s : Pd) : List Ev := if s.x.id = id ∧ out.length < s.told.length then s.told else out
def ordF (L : List Pd) (id : Nat) : List Ev := L.foldl (ordS id) []
theorem ordF_spec (id : Nat) : ∀ (L : List Pd) (out : List Ev), out.length ≤ (L.foldl (ordS id) out).length ∧ (∀ s ∈ L, s.x.id = id → s.told.length ≤ (L.foldl (ordS id) out).length) ∧ (L.foldl (ordS id) out = out ∨ ∃ s ∈ L, s.x.id = id ∧ L.foldl (ordS id) out = s.told)
  | [], out => ⟨Nat.le_refl _, fun s h => absurd h List.not_mem_nil, .inl rfl⟩
  | a :: L, out => by
    obtain ⟨h1, h2, h3⟩ := ordF_spec id L (ordS id out a)
    have h4 : out.length ≤ (ordS id out a).length ∧ (a.x.id = id → a.told.length ≤ (ordS id out a).length) ∧ (ordS id out a = out ∨ (a.x.id = id ∧ ordS id out a = a.told)) := by
      unfold ordS
      by_cases h : a.x.id = id ∧ out.length < a.told.length
      · rw [if_pos h]; exact ⟨by omega, fun _ => Nat.le_refl _, .inr ⟨h.1, rfl⟩⟩
      · rw [if_neg h]; exact ⟨Nat.le_refl _, fun e => by have : ¬ out.length < a.told.length := fun h5 => h ⟨e, h5⟩
                                                         omega, .inl rfl⟩
    refine ⟨Nat.le_trans h4.1 h1, fun s hs e => ?_, ?_⟩
    · rcases List.mem_cons.1 hs with rfl | hs
      · exact Nat.le_trans (h4.2.1 e) h1
      · exact h2 s hs e
    · rcases h3 with h3 | ⟨s, hs, e, h5⟩
      · rcases h4.2.2 with h6 | ⟨h6, h7⟩
        · exact .inl (by show (L.foldl (ordS id) (ordS id out a)) = out; rw [h3, h6])
        · exact .inr ⟨a, List.mem_cons_self, h6, by show (L.foldl (ordS id) (ordS id out a)) = a.told; rw [h3, h7]⟩
      · exact .inr ⟨s, List.mem_cons_of_mem _ hs, e, h5⟩
theorem order_law {ls : List Pl} {sn : List Ps} (h0 : checkP ls sn = 0) {id : Nat} {s : Pd} (hs : s ∈ allP ls) (hid : s.x.id = id) : begD s.told (ordF (allP ls) id) = true := by
  obtain ⟨_, h2, h3⟩ := ordF_spec id (allP ls) []
  have hl := h2 s hs hid
  unfold ordF
  rcases h3 with h3 | ⟨a, ha, e, h3⟩
  · rw [h3] at hl ⊢
    have : s.told = [] := List.eq_nil_of_length_eq_zero (by simpa using hl)
    rw [this]; rfl
  · rw [h3] at hl ⊢
    have h7 : prP (allP ls) (fun a b => bgP a b || bgP b a) = true := check_zero h0 7 (by omega) (by omega)
    have := prP_iff.1 h7 s hs a ha (hid.trans e.symm)
    rw [Bool.or_eq_true] at this
    rcases this with h | h
    · exact h
    · unfold bgP at h
      rw [begD_iff] at h ⊢
      rw [List.IsPrefix.eq_of_length h (by have := h.length_le; omega)]
      exact List.prefix_refl _
end Go.Proofs.Ytbepaafgcbgmfaa
