/- Contracts of slices.Grow and slices.Concat over processes; the bounds stand in each. -/
import Derived.Lib.AppendZeros
import Derived.Test.YtmokecicjmjkbaaGy11
namespace Go.Proofs.Ytmokecicjmjkbaa
open Go.ChangeShapes Go.WideShapes Go.ChangeAt Go.RowKit Go.Maps
set_option linter.unusedVariables false
set_option linter.unusedSimpArgs false
set_option linter.unusedSectionVars false
theorem St.getMap {α β : Type} {P : Program} {k : TypeId} {ek : α → Value} {ev : β → Value} {b : Nat} {M : List (α × β)} {B : Nat} {w0 w : World} {L : List Res} (H : St B w0 w L) (h : mapr P k ek ev b M ∈ L) : MapAt P k ek ev b M w := H.get h
section
variable {P : Program} {a : Act} {w : World} {o : Oper} {N : Act → World → Prop}
/-- append of n zero elements onto nil. -/
theorem Stp.appz {B : Nat} {w0 : World} {L : List Res} {t tn e : TypeId} {kn k : IntKind} {z : Value} {size bytes n : Nat} {s x : Operand} (d : Tmp) (hd : o.dst = some d) (ho : o.op = .call { callee := .builtin .append, args := #[s, x], argTypes := #[t, tn] })
    (ht : P.underlying t = some (.slice e)) (htn : P.underlying tn = some (.int kn)) (hi : (P.info? e).map (fun i => (i.zero, i.size, i.bytes)) = some (some z, size, bytes)) (hzs : z.cells.size = size) (hsz : 0 < size) (hs : a.eval s = .slice none 0 0) (hx : a.eval x = .int k n) (H : St B w0 w L)
    (hn : 0 < n) (h63 : n ≤ maxLen) (hb : n * bytes ≤ 281474976710656) (h : ∀ g cap cs w', n ≤ cap → cap ≤ maxLen → cs.size = cap * size → St B w0 w' (row e g cs :: L) → N (a.put (some d) (.slice (some ⟨g, 0, none⟩) n cap)) w') : Stp P o a w N := by
  rw [← hd] at h
  obtain ⟨i, h1, h2, h3, h4⟩ := info_parts hi
  have hm : (n : Int) ≤ 9223372036854775807 := by unfold maxLen at h63; omega
  have hr := Lib.run_append_nil_zeros (P := P) w t tn o.type e i z k kn ht htn h1 h2 n hn (by omega) hm (by rw [h4]; exact hb)
  have hge := grownCap_ge w n 0 e
  refine ⟨_, .inl ⟨_, ?_, h w.heap.size (grownCap w n 0 e) (Builtin.zeroCells z.cells n ++ Builtin.zeroCells z.cells (grownCap w n 0 e - n)) _ hge (grownCap_le_maxLen w n 0 e h63) ?_ (H.drew.alloc _ _)⟩⟩
  · unfold execOp
    simp only [ho, resolve, invoke, builtin, Sem.run_bind, Sem.run_pure, Result.andThen_ok, List.map_toArray, List.map_cons, List.map_nil, hs, hx, hr]
  · rw [Array.size_append, size_zeroCells, size_zeroCells, hzs, ← Nat.add_mul]
    congr 1
    omega
end
set_option maxRecDepth 100000 in
theorem grow_ok (n : Nat) (hn : n ≤ 1000000) (w : World) :
    Calls Try.prog 137 #[.slice none 0 0, .int .i64 (n : Int)] w (Ret fun v w' => ∃ ap cp, v = .slice ap 0 cp ∧ w'.ownsRow w.heap.size 30 2 (.slice ap 0 cp) 0 [] ∧ Below w.heap.size w w') := by
  have H := St.init w
  by_cases h0 : n = 0
  · subst h0
    go_enter Try.func137, Try.ntmps137
    go_wp2_with fail
    go_ret
    exact ⟨_, rfl, none, 0, rfl, World.ownsRow_nil _ _ _ _, H.below⟩
  · have hni : (0 : Int) < (n : Int) := by omega
    go_enter Try.func137, Try.ntmps137
    go_wp2_with (first | (with_reducible refine wpl rfl (dQ 22 rfl ?_); with_reducible refine (Stp.appz 22 rfl rfl Try.underlying31 Try.underlying3 info30 rfl (by decide) rfl rfl H (by omega) (by unfold maxLen; omega) (by omega) ?_); clear H; intro g22 c22 cs22 w1 q1 q2 q3 H; have Q3 := Lib.hid q3; clear q3; simp only [pS]))
    go_ret
    exact ⟨_, rfl, _, _, rfl, (H.shut_slc (size := 2) (n := 0) (xs := []) Upd.head (Nat.zero_le _) q2 Q3.out (by simp)).getSlc List.mem_cons_self, H.below⟩
theorem flat_snoc {ls : List (List Pr)} {k : Nat} {l : List Pr} (h : ls.take (k + 1) = ls.take k ++ [l]) : (ls.take (k + 1)).flatten = (ls.take k).flatten ++ l := by rw [h, List.flatten_append]; simp
theorem pv_app (l m : List Pr) : pv l ++ pv m = pv (l ++ m) := by simp [pv]
set_option maxRecDepth 100000 in
set_option maxHeartbeats 2000000 in
theorem concat_ok {G : Nat → Prop} (v : Value) (ls : List (List Pr)) (h1 : ls.length ≤ 1000) (h2 : ∀ l ∈ ls, l.length ≤ 1000) (w : World) (hx : LvG G w v ls) :
    Calls Try.prog 113 #[v] w (Ret fun v' w' => ∃ ap cp, v' = .slice ap ls.flatten.length cp ∧ w'.ownsRow w.heap.size 30 2 (.slice ap ls.flatten.length cp) ls.flatten.length (pv ls.flatten) ∧ Below w.heap.size w w') := by
  have H := St.init w
  have hx' := hx
  obtain ⟨_, hs1, _⟩ := hx'
  obtain ⟨ad, c0, rfl, hm, _⟩ := hs1
  have HB := Lib.hid h2
  clear h2
  go_enter Try.func113, Try.ntmps113
  go_wp2_with (first | (with_reducible refine wpl rfl (ldQ (ty := 31) rfl ?_); first | (with_reducible refine (Stp.ldo rfl agg31 rfl H (by assumption) (by assumption) ?_); simp only [pS]) | (with_reducible refine (Stp.ldc rfl agg31 rfl H mR cE ?_); simp only [pS])))
  go_loopw [3, 11] (fun t i wr => ∃ k s : Nat, k ≤ ls.length ∧ i = .int .i64 (k : Int) ∧ t = .int .i64 (s : Int) ∧ Hid ((ls.take k).flatten.length = s) ∧ s ≤ 1000 * k ∧ St w.heap.size w wr []) (fun _ i _ => ls.length - (intOf i).toNat)
  case atStart => exact ⟨0, 0, Nat.zero_le _, rfl, rfl, Lib.hid rfl, Nat.le_refl _, H⟩
  case round =>
    clear H
    obtain ⟨k, s, hk, rfl, rfl, HS, hsk, H⟩ := hrel
    by_cases hlt : k < ls.length
    · obtain ⟨b1, o1, ak, ck, rfl, hbl, hc1, hs1⟩ := hx.at rfl hlt
      have hmm : ls[k] ∈ ls := List.getElem_mem hlt
      have hsn := flat_snoc (List.take_succ_eq_append_getElem hlt)
      obtain ⟨l, hl⟩ : ∃ l, ls[k] = l := ⟨_, rfl⟩
      rw [hl] at hc1 hs1 hmm hsn
      have hlb := HB.out l hmm
      have HSN := Lib.hid hsn
      have kli : (k : Int) < (ls.length : Int) := by omega
      clear hsn hmm hl
      go_wp2_with (first | (with_reducible refine wpl rfl (ldQ (ty := 31) rfl ?_); first | (with_reducible refine (Stp.ldo rfl agg31 rfl H (by assumption) (by assumption) ?_); simp only [pS]) | (with_reducible refine (Stp.ldc rfl agg31 rfl H mR cE ?_); simp only [pS])))
      go_roundw
      case rel => exact ⟨k + 1, s + l.length, by omega, by go_num, by go_num, Lib.hid (by rw [HSN.out, List.length_append, HS.out]), by omega, H⟩
      case measure => simp [intOf]; omega
    · obtain rfl : k = ls.length := by omega
      have hs := HS.out
      rw [List.take_length] at hs
      have HF := Lib.hid hs
      clear hs HS
      go_wp2_with (first | (go_at_call 137; (with_reducible refine (grow_ok s (by omega) _).mono ?_); rintro e w1 ⟨v, rfl, hr⟩; obtain ⟨a6, c6, rfl, ho, hb1⟩ := hr; replace H := H.new hb1 (slc_sound ho) (fun g hg => (ho.lt g hg).1); clear hb1 ho) | (with_reducible refine wpl rfl (ldQ (ty := 31) rfl ?_); first | (with_reducible refine (Stp.ldo rfl agg31 rfl H (by assumption) (by assumption) ?_); simp only [pS]) | (with_reducible refine (Stp.ldc rfl agg31 rfl H mR cE ?_); simp only [pS])))
      go_loopw [6, 27] (fun out i wr => ∃ (k q : Nat) (a : Option Addr) (c : Nat) (m : List Pr), k ≤ ls.length ∧ i = .int .i64 (k : Int) ∧ Hid ((ls.take k).flatten = m) ∧ Hid (m.length = q) ∧ q ≤ 1000 * k ∧ out = .slice a q c ∧ St w.heap.size w wr [slc 30 2 (.slice a q c) q (pv m)]) (fun _ i _ => ls.length - (intOf i).toNat)
      case atStart => exact ⟨0, 0, _, _, [], Nat.zero_le _, rfl, Lib.hid rfl, Lib.hid rfl, Nat.le_refl _, rfl, H⟩
      case round =>
        clear H
        obtain ⟨k, q, ao, co, m, hk, rfl, HM, HQ, hqk, rfl, H⟩ := hrel
        by_cases hlt : k < ls.length
        · obtain ⟨b1, o1, ak, ck, rfl, hbl, hc1, hs1⟩ := hx.at rfl hlt
          have hmm : ls[k] ∈ ls := List.getElem_mem hlt
          have hsn := flat_snoc (List.take_succ_eq_append_getElem hlt)
          obtain ⟨l, hl⟩ : ∃ l, ls[k] = l := ⟨_, rfl⟩
          rw [hl] at hc1 hs1 hmm hsn
          have hlb := HB.out l hmm
          have HSN := Lib.hid hsn
          have kli : (k : Int) < (ls.length : Int) := by omega
          clear hsn hmm hl
          go_wp2_with (first | (with_reducible refine wpl rfl (dQ 33 rfl ?_); with_reducible refine (Stp.apps 33 rfl rfl Try.underlying31 info30 rfl (by decide) rfl rfl H (fun _ => uP) (pv_len l) ((hs1.sl.grow H.below).srcN (fun i hi j hj => pv_get l i hi j hj) (pv_len l) (by omega)) (pv_one l) (by unfold maxLen; omega) (by omega) ?_); clear H; intro a33 c33 w1 H; simp only [pS]; rw [pv_app] at H) | (with_reducible refine wpl rfl (ldQ (ty := 31) rfl ?_); first | (with_reducible refine (Stp.ldo rfl agg31 rfl H (by assumption) (by assumption) ?_); simp only [pS]) | (with_reducible refine (Stp.ldc rfl agg31 rfl H mR cE ?_); simp only [pS])))
          go_roundw
          case rel => exact ⟨k + 1, q + l.length, _, _, m ++ l, by omega, by go_num, Lib.hid (by rw [HSN.out, HM.out]), Lib.hid (by rw [List.length_append, HQ.out]), by omega, rfl, H⟩
          case measure => simp [intOf]; omega
        · obtain rfl : k = ls.length := by omega
          go_wp2_with (first | (with_reducible refine wpl rfl (ldQ (ty := 31) rfl ?_); first | (with_reducible refine (Stp.ldo rfl agg31 rfl H (by assumption) (by assumption) ?_); simp only [pS]) | (with_reducible refine (Stp.ldc rfl agg31 rfl H mR cE ?_); simp only [pS])))
          go_ret
          have hm := HM.out
          rw [List.take_length] at hm
          rw [hm, HQ.out]
          exact ⟨_, rfl, _, _, rfl, H.getSlc mE, H.below⟩
theorem us_none {l : List Pr} {p : Pr} : mget ((dd l).map fun p => (p, ())) p = none ↔ p ∉ dd l := by
  rw [mget_none]
  simp only [List.mem_map]
  constructor
  · rintro h hp; exact h _ ⟨p, hp, rfl⟩ rfl
  · rintro h q ⟨x, hx, rfl⟩ e; exact h (e ▸ hx)
theorem us_put (l : List Pr) (p : Pr) : (if p ∈ dd l then (dd l).map fun p => (p, ()) else mput ((dd l).map fun p => (p, ())) p ()) = (dd (l ++ [p])).map fun p => (p, ()) := by
  rw [dd_snoc]
  by_cases h : p ∈ dd l
  · rw [if_pos h, if_pos h]
  · rw [if_neg h, if_neg h, mput_new (us_none.2 h), List.map_append]; rfl
theorem run_len_map {α β : Type} {P : Program} {k t e : TypeId} {ek : α → Value} {ev : β → Value} {w : World} {b : Nat} {M : List (α × β)} (h : MapAt P k ek ev b M w) (ht : P.underlying t = some (.map k e)) (ty : TypeId) : (Builtin.len_ #[t] ty #[.map (some b)]).run P w = .ok (.int .i64 (M.length : Int)) w := by
  obtain ⟨es, clock, hb, _, he, _⟩ := h
  have : es.size = M.length := by
    have := congrArg List.length he
    simpa using this
  simp [Builtin.len_, run_underlying ht, MapKept.run_getObj_map hb, goInt, Result.andThen, this]
section
variable {α β : Type} [DecidableEq α] {P : Program} {ops : Array Oper} {k e t : TypeId} {ek : α → Value} {ev : β → Value} {a : Act} {w : World} {o : Oper} {N : Act → World → Prop} {M : List (α × β)} {b : Nat} {x y : Operand} {q : α} {l : Lit}
theorem Stp.lenmapF (ho : o.op = .call { callee := .builtin .len, args := #[x], argTypes := #[t] }) (ht : P.underlying t = some (.map k e)) (hx : a.eval x = .map (some b)) (hm : MapAt P k ek ev b M w) (h : N (a.put o.dst (.int .i64 (M.length : Int))) w) : Stp P o a w N := by
  refine ⟨w, .inl ⟨_, ?_, h⟩⟩
  unfold execOp
  simp only [ho, resolve, invoke, builtin, Sem.run_bind, Sem.run_pure, Result.andThen_ok, List.map_toArray, List.map_cons, List.map_nil, hx, run_len_map hm ht]
theorem Yld.lookokF {w0 : World} {L : List Res} (hw : Region.wanted o (yielded ops a.tmps) = true) (ho : o.op = .lookup t x y true) (K : Keyed P k) (hi : ∀ x y, ek x = ek y → x = y) (ht : P.underlying t = some (.map k e)) {z : Value} (hz : ∀ W : World, (zeroValue e).run P W = .ok z W) (hx : a.eval x = .map (some b)) (hy : a.eval y = ek q) (ha : keyOf P k (ek q) = some l)
    (hm : MapAt P k ek ev b M w0) : YieldsIf P ops (fun W => St w0.heap.size w0 W L) o (.tuple #[((mget M q).map ev).getD z, .bool (mget M q).isSome]) a :=
  .inl ⟨hw, fun W H => by
    unfold execOp; simp only [ho, hx, hy]
    simp [run_look true K hi ht (hz W) (hm.grow H.below) ha]⟩
end
set_option maxRecDepth 100000 in
set_option maxHeartbeats 2000000 in
theorem phas_ok (g0 gm : Nat) (M : List (Pr × Unit)) (p : Pr) (p1 : p.1 < 65536) (p2 : p.2 < 4294967296) (w : World) (hg : w.heap[g0]? = some (.cells #[.map (some gm)] 186 (0, 0))) (hM : MapAt Try.prog 30 ekP evU gm M w) :
    Calls Try.prog 143 #[.pointer (some ⟨g0, 0, none⟩), ekP p] w (Ret fun v w' => v = .bool (mget M p).isSome ∧ Below w.heap.size w w') := by
  have H := St.init w
  have hc : w.cell? ⟨g0, 0, none⟩ = some (.map (some gm)) := by rw [cell_of_rowAt (rowAt_of hg)]; rfl
  have hlt : g0 < w.heap.size := rowAt_lt (rowAt_of hg)
  clear hg
  obtain ⟨kl, hkl⟩ := keyP p p1 p2
  have HK := Lib.hid hkl
  clear hkl
  cases hgt : mget M p with
  | none =>
    have HG := Lib.hid hgt
    clear hgt
    go_enter Try.func143, Try.ntmps143
    go_wp2_with (first | (with_reducible refine wpl rfl (dQ 3 rfl ?_); with_reducible refine (Stp.box 3 rfl rfl rfl H ?_); clear H; intro g3 w1 H; simp only [pS]; simp only [pE, nC, pS] at H))
    refine rg_begin 12 rfl (S := fun W => St _ _ W [row 30 g3 #[.int .u16 (p.1 : Int), .int .u32 (p.2 : Int)]]) (by kernel_rfl) (H.drew.sub sU) ?_
    replace H := H.drew
    have HS := H
    refine rg_take (i := 0) rfl kR kR kR (Yld.move rfl rfl) (H.sub sU) ?_; simp only [pS, pE]
    refine rg_take (i := 1) rfl kR kR kR (Yld.o rfl) (H.sub sU) ?_; simp only [pS]
    refine rg_take (i := 2) rfl kR kR kR (Yld.o rfl) (H.sub sU) ?_; simp only [pS]
    first | (refine rg_take (i := 3) rfl kR kR kR (Yld.ldo rfl rfl agg184 rfl (by assumption) (by assumption)) (H.sub sU) ?_; simp only [pS]) | (refine rg_take (i := 3) rfl kR kR kR (Yld.ldc rfl rfl agg184 rfl mR cE) (H.sub sU) ?_; simp only [pS])
    first | (refine rg_take (i := 4) rfl kR kR kR (Yld.ldor rfl rfl agg30 size30 rfl (by assumption) sZ (by assumption)) (H.sub sU) ?_; simp only [pS]) | (refine rg_take (i := 4) rfl kR kR kR (Yld.ldr rfl rfl agg30 size30 rfl mR sZ) (H.sub sU) ?_; simp only [pS]) | (refine rg_take (i := 4) rfl kR kR kR (Yld.ldl rfl rfl agg30 size30 rfl mR (by simp)) (H.sub sU) ?_; simp only [pS]; simp only [List.drop_succ_cons, List.drop_zero, List.take_succ_cons, List.take_zero])
    refine rg_take (i := 5) rfl kR kR kR (Yld.lookokF (k := 30) (e := 182) (ek := ekP) (ev := evU) (M := M) (q := p) rfl rfl keyedP ekP_inj Try.underlying184 mz182 rfl rfl HK.out hM) (H.sub sU) ?_; simp only [pS, pE]
    refine rg_take (i := 6) rfl kR kR kR (Yld.move rfl rfl) (H.sub sU) ?_; simp only [pS, pE]
    refine rg_take (i := 7) rfl kR kR kR (Yld.o rfl) (H.sub sU) ?_; simp only [pS]
    refine rg_take (i := 8) rfl kR kR kR (Yld.o rfl) (H.sub sU) ?_; simp only [pS]
    refine rg_one (i := 9) (by kernel_rfl) rfl rfl (fun K hK => ?_)
    simp only [HG.out, Option.map_none, Option.map_some, Option.getD_none, Option.getD_some, Option.isSome_none, Option.isSome_some]
    refine Stp.wp (Stp.alloc 5 rfl rfl zero182 H ?_)
    clear H
    intro g5 w1 H
    simp only [cells_agg] at H
    clear HS
    have HS := H
    refine hK.out _ _ (H.sub sU) ?_
    clear hK K
    simp only [pS]
    refine rg_one (i := 10) (by kernel_rfl) rfl rfl (fun K hK => ?_)
    refine Stp.wp (Stp.str (ds := #[]) rfl size182 rfl rfl (by simp) H uP rfl rfl ?_)
    clear H
    intro w1 H
    clear HS
    have HS := H
    refine hK.out _ _ (H.sub sU) ?_
    clear hK K
    simp only [pS]
    refine rg_take (i := 11) rfl kR kR kR (Yld.assign rfl rfl) (H.sub sU) ?_; simp only [pS, pE]
    refine rg_done (by kernel_rfl) ?_
    go_wp2_with (first | (with_reducible refine wpl rfl (dQ 3 rfl ?_); with_reducible refine (Stp.box 3 rfl rfl rfl H ?_); clear H; intro g3 w1 H; simp only [pS]; simp only [pE, nC, pS] at H))
    go_ret
    exact ⟨_, rfl, rfl, H.below⟩
  | some u =>
    have HG := Lib.hid hgt
    clear hgt
    go_enter Try.func143, Try.ntmps143
    go_wp2_with (first | (with_reducible refine wpl rfl (dQ 3 rfl ?_); with_reducible refine (Stp.box 3 rfl rfl rfl H ?_); clear H; intro g3 w1 H; simp only [pS]; simp only [pE, nC, pS] at H))
    refine rg_begin 12 rfl (S := fun W => St _ _ W [row 30 g3 #[.int .u16 (p.1 : Int), .int .u32 (p.2 : Int)]]) (by kernel_rfl) (H.drew.sub sU) ?_
    replace H := H.drew
    have HS := H
    refine rg_take (i := 0) rfl kR kR kR (Yld.move rfl rfl) (H.sub sU) ?_; simp only [pS, pE]
    refine rg_take (i := 1) rfl kR kR kR (Yld.o rfl) (H.sub sU) ?_; simp only [pS]
    refine rg_take (i := 2) rfl kR kR kR (Yld.o rfl) (H.sub sU) ?_; simp only [pS]
    first | (refine rg_take (i := 3) rfl kR kR kR (Yld.ldo rfl rfl agg184 rfl (by assumption) (by assumption)) (H.sub sU) ?_; simp only [pS]) | (refine rg_take (i := 3) rfl kR kR kR (Yld.ldc rfl rfl agg184 rfl mR cE) (H.sub sU) ?_; simp only [pS])
    first | (refine rg_take (i := 4) rfl kR kR kR (Yld.ldor rfl rfl agg30 size30 rfl (by assumption) sZ (by assumption)) (H.sub sU) ?_; simp only [pS]) | (refine rg_take (i := 4) rfl kR kR kR (Yld.ldr rfl rfl agg30 size30 rfl mR sZ) (H.sub sU) ?_; simp only [pS]) | (refine rg_take (i := 4) rfl kR kR kR (Yld.ldl rfl rfl agg30 size30 rfl mR (by simp)) (H.sub sU) ?_; simp only [pS]; simp only [List.drop_succ_cons, List.drop_zero, List.take_succ_cons, List.take_zero])
    refine rg_take (i := 5) rfl kR kR kR (Yld.lookokF (k := 30) (e := 182) (ek := ekP) (ev := evU) (M := M) (q := p) rfl rfl keyedP ekP_inj Try.underlying184 mz182 rfl rfl HK.out hM) (H.sub sU) ?_; simp only [pS, pE]
    refine rg_take (i := 6) rfl kR kR kR (Yld.move rfl rfl) (H.sub sU) ?_; simp only [pS, pE]
    refine rg_take (i := 7) rfl kR kR kR (Yld.o rfl) (H.sub sU) ?_; simp only [pS]
    refine rg_take (i := 8) rfl kR kR kR (Yld.o rfl) (H.sub sU) ?_; simp only [pS]
    refine rg_one (i := 9) (by kernel_rfl) rfl rfl (fun K hK => ?_)
    simp only [HG.out, Option.map_none, Option.map_some, Option.getD_none, Option.getD_some, Option.isSome_none, Option.isSome_some]
    refine Stp.wp (Stp.alloc 5 rfl rfl zero182 H ?_)
    clear H
    intro g5 w1 H
    simp only [cells_agg] at H
    clear HS
    have HS := H
    refine hK.out _ _ (H.sub sU) ?_
    clear hK K
    simp only [pS]
    refine rg_one (i := 10) (by kernel_rfl) rfl rfl (fun K hK => ?_)
    refine Stp.wp (Stp.str (ds := #[]) rfl size182 rfl rfl (by simp) H uP rfl rfl ?_)
    clear H
    intro w1 H
    clear HS
    have HS := H
    refine hK.out _ _ (H.sub sU) ?_
    clear hK K
    simp only [pS]
    refine rg_take (i := 11) rfl kR kR kR (Yld.assign rfl rfl) (H.sub sU) ?_; simp only [pS, pE]
    refine rg_done (by kernel_rfl) ?_
    go_wp2_with (first | (with_reducible refine wpl rfl (dQ 3 rfl ?_); with_reducible refine (Stp.box 3 rfl rfl rfl H ?_); clear H; intro g3 w1 H; simp only [pS]; simp only [pE, nC, pS] at H))
    go_ret
    exact ⟨_, rfl, rfl, H.below⟩
set_option maxRecDepth 100000 in
set_option maxHeartbeats 2000000 in
theorem padd_ok {B : Nat} {w0 : World} {L : List Res} (g0 gm : Nat) (M M' : List (Pr × Unit)) (p : Pr) (p1 : p.1 < 65536) (p2 : p.2 < 4294967296) (hM' : M' = if (mget M p).isSome then M else mput M p ()) (w : World) (H : St B w0 w (row 186 g0 #[.map (some gm)] :: mapr Try.prog 30 ekP evU gm M :: L)) :
    Calls Try.prog 142 #[.pointer (some ⟨g0, 0, none⟩), ekP p] w (Ret fun v w' => (∃ b, v = .bool b) ∧ St B w0 w' (row 186 g0 #[.map (some gm)] :: mapr Try.prog 30 ekP evU gm M' :: L)) := by
  obtain ⟨kl, hkl⟩ := keyP p p1 p2
  have HK := Lib.hid hkl
  clear hkl
  cases hgt : mget M p with
  | some u =>
    have HG := Lib.hid hgt
    rw [hgt] at hM'
    have e : M = M' := hM'.symm
    subst e
    clear hgt hM'
    go_enter Try.func142, Try.ntmps142
    go_wp2_with (first | (go_at_call 143; (with_reducible refine (phas_ok g0 gm M p p1 p2 _ (H.getHeap mE) (H.getMap mE)).mono ?_); rintro e w1 ⟨v, rfl, hr⟩; rw [HG.out] at hr; simp only [Option.isSome_some, Option.isSome_none] at hr; obtain ⟨rfl, hb1⟩ := hr; replace H := H.grow hb1; clear hb1) | (with_reducible refine wpl rfl (dQ 3 rfl ?_); with_reducible refine (Stp.box 3 rfl rfl rfl H ?_); clear H; intro g3 w1 H; simp only [pS]; simp only [pE, nC, pS] at H) | (with_reducible refine wpl rfl (ldQ (ty := 30) rfl ?_); first | (with_reducible refine (Stp.ldor rfl agg30 size30 rfl H (by assumption) sZ (by assumption) ?_); simp only [pS]) | (with_reducible refine (Stp.ldr rfl agg30 size30 rfl H mR sZ ?_); simp only [pS]) | (with_reducible refine (Stp.ldl rfl agg30 size30 rfl H mR (by simp) ?_); simp only [pS]; simp only [List.drop_succ_cons, List.drop_zero, List.take_succ_cons, List.take_zero])))
    go_ret
    exact ⟨_, rfl, ⟨_, rfl⟩, H.sub sU⟩
  | none =>
    have HG := Lib.hid hgt
    rw [hgt] at hM'
    have e : M' = mput M p () := hM'
    subst e
    clear hgt hM'
    go_enter Try.func142, Try.ntmps142
    go_wp2_with (first | (go_at_call 143; (with_reducible refine (phas_ok g0 gm M p p1 p2 _ (H.getHeap mE) (H.getMap mE)).mono ?_); rintro e w1 ⟨v, rfl, hr⟩; rw [HG.out] at hr; simp only [Option.isSome_some, Option.isSome_none] at hr; obtain ⟨rfl, hb1⟩ := hr; replace H := H.grow hb1; clear hb1) | (with_reducible refine wpl rfl (dQ 3 rfl ?_); with_reducible refine (Stp.box 3 rfl rfl rfl H ?_); clear H; intro g3 w1 H; simp only [pS]; simp only [pE, nC, pS] at H) | (with_reducible refine wpl rfl (ldQ (ty := 30) rfl ?_); first | (with_reducible refine (Stp.ldor rfl agg30 size30 rfl H (by assumption) sZ (by assumption) ?_); simp only [pS]) | (with_reducible refine (Stp.ldr rfl agg30 size30 rfl H mR sZ ?_); simp only [pS]) | (with_reducible refine (Stp.ldl rfl agg30 size30 rfl H mR (by simp) ?_); simp only [pS]; simp only [List.drop_succ_cons, List.drop_zero, List.take_succ_cons, List.take_zero])))
    refine rg_begin 7 rfl (S := fun W => St _ _ W [row 30 g3 #[.int .u16 (p.1 : Int), .int .u32 (p.2 : Int)], row 186 g0 #[.map (some gm)]]) (by kernel_rfl) (H.drew.sub sU) ?_
    replace H := H.drew
    have HS := H
    refine rg_take (i := 0) rfl kR kR kR (Yld.move rfl rfl) (H.sub sU) ?_; simp only [pS, pE]
    refine rg_take (i := 1) rfl kR kR kR (Yld.o rfl) (H.sub sU) ?_; simp only [pS]
    refine rg_take (i := 2) rfl kR kR kR (Yld.o rfl) (H.sub sU) ?_; simp only [pS]
    first | (refine rg_take (i := 3) rfl kR kR kR (Yld.ldo rfl rfl agg184 rfl (by assumption) (by assumption)) (H.sub sU) ?_; simp only [pS]) | (refine rg_take (i := 3) rfl kR kR kR (Yld.ldc rfl rfl agg184 rfl mR cE) (H.sub sU) ?_; simp only [pS])
    first | (refine rg_take (i := 4) rfl kR kR kR (Yld.ldor rfl rfl agg30 size30 rfl (by assumption) sZ (by assumption)) (H.sub sU) ?_; simp only [pS]) | (refine rg_take (i := 4) rfl kR kR kR (Yld.ldr rfl rfl agg30 size30 rfl mR sZ) (H.sub sU) ?_; simp only [pS]) | (refine rg_take (i := 4) rfl kR kR kR (Yld.ldl rfl rfl agg30 size30 rfl mR (by simp)) (H.sub sU) ?_; simp only [pS]; simp only [List.drop_succ_cons, List.drop_zero, List.take_succ_cons, List.take_zero])
    refine rg_take (i := 5) rfl kR kR kR (Yld.of (v := .agg #[]) rfl (fun W _ => by kernel_rfl)) (H.sub sU) ?_; simp only [pS, pE]
    refine rg_one (i := 6) (by kernel_rfl) rfl rfl (fun K hK => ?_)
    refine Stp.wp (Stp.mapup (k := 30) (e := 182) (ek := ekP) (ev := evU) (M := M) (q := p) (v := ()) rfl keyedP ekP_inj Try.underlying184 rfl rfl rfl HK.out H uP ?_)
    clear H
    intro w1 H
    clear HS
    have HS := H
    refine hK.out _ _ (H.sub sU) ?_
    clear hK K
    simp only [pS]
    refine rg_done (by kernel_rfl) ?_
    go_wp2_with (first | (with_reducible refine wpl rfl (dQ 3 rfl ?_); with_reducible refine (Stp.box 3 rfl rfl rfl H ?_); clear H; intro g3 w1 H; simp only [pS]; simp only [pE, nC, pS] at H) | (with_reducible refine wpl rfl (ldQ (ty := 30) rfl ?_); first | (with_reducible refine (Stp.ldor rfl agg30 size30 rfl H (by assumption) sZ (by assumption) ?_); simp only [pS]) | (with_reducible refine (Stp.ldr rfl agg30 size30 rfl H mR sZ ?_); simp only [pS]) | (with_reducible refine (Stp.ldl rfl agg30 size30 rfl H mR (by simp) ?_); simp only [pS]; simp only [List.drop_succ_cons, List.drop_zero, List.take_succ_cons, List.take_zero])))
    go_ret
    exact ⟨_, rfl, ⟨_, rfl⟩, H.sub sU⟩
set_option maxRecDepth 100000 in
set_option maxHeartbeats 2000000 in
theorem punion_ok {B : Nat} {w0 : World} {L : List Res} (g0 gm : Nat) (v : Value) (m : List Pr) (hw : okPids m) (hm : m.length ≤ 1000000) (hs : Rd B w0 L fun W => Sl W 2 m.length v (elQ m)) (w : World) (H : St B w0 w (row 186 g0 #[.map (some gm)] :: mapr Try.prog 30 ekP evU gm [] :: L)) :
    Calls Try.prog 136 #[.pointer (some ⟨g0, 0, none⟩), v] w (Ret fun v w' => (∃ n : Int, v = .int .i64 n) ∧ St B w0 w' (row 186 g0 #[.map (some gm)] :: mapr Try.prog 30 ekP evU gm ((dd m).map fun p => (p, ())) :: L)) := by
  have hs' := hs.at H (.cons _ (.cons _ (List.Sublist.refl _)))
  obtain ⟨ad, c0, rfl, hmm, _⟩ := hs'
  have HW := Lib.hid hw
  clear hw
  go_enter Try.func136, Try.ntmps136
  go_wp2_with (first | (with_reducible refine wpl rfl (ldQ (ty := 30) rfl ?_); first | (with_reducible refine (Stp.ldor rfl agg30 size30 rfl H (by assumption) sZ (by assumption) ?_); simp only [pS]) | (with_reducible refine (Stp.ldr rfl agg30 size30 rfl H mR sZ ?_); simp only [pS]) | (with_reducible refine (Stp.ldl rfl agg30 size30 rfl H mR (by simp) ?_); simp only [pS]; simp only [List.drop_succ_cons, List.drop_zero, List.take_succ_cons, List.take_zero])) | (with_reducible refine wpl rfl (dQ 7 rfl ?_); with_reducible refine (Stp.alloc 7 rfl rfl zero30 H ?_); clear H; intro g7 w1 H; simp only [pS]; simp only [nC] at H) | (with_reducible refine wpl rfl (stQ (ty := 30) rfl ?_); first | (with_reducible refine (Stp.str rfl size30 rfl rfl (by first | rfl | (simp [Value.oneCell']; done) | assumption) H uP sZ sZ ?_); clear H; intro w1 H; simp only [pS]) | (with_reducible refine (Stp.stl rfl size30 rfl rfl rfl rfl H uP (by simp) ?_); clear H; intro w1 H; simp only [pS]; simp only [List.drop_succ_cons, List.drop_zero, List.take_succ_cons, List.take_zero, List.nil_append, List.cons_append, Nat.reduceAdd] at H)))
  go_loopw [5, 10] (fun t i wr => ∃ (k : Nat) (n : Int), k ≤ m.length ∧ i = .int .i64 (k : Int) ∧ t = .int .i64 n ∧ St B w0 wr (row 186 g0 #[.map (some gm)] :: mapr Try.prog 30 ekP evU gm ((dd (m.take k)).map fun p => (p, ())) :: L)) (fun _ i _ => m.length - (intOf i).toNat)
  case atStart => exact ⟨0, 0, Nat.zero_le _, rfl, rfl, H⟩
  case round =>
    clear H
    obtain ⟨k, n, hk, rfl, rfl, H⟩ := hrel
    by_cases hlt : k < m.length
    · have hsk := hs.at H (.cons _ (.cons _ (List.Sublist.refl _)))
      obtain ⟨b1, o1, rfl, hb1⟩ := hsk.addr (by omega)
      have hc1 := hsk.cell hlt
      unfold elQ at hc1
      rw [getD_at hlt] at hc1
      have hmem : m[k] ∈ m := List.getElem_mem hlt
      have hsn := List.take_succ_eq_append_getElem hlt
      obtain ⟨p, hp⟩ : ∃ p, m[k] = p := ⟨_, rfl⟩
      rw [hp] at hc1 hmem hsn
      obtain ⟨p1, p2⟩ := HW.out p hmem
      have HC := Lib.hid hc1
      have hpt : (dd (m.take (k + 1))).map (fun p => (p, ())) = if (mget ((dd (m.take k)).map fun p => (p, ())) p).isSome then (dd (m.take k)).map (fun p => (p, ())) else mput ((dd (m.take k)).map fun p => (p, ())) p () := by
        rw [hsn, ← us_put]
        by_cases h : p ∈ dd (m.take k)
        · rw [if_pos h]
          cases hg : mget ((dd (m.take k)).map fun p => (p, ())) p with
          | none => exact absurd h (us_none.1 hg)
          | some u => rfl
        · rw [if_neg h, us_none.2 h]; rfl
      have HP := Lib.hid hpt
      have kli : (k : Int) < (m.length : Int) := by omega
      clear hc1 hsn hmem hp hpt hsk
      go_wp2_with (first | (with_reducible refine wpl rfl (Stp.ldq (cs := #[.int .u16 (p.1 : Int), .int .u32 (p.2 : Int)]) rfl agg30 size30 rfl (fun j hj => HC.out j hj) rfl ?_); simp only [pS]) | (with_reducible refine wpl rfl (ldQ (ty := 30) rfl ?_); first | (with_reducible refine (Stp.ldor rfl agg30 size30 rfl H (by assumption) sZ (by assumption) ?_); simp only [pS]) | (with_reducible refine (Stp.ldr rfl agg30 size30 rfl H mR sZ ?_); simp only [pS]) | (with_reducible refine (Stp.ldl rfl agg30 size30 rfl H mR (by simp) ?_); simp only [pS]; simp only [List.drop_succ_cons, List.drop_zero, List.take_succ_cons, List.take_zero])) | (with_reducible refine wpl rfl (dQ 7 rfl ?_); with_reducible refine (Stp.alloc 7 rfl rfl zero30 H ?_); clear H; intro g7 w1 H; simp only [pS]; simp only [nC] at H) | (with_reducible refine wpl rfl (stQ (ty := 30) rfl ?_); first | (with_reducible refine (Stp.str rfl size30 rfl rfl (by first | rfl | (simp [Value.oneCell']; done) | assumption) H uP sZ sZ ?_); clear H; intro w1 H; simp only [pS]) | (with_reducible refine (Stp.stl rfl size30 rfl rfl rfl rfl H uP (by simp) ?_); clear H; intro w1 H; simp only [pS]; simp only [List.drop_succ_cons, List.drop_zero, List.take_succ_cons, List.take_zero, List.nil_append, List.cons_append, Nat.reduceAdd] at H)))
      refine (padd_ok g0 gm _ _ p p1 p2 HP.out _ (H.perm (List.perm_append_comm (l₁ := [_]) (l₂ := _ :: _ :: L)))).mono ?_
      rintro e w1 ⟨v, rfl, ⟨b, rfl⟩, H2⟩
      clear H
      have H := H2.sub (L' := row 186 g0 #[.map (some gm)] :: mapr Try.prog 30 ekP evU gm ((dd (m.take (k + 1))).map fun p => (p, ())) :: L) (.cons_cons _ (.cons_cons _ (List.sublist_append_left _ _)))
      clear H2
      cases b
      all_goals
        go_wp2_with (first | (with_reducible refine wpl rfl (ldQ (ty := 30) rfl ?_); first | (with_reducible refine (Stp.ldor rfl agg30 size30 rfl H (by assumption) sZ (by assumption) ?_); simp only [pS]) | (with_reducible refine (Stp.ldr rfl agg30 size30 rfl H mR sZ ?_); simp only [pS]) | (with_reducible refine (Stp.ldl rfl agg30 size30 rfl H mR (by simp) ?_); simp only [pS]; simp only [List.drop_succ_cons, List.drop_zero, List.take_succ_cons, List.take_zero])) | (with_reducible refine wpl rfl (dQ 7 rfl ?_); with_reducible refine (Stp.alloc 7 rfl rfl zero30 H ?_); clear H; intro g7 w1 H; simp only [pS]; simp only [nC] at H) | (with_reducible refine wpl rfl (stQ (ty := 30) rfl ?_); first | (with_reducible refine (Stp.str rfl size30 rfl rfl (by first | rfl | (simp [Value.oneCell']; done) | assumption) H uP sZ sZ ?_); clear H; intro w1 H; simp only [pS]) | (with_reducible refine (Stp.stl rfl size30 rfl rfl rfl rfl H uP (by simp) ?_); clear H; intro w1 H; simp only [pS]; simp only [List.drop_succ_cons, List.drop_zero, List.take_succ_cons, List.take_zero, List.nil_append, List.cons_append, Nat.reduceAdd] at H)))
        go_roundw
        case rel => exact ⟨k + 1, _, by omega, by go_num, rfl, H⟩
        case measure => simp [intOf]; omega
    · obtain rfl : k = m.length := by omega
      rw [List.take_length] at H
      go_wp2_with (first | (with_reducible refine wpl rfl (ldQ (ty := 30) rfl ?_); first | (with_reducible refine (Stp.ldor rfl agg30 size30 rfl H (by assumption) sZ (by assumption) ?_); simp only [pS]) | (with_reducible refine (Stp.ldr rfl agg30 size30 rfl H mR sZ ?_); simp only [pS]) | (with_reducible refine (Stp.ldl rfl agg30 size30 rfl H mR (by simp) ?_); simp only [pS]; simp only [List.drop_succ_cons, List.drop_zero, List.take_succ_cons, List.take_zero])) | (with_reducible refine wpl rfl (dQ 7 rfl ?_); with_reducible refine (Stp.alloc 7 rfl rfl zero30 H ?_); clear H; intro g7 w1 H; simp only [pS]; simp only [nC] at H) | (with_reducible refine wpl rfl (stQ (ty := 30) rfl ?_); first | (with_reducible refine (Stp.str rfl size30 rfl rfl (by first | rfl | (simp [Value.oneCell']; done) | assumption) H uP sZ sZ ?_); clear H; intro w1 H; simp only [pS]) | (with_reducible refine (Stp.stl rfl size30 rfl rfl rfl rfl H uP (by simp) ?_); clear H; intro w1 H; simp only [pS]; simp only [List.drop_succ_cons, List.drop_zero, List.take_succ_cons, List.take_zero, List.nil_append, List.cons_append, Nat.reduceAdd] at H)))
      go_ret
      exact ⟨_, rfl, ⟨_, rfl⟩, H⟩
set_option maxRecDepth 100000 in
theorem pnew_ok (v : Value) (m : List Pr) (hw : okPids m) (hm : m.length ≤ 1000000) (w : World) (hs : Sl w 2 m.length v (elQ m)) :
    Calls Try.prog 112 #[v] w (Ret fun v' w' => ∃ g0 gm, v' = .pointer (some ⟨g0, 0, none⟩) ∧ w'.heap[g0]? = some (.cells #[.map (some gm)] 186 (0, 0)) ∧ MapAt Try.prog 30 ekP evU gm ((dd m).map fun p => (p, ())) w' ∧ Below w.heap.size w w') := by
  have H := St.init w
  have hs' := hs
  obtain ⟨ad, c0, rfl, hmm, _⟩ := hs'
  go_enter Try.func112, Try.ntmps112
  go_wp2_with (first | (with_reducible refine wpl rfl (Stp.mkmap 30 ekP evU 4 rfl rfl H ?_); clear H; intro g4 w1 H; simp only [pS]) | (with_reducible refine wpl rfl (dQ 5 rfl ?_); with_reducible refine (Stp.build (v := (.agg #[.map (some g4)])) 5 rfl rfl (fun W => by kernel_rfl) ?_); simp only [pS]) | (with_reducible refine wpl rfl (dQ 6 rfl ?_); with_reducible refine (Stp.box 6 rfl rfl rfl H ?_); clear H; intro g6 w1 H; simp only [pS]; simp only [pE, nC, pS] at H))
  refine (punion_ok g6 g4 _ m hw hm (Rd.of_old hs) _ H).mono ?_
  rintro e w1 ⟨v, rfl, ⟨n, rfl⟩, H2⟩
  clear H
  have H := H2
  clear H2
  go_wp2_with (first | (with_reducible refine wpl rfl (dQ 6 rfl ?_); with_reducible refine (Stp.box 6 rfl rfl rfl H ?_); clear H; intro g6 w1 H; simp only [pS]; simp only [pE, nC, pS] at H))
  go_ret
  exact ⟨_, rfl, g6, g4, rfl, H.getHeap mE, H.getMap mE, H.below⟩
set_option maxRecDepth 100000 in
theorem plen_ok (g0 gm n : Nat) (M : List (Pr × Unit)) (hn : M.length = n) (w : World) (hg : w.heap[g0]? = some (.cells #[.map (some gm)] 186 (0, 0))) (hM : MapAt Try.prog 30 ekP evU gm M w) :
    Calls Try.prog 114 #[.pointer (some ⟨g0, 0, none⟩)] w (Ret fun v w' => v = .int .i64 (n : Int) ∧ Below w.heap.size w w') := by
  subst hn
  have H := St.init w
  have hc : w.cell? ⟨g0, 0, none⟩ = some (.map (some gm)) := by rw [cell_of_rowAt (rowAt_of hg)]; rfl
  have hlt : g0 < w.heap.size := rowAt_lt (rowAt_of hg)
  clear hg
  go_enter Try.func114, Try.ntmps114
  go_wp2_with (first | (with_reducible refine wpl rfl (Stp.lenmapF (k := 30) (e := 182) (ek := ekP) (ev := evU) (M := M) rfl Try.underlying184 rfl (hM.grow H.below) ?_); simp only [pS]) | (with_reducible refine wpl rfl (ldQ (ty := 184) rfl ?_); first | (with_reducible refine (Stp.ldo rfl agg184 rfl H (by assumption) (by assumption) ?_); simp only [pS]) | (with_reducible refine (Stp.ldc rfl agg184 rfl H mR cE ?_); simp only [pS])))
  go_ret
  exact ⟨_, rfl, rfl, H.below⟩
end Go.Proofs.Ytmokecicjmjkbaa
