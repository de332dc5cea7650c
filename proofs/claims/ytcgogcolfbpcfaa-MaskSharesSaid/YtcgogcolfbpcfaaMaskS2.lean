/- The contract of layer 5's Shares (mask): the walk; the bounds stand in it. -/
import Derived.Test.YtcgogcolfbpcfaaMaskS1
import Derived.Test.YtcgogcolfbpcfaaBase2
namespace Go.Proofs.Ytcgogcolfbpcfaa
open Go.ChangeShapes Go.WideShapes Go.ChangeAt Go.RowKit Go.Deep Go.Maps
set_option linter.unusedVariables false
set_option linter.unusedSimpArgs false
def elM (l : List (Nat × Nat)) (i : Nat) : Array Value := #[.int .u64 (((l.getD i (0, 0)).1 : Nat) : Int), .int .u64 (((l.getD i (0, 0)).2 : Nat) : Int)]
def okM (l : List (Nat × Nat)) : Prop := ∀ p ∈ l, p.1 < 18446744073709551616 ∧ p.2 < 18446744073709551616
set_option maxRecDepth 100000 in
set_option maxHeartbeats 1000000 in
theorem shares_ok (v : Value) (l : List (Nat × Nat)) (hl : l.length ≤ 100) (ho : okM l) (w : World) (hs : Sl w 2 l.length v (elM l)) :
    Calls Try.prog 25 #[v] w (Ret fun v' w' => (∃ ap cp, v' = .slice ap (dd l).length cp) ∧ w'.ownsRow w.heap.size 46 3 v' (dd l).length (shV l (dd l)) ∧ Below w.heap.size w w') := by
  have H := St.init w
  have hs' := hs
  obtain ⟨ad, c0, rfl, hm, _⟩ := hs'
  unfold maxLen at hm
  have HO := Lib.hid ho
  clear ho
  go_enter Try.func25, Try.ntmps25
  go_wp2_with (first | (with_reducible refine wpl rfl (Stp.mkmap 24 ekM evI 9 rfl rfl H ?_); clear H; intro g9 w1 H; simp only [Act.put, List.setIfInBounds_toArray, List.set_cons_zero, List.set_cons_succ]) | (with_reducible refine wpl rfl (Stp.ldr rfl agg24 size24 rfl H (by repeat (first | exact List.mem_cons_self | apply List.mem_cons_of_mem)) (by first | rfl | (simp; done) | assumption) ?_); simp only [Act.put, List.setIfInBounds_toArray, List.set_cons_zero, List.set_cons_succ]) | (with_reducible refine wpl rfl (Stp.ldor rfl agg24 size24 rfl H (by assumption) (by first | rfl | (simp; done) | assumption) (by assumption) ?_); simp only [Act.put, List.setIfInBounds_toArray, List.set_cons_zero, List.set_cons_succ]) | (with_reducible refine wpl rfl (Stp.alloc 6 rfl rfl zero24 H ?_); clear H; intro g6 w1 H; simp only [Act.put, List.setIfInBounds_toArray, List.set_cons_zero, List.set_cons_succ]; simp only [cells_agg, cells_int, cells_bool, cells_string, cells_pointer, cells_slice, cells_map] at H) | (with_reducible refine wpl rfl (Stp.str rfl size24 rfl rfl (by first | rfl | (simp [Value.oneCell']; done) | assumption) H (by repeat (first | exact Upd.head | apply Upd.tail)) (by first | rfl | (simp; done) | assumption) (by first | rfl | (simp; done) | assumption) ?_); clear H; intro w1 H; simp only [Act.put, List.setIfInBounds_toArray, List.set_cons_zero, List.set_cons_succ]) | (with_reducible refine wpl rfl (Stp.ldc rfl agg3 rfl H (by repeat (first | exact List.mem_cons_self | apply List.mem_cons_of_mem)) (by first | (repeat (first | exact lit0 _ _ | apply lits)) | rfl | assumption) ?_); simp only [Act.put, List.setIfInBounds_toArray, List.set_cons_zero, List.set_cons_succ]) | (with_reducible refine wpl rfl (Stp.ldo rfl agg3 rfl H (by assumption) (by assumption) ?_); simp only [Act.put, List.setIfInBounds_toArray, List.set_cons_zero, List.set_cons_succ]) | (with_reducible refine wpl rfl (Stp.stc rfl size3 rfl rfl rfl rfl H (by repeat (first | exact Upd.head | apply Upd.tail)) (by first | omega | (simp; done) | (simp; omega)) ?_); clear H; intro w1 H; simp only [Act.put, List.setIfInBounds_toArray, List.set_cons_zero, List.set_cons_succ]; simp only [eval_tmp, eval_const, getD_lit0, getD_lits, cells_agg, cells_int, cells_bool, cells_string, cells_pointer, cells_slice, cells_map, List.setIfInBounds_toArray, List.set_cons_zero, List.set_cons_succ] at H))
  replace H := H.nil 46 3
  go_loopw [4, 12] (fun out i wr => ∃ (k n : Nat) (a : Option Addr) (c : Nat) (D : List (Nat × Nat)), k ≤ l.length ∧ i = .int .i64 (k : Int) ∧ Hid (dd (l.take k) = D) ∧ Hid (D.length = n) ∧ n ≤ k ∧ out = .slice a n c ∧ St w.heap.size w wr [slc 46 3 (.slice a n c) n (shV (l.take k) D), mapr Try.prog 24 ekM evI g9 D.zipIdx]) (fun _ i _ => l.length - (intOf i).toNat)
  case atStart => exact ⟨0, 0, none, 0, [], Nat.zero_le _, rfl, Lib.hid rfl, Lib.hid rfl, Nat.le_refl _, rfl, H⟩
  case round =>
    clear H
    obtain ⟨k, n, ao, co, D, hk, rfl, HD, HN, hnk, rfl, H⟩ := hrel
    by_cases hlt : k < l.length
    · obtain ⟨b1, o1, rfl, hb1⟩ := hs.addr (by omega)
      have hc1 := hs.cell hlt
      unfold elM at hc1
      have hmem : l[k] ∈ l := List.getElem_mem hlt
      have hsn : l.take (k + 1) = l.take k ++ [l[k]] := List.take_succ_eq_append_getElem hlt
      have hgd : l.getD k (0, 0) = l[k] := by simp [List.getD, hlt]
      rw [hgd] at hc1
      obtain ⟨⟨a, b⟩, hx⟩ : ∃ x, l[k] = x := ⟨_, rfl⟩
      rw [hx] at hc1 hmem hsn
      obtain ⟨la, lb⟩ := HO.out _ hmem
      have HC1 := Lib.hid hc1
      have HSN := Lib.hid hsn
      obtain ⟨kl, hkl⟩ := keyM a b la lb
      have HK := Lib.hid hkl
      have kli : (k : Int) < (l.length : Int) := by omega
      have hnd : D.Nodup := by rw [← HD.out]; exact dd_nodup _ _ List.nodup_nil
      have HND := Lib.hid hnd
      obtain ⟨T, hT⟩ : ∃ T, l.take k = T := ⟨_, rfl⟩
      have HT := Lib.hid hT
      rw [hT] at H
      clear hc1 hsn hx hgd hmem hkl la lb hnd hT
      by_cases hxD : (a, b) ∈ D
      · obtain ⟨j, hj1, hj2⟩ := idx_some D (a, b) hxD
        have hjn : j < n := by rw [← HN.out]; exact (List.getElem?_eq_some_iff.1 hj2).1
        have HG := Lib.hid hj1
        have HJ := Lib.hid hj2
        have HC := Lib.hid (sh_cell T D (a, b) j hj2).1
        obtain ⟨q, hq⟩ : ∃ q, T.count (a, b) = q := ⟨_, rfl⟩
        have hq1 : q ≤ 100 := by
          have h1 := List.count_le_length (a := (a, b)) (l := T)
          rw [hq] at h1
          have h2 : T.length ≤ k := by rw [← HT.out]; exact List.length_take_le _ _
          omega
        rw [hq] at HC
        have HQ := Lib.hid hq
        obtain ⟨go, rfl⟩ := H.own_addr (by repeat (first | exact List.mem_cons_self | apply List.mem_cons_of_mem)) (by omega)
        have jni : (j : Int) < (n : Int) := by omega
        have HXD := Lib.hid hxD
        clear hj1 hj2 hxD hq
        go_wp2_with (first | (with_reducible refine wpl rfl (Stp.ldq (cs := #[.int .u64 (a : Int), .int .u64 (b : Int)]) rfl agg24 size24 rfl (fun j hj => (H.below.cell hb1).trans (HC1.out j hj)) rfl ?_); simp only [Act.put, List.setIfInBounds_toArray, List.set_cons_zero, List.set_cons_succ]) | (with_reducible refine wpl rfl (Stp.lookok (k := 24) (e := 3) (ek := ekM) (ev := evI) (M := D.zipIdx) (q := (a, b)) rfl keyedM ekM_inj Try.underlying54 mz3 rfl rfl HK.out H (by repeat (first | exact List.mem_cons_self | apply List.mem_cons_of_mem)) ?_); simp only [HG.out, Option.map_none, Option.map_some, Option.getD_none, Option.getD_some, Option.isSome_none, Option.isSome_some]; simp only [Act.put, List.setIfInBounds_toArray, List.set_cons_zero, List.set_cons_succ]) | (with_reducible refine wpl rfl (Stp.lsc rfl agg3 rfl H (by repeat (first | exact List.mem_cons_self | apply List.mem_cons_of_mem)) HC.out ?_); simp only [Act.put, List.setIfInBounds_toArray, List.set_cons_zero, List.set_cons_succ]) | (with_reducible refine wpl rfl (Stp.ssc rfl size3 rfl rfl rfl rfl H (by repeat (first | exact Upd.head | apply Upd.tail)) (by omega) ?_); clear H; intro w1 H; simp only [Act.put, List.setIfInBounds_toArray, List.set_cons_zero, List.set_cons_succ]; simp only [eval_tmp, eval_const, getD_lit0, getD_lits, cells_agg, cells_int, cells_bool, cells_string, cells_pointer, cells_slice, cells_map, List.setIfInBounds_toArray, List.set_cons_zero, List.set_cons_succ] at H) | (with_reducible refine wpl rfl (Stp.ldr rfl agg24 size24 rfl H (by repeat (first | exact List.mem_cons_self | apply List.mem_cons_of_mem)) (by first | rfl | (simp; done) | assumption) ?_); simp only [Act.put, List.setIfInBounds_toArray, List.set_cons_zero, List.set_cons_succ]) | (with_reducible refine wpl rfl (Stp.ldor rfl agg24 size24 rfl H (by assumption) (by first | rfl | (simp; done) | assumption) (by assumption) ?_); simp only [Act.put, List.setIfInBounds_toArray, List.set_cons_zero, List.set_cons_succ]) | (with_reducible refine wpl rfl (Stp.alloc 6 rfl rfl zero24 H ?_); clear H; intro g6 w1 H; simp only [Act.put, List.setIfInBounds_toArray, List.set_cons_zero, List.set_cons_succ]; simp only [cells_agg, cells_int, cells_bool, cells_string, cells_pointer, cells_slice, cells_map] at H) | (with_reducible refine wpl rfl (Stp.str rfl size24 rfl rfl (by first | rfl | (simp [Value.oneCell']; done) | assumption) H (by repeat (first | exact Upd.head | apply Upd.tail)) (by first | rfl | (simp; done) | assumption) (by first | rfl | (simp; done) | assumption) ?_); clear H; intro w1 H; simp only [Act.put, List.setIfInBounds_toArray, List.set_cons_zero, List.set_cons_succ]) | (with_reducible refine wpl rfl (Stp.ldc rfl agg3 rfl H (by repeat (first | exact List.mem_cons_self | apply List.mem_cons_of_mem)) (by first | (repeat (first | exact lit0 _ _ | apply lits)) | rfl | assumption) ?_); simp only [Act.put, List.setIfInBounds_toArray, List.set_cons_zero, List.set_cons_succ]) | (with_reducible refine wpl rfl (Stp.ldo rfl agg3 rfl H (by assumption) (by assumption) ?_); simp only [Act.put, List.setIfInBounds_toArray, List.set_cons_zero, List.set_cons_succ]) | (with_reducible refine wpl rfl (Stp.stc rfl size3 rfl rfl rfl rfl H (by repeat (first | exact Upd.head | apply Upd.tail)) (by first | omega | (simp; done) | (simp; omega)) ?_); clear H; intro w1 H; simp only [Act.put, List.setIfInBounds_toArray, List.set_cons_zero, List.set_cons_succ]; simp only [eval_tmp, eval_const, getD_lit0, getD_lits, cells_agg, cells_int, cells_bool, cells_string, cells_pointer, cells_slice, cells_map, List.setIfInBounds_toArray, List.set_cons_zero, List.set_cons_succ] at H))
        go_roundw
        case rel =>
          have e := sh_more T D (a, b) j HND.out HJ.out
          rw [HQ.out] at e
          exact ⟨k + 1, n, _, co, D, by omega, by go_num, Lib.hid (by rw [HSN.out, dd_snoc, HD.out, if_pos HXD.out]), HN, by omega, rfl, by rw [HSN.out, HT.out, ← e]; exact H.sub (by repeat (first | exact List.Sublist.refl _ | exact List.nil_sublist _ | (with_reducible apply List.Sublist.cons_cons) | apply List.Sublist.cons))⟩
        case measure => simp [intOf]; omega
      · have HG := Lib.hid (idx_none D (a, b) hxD)
        have HPUT : Hid (mput D.zipIdx (a, b) n = (D ++ [(a, b)]).zipIdx) := Lib.hid (by rw [← HN.out]; exact idx_put D (a, b) hxD)
        have hsl : (shV T D).length = n * 3 := by rw [shV_len, HN.out]
        have hc2 : (shV T D ++ ([.int .u64 (a : Int), .int .u64 (b : Int), .int .i64 0] : List Value))[n * 3 + 2]? = some (.int .i64 0) := by
          rw [List.getElem?_append_right (by omega), hsl, show n * 3 + 2 - n * 3 = 2 by omega]; rfl
        have he : (shV T D ++ ([.int .u64 (a : Int), .int .u64 (b : Int), .int .i64 0] : List Value)).set (n * 3 + 2) (.int .i64 1) = shV (T ++ [(a, b)]) (D ++ [(a, b)]) := by
          have hT0 : (a, b) ∉ T := by rw [← HT.out, ← mem_dd, HD.out]; exact hxD
          rw [List.set_append_right _ _ (by omega), hsl, show n * 3 + 2 - n * 3 = 2 by omega, shV_app, shV_not _ _ _ hxD]
          congr 1
          simp [shV, List.count_append, List.count_eq_zero.2 hT0]
        have HC2 := Lib.hid hc2
        have HE := Lib.hid he
        have HXD := Lib.hid hxD
        have n2 : n + 1 ≤ 101 := by omega
        clear hc2 he hxD hsl
        go_wp2_with (first | (with_reducible refine wpl rfl (Stp.ldq (cs := #[.int .u64 (a : Int), .int .u64 (b : Int)]) rfl agg24 size24 rfl (fun j hj => (H.below.cell hb1).trans (HC1.out j hj)) rfl ?_); simp only [Act.put, List.setIfInBounds_toArray, List.set_cons_zero, List.set_cons_succ]) | (with_reducible refine wpl rfl (Stp.lookok (k := 24) (e := 3) (ek := ekM) (ev := evI) (M := D.zipIdx) (q := (a, b)) rfl keyedM ekM_inj Try.underlying54 mz3 rfl rfl HK.out H (by repeat (first | exact List.mem_cons_self | apply List.mem_cons_of_mem)) ?_); simp only [HG.out, Option.map_none, Option.map_some, Option.getD_none, Option.getD_some, Option.isSome_none, Option.isSome_some]; simp only [Act.put, List.setIfInBounds_toArray, List.set_cons_zero, List.set_cons_succ]) | (with_reducible refine wpl rfl (Stp.mapup (k := 24) (e := 3) (ek := ekM) (ev := evI) (M := D.zipIdx) (q := (a, b)) (v := n) rfl keyedM ekM_inj Try.underlying54 rfl rfl rfl HK.out H (by repeat (first | exact Upd.head | apply Upd.tail)) ?_); clear H; intro w1 H; rw [HPUT.out] at H; simp only [Act.put, List.setIfInBounds_toArray, List.set_cons_zero, List.set_cons_succ]) | (with_reducible refine wpl rfl (Stp.build (v := (.agg #[.int .u64 (a : Int), .int .u64 (b : Int), .int .i64 0])) 31 rfl rfl (fun W => by kernel_rfl) ?_); simp only [Act.put, List.setIfInBounds_toArray, List.set_cons_zero, List.set_cons_succ]) | (with_reducible refine wpl rfl (Stp.bsl (e := 46) (cs := #[.int .u64 (a : Int), .int .u64 (b : Int), .int .i64 0]) 32 rfl rfl (fun W => by kernel_rfl) H ?_); clear H; intro g32 w1 H; simp only [Act.put, List.setIfInBounds_toArray, List.set_cons_zero, List.set_cons_succ]) | (with_reducible refine wpl rfl (Stp.apps 33 rfl rfl Try.underlying43 info46 rfl (by decide) rfl rfl H (fun _ => (by repeat (first | exact Upd.head | apply Upd.tail))) (show ([.int .u64 (a : Int), .int .u64 (b : Int), .int .i64 0] : List Value).length = 1 * 3 from rfl) (fun _ => ⟨_, rfl, newL (H.gr 46)⟩) (by simp [Value.oneCell']) (by unfold maxLen; omega) (by omega) ?_); clear H; intro a33 c33 w1 H; simp only [Act.put, List.setIfInBounds_toArray, List.set_cons_zero, List.set_cons_succ]; obtain ⟨gq, rfl⟩ := H.own_addr (by repeat (first | exact List.mem_cons_self | apply List.mem_cons_of_mem)) (by omega)) | (with_reducible refine wpl rfl (Stp.lsc rfl agg3 rfl H (by repeat (first | exact List.mem_cons_self | apply List.mem_cons_of_mem)) HC2.out ?_); simp only [Act.put, List.setIfInBounds_toArray, List.set_cons_zero, List.set_cons_succ]) | (with_reducible refine wpl rfl (Stp.ssc rfl size3 rfl rfl rfl rfl H (by repeat (first | exact Upd.head | apply Upd.tail)) (by omega) ?_); clear H; intro w1 H; simp only [Act.put, List.setIfInBounds_toArray, List.set_cons_zero, List.set_cons_succ]; simp only [eval_tmp, eval_const, getD_lit0, getD_lits, cells_agg, cells_int, cells_bool, cells_string, cells_pointer, cells_slice, cells_map, List.setIfInBounds_toArray, List.set_cons_zero, List.set_cons_succ] at H; (try rw [HE.out] at H)) | (with_reducible refine wpl rfl (Stp.ldr rfl agg24 size24 rfl H (by repeat (first | exact List.mem_cons_self | apply List.mem_cons_of_mem)) (by first | rfl | (simp; done) | assumption) ?_); simp only [Act.put, List.setIfInBounds_toArray, List.set_cons_zero, List.set_cons_succ]) | (with_reducible refine wpl rfl (Stp.ldor rfl agg24 size24 rfl H (by assumption) (by first | rfl | (simp; done) | assumption) (by assumption) ?_); simp only [Act.put, List.setIfInBounds_toArray, List.set_cons_zero, List.set_cons_succ]) | (with_reducible refine wpl rfl (Stp.alloc 6 rfl rfl zero24 H ?_); clear H; intro g6 w1 H; simp only [Act.put, List.setIfInBounds_toArray, List.set_cons_zero, List.set_cons_succ]; simp only [cells_agg, cells_int, cells_bool, cells_string, cells_pointer, cells_slice, cells_map] at H) | (with_reducible refine wpl rfl (Stp.str rfl size24 rfl rfl (by first | rfl | (simp [Value.oneCell']; done) | assumption) H (by repeat (first | exact Upd.head | apply Upd.tail)) (by first | rfl | (simp; done) | assumption) (by first | rfl | (simp; done) | assumption) ?_); clear H; intro w1 H; simp only [Act.put, List.setIfInBounds_toArray, List.set_cons_zero, List.set_cons_succ]) | (with_reducible refine wpl rfl (Stp.ldc rfl agg3 rfl H (by repeat (first | exact List.mem_cons_self | apply List.mem_cons_of_mem)) (by first | (repeat (first | exact lit0 _ _ | apply lits)) | rfl | assumption) ?_); simp only [Act.put, List.setIfInBounds_toArray, List.set_cons_zero, List.set_cons_succ]) | (with_reducible refine wpl rfl (Stp.ldo rfl agg3 rfl H (by assumption) (by assumption) ?_); simp only [Act.put, List.setIfInBounds_toArray, List.set_cons_zero, List.set_cons_succ]) | (with_reducible refine wpl rfl (Stp.stc rfl size3 rfl rfl rfl rfl H (by repeat (first | exact Upd.head | apply Upd.tail)) (by first | omega | (simp; done) | (simp; omega)) ?_); clear H; intro w1 H; simp only [Act.put, List.setIfInBounds_toArray, List.set_cons_zero, List.set_cons_succ]; simp only [eval_tmp, eval_const, getD_lit0, getD_lits, cells_agg, cells_int, cells_bool, cells_string, cells_pointer, cells_slice, cells_map, List.setIfInBounds_toArray, List.set_cons_zero, List.set_cons_succ] at H))
        go_roundw
        case rel =>
          exact ⟨k + 1, n + 1, _, _, D ++ [(a, b)], by omega, by go_num, Lib.hid (by rw [HSN.out, dd_snoc, HD.out, if_neg HXD.out]), Lib.hid (by rw [List.length_append, HN.out]; rfl), by omega, rfl, by rw [HSN.out, HT.out]; exact H.sub (by repeat (first | exact List.Sublist.refl _ | exact List.nil_sublist _ | (with_reducible apply List.Sublist.cons_cons) | apply List.Sublist.cons))⟩
        case measure => simp [intOf]; omega
    · obtain rfl : k = l.length := by omega
      go_wp2_with (first | (with_reducible refine wpl rfl (Stp.ldr rfl agg24 size24 rfl H (by repeat (first | exact List.mem_cons_self | apply List.mem_cons_of_mem)) (by first | rfl | (simp; done) | assumption) ?_); simp only [Act.put, List.setIfInBounds_toArray, List.set_cons_zero, List.set_cons_succ]) | (with_reducible refine wpl rfl (Stp.ldor rfl agg24 size24 rfl H (by assumption) (by first | rfl | (simp; done) | assumption) (by assumption) ?_); simp only [Act.put, List.setIfInBounds_toArray, List.set_cons_zero, List.set_cons_succ]) | (with_reducible refine wpl rfl (Stp.alloc 6 rfl rfl zero24 H ?_); clear H; intro g6 w1 H; simp only [Act.put, List.setIfInBounds_toArray, List.set_cons_zero, List.set_cons_succ]; simp only [cells_agg, cells_int, cells_bool, cells_string, cells_pointer, cells_slice, cells_map] at H) | (with_reducible refine wpl rfl (Stp.str rfl size24 rfl rfl (by first | rfl | (simp [Value.oneCell']; done) | assumption) H (by repeat (first | exact Upd.head | apply Upd.tail)) (by first | rfl | (simp; done) | assumption) (by first | rfl | (simp; done) | assumption) ?_); clear H; intro w1 H; simp only [Act.put, List.setIfInBounds_toArray, List.set_cons_zero, List.set_cons_succ]) | (with_reducible refine wpl rfl (Stp.ldc rfl agg3 rfl H (by repeat (first | exact List.mem_cons_self | apply List.mem_cons_of_mem)) (by first | (repeat (first | exact lit0 _ _ | apply lits)) | rfl | assumption) ?_); simp only [Act.put, List.setIfInBounds_toArray, List.set_cons_zero, List.set_cons_succ]) | (with_reducible refine wpl rfl (Stp.ldo rfl agg3 rfl H (by assumption) (by assumption) ?_); simp only [Act.put, List.setIfInBounds_toArray, List.set_cons_zero, List.set_cons_succ]) | (with_reducible refine wpl rfl (Stp.stc rfl size3 rfl rfl rfl rfl H (by repeat (first | exact Upd.head | apply Upd.tail)) (by first | omega | (simp; done) | (simp; omega)) ?_); clear H; intro w1 H; simp only [Act.put, List.setIfInBounds_toArray, List.set_cons_zero, List.set_cons_succ]; simp only [eval_tmp, eval_const, getD_lit0, getD_lits, cells_agg, cells_int, cells_bool, cells_string, cells_pointer, cells_slice, cells_map, List.setIfInBounds_toArray, List.set_cons_zero, List.set_cons_succ] at H))
      go_ret
      have hD := HD.out
      have hN := HN.out
      rw [List.take_length] at hD H
      subst hD hN
      exact ⟨_, rfl, ⟨_, _, rfl⟩, H.getSlc (by repeat (first | exact List.mem_cons_self | apply List.mem_cons_of_mem)), H.below⟩
end Go.Proofs.Ytcgogcolfbpcfaa
