/-
  WALKS 2: numbers as bytes.
-/
import Derived.Test.YtcjnniigonaapaaA1
namespace Go.Proofs.Ytcjnniigonaapaa
open Go Go.Az Go.Proofs

theorem refCountI (n : Int) (h0 : 0 ≤ n) (h1 : n < 18446744073709551616) (ks : List Nat) (w0 : World) (M : St ks [] w0 w0 [] []) :
    Calls Try.prog 21 #[u64 n] w0 fun e w' => ∃ v, ∃ g : Sl × Seg, e = .returned v ∧ (v = g.1.v (cnt n.toNat).length ∧ Own 5 1 g.1 (cnt n.toNat).length (bv (cnt n.toNat)) g.2) ∧ St ks [] w0 w' [g.2] [] := by
  obtain ⟨m, rfl⟩ := Int.eq_ofNat_of_zero_le h0
  exact refCount m (by omega) ks w0 M

theorem refInt (n : Int) (h0 : -9223372036854775808 ≤ n) (h1 : n ≤ 9223372036854775807) (ks : List Nat) (w0 : World) (M : St ks [] w0 w0 [] []) :
    Calls Try.prog 23 #[i64 n] w0 fun e w' => ∃ v, ∃ g : Sl × Seg, e = .returned v ∧ (v = g.1.v (intB n).length ∧ Own 5 1 g.1 (intB n).length (bv (intB n)) g.2) ∧ St ks [] w0 w' [g.2] [] := by
  skip
  refine calls_of 16 Try.func23 rfl rfl rfl ?_
  refine c_seq (c_region ?_)
  refine s_val (r_assign (v := .slice _ _ _) rfl) ?_
  refine s_nil (e_then (c_seq (c_seq (c_region ?_))))
  refine s_val (r_move (v := .int _ _) rfl) ?_
  refine s_val (r_lss rfl rfl) ?_
  refine s_nil (e_then ?_)
  refine c_if rfl (fun h4 => ?_) (fun h4 => ?_)
  ·
   have hz : intB n = cnt (-(n + 1) * 2 + 1).toNat := by unfold intB zigN; rw [if_pos h4]
   refine c_seq (c_region ?_)
   refine s_val (r_move (v := .int _ _) rfl) ?_
   first | (refine s_val (r_add rfl rfl (w64 (by omega) (by omega))) ?_) | (refine s_val (r_add rfl rfl rfl) ?_)
   first | (refine s_val (r_neg rfl (n64 (by omega) (by omega))) ?_) | (refine s_val (r_neg rfl rfl) ?_)
   first | (refine s_val (r_conv Try.underlying3 Try.underlying90 rfl (wu64 (by omega) (by omega))) ?_) | (refine s_val (r_conv Try.underlying3 Try.underlying90 rfl wrU64) ?_)
   first | (refine s_val (r_mul rfl rfl (wu64 (by omega) (by omega))) ?_) | (refine s_val (r_mul rfl rfl rfl) ?_)
   first | (refine s_val (r_add rfl rfl (wu64 (by omega) (by omega))) ?_) | (refine s_val (r_add rfl rfl rfl) ?_)
   refine s_call0 (cl21 rfl) (refCountI _ (by omega) (by omega)) M (fun _ h => nomatch h) ?_
   rintro v ⟨sc, sgc⟩ w ⟨rfl, hOc⟩ M
   first | replace M := M.nf (L' := []) rfl | skip
   refine s_val (r_assign (v := .slice _ _ _) rfl) ?_
   refine s_nil (e_then (c_ret (e_then_ret ?_)))
   refine ret_run (res_1 (v := .slice _ _ _) rfl rfl) ?_
   exact ⟨_, (sc, sgc), rfl, ⟨by rw [hz], by rw [hz]; exact hOc⟩, M⟩
  ·
   have hz : intB n = cnt (n * 2).toNat := by unfold intB zigN; rw [if_neg h4]
   refine c_skip (e_then (c_seq (c_region ?_)))
   refine s_val (r_move (v := .int _ _) rfl) ?_
   first | (refine s_val (r_conv Try.underlying3 Try.underlying90 rfl (wu64 (by omega) (by omega))) ?_) | (refine s_val (r_conv Try.underlying3 Try.underlying90 rfl wrU64) ?_)
   first | (refine s_val (r_mul rfl rfl (wu64 (by omega) (by omega))) ?_) | (refine s_val (r_mul rfl rfl rfl) ?_)
   refine s_call0 (cl21 rfl) (refCountI _ (by omega) (by omega)) M (fun _ h => nomatch h) ?_
   rintro v ⟨sc, sgc⟩ w ⟨rfl, hOc⟩ M
   first | replace M := M.nf (L' := []) rfl | skip
   refine s_val (r_assign (v := .slice _ _ _) rfl) ?_
   refine s_nil (e_then (c_ret ?_))
   refine ret_run (res_1 (v := .slice _ _ _) rfl rfl) ?_
   exact ⟨_, (sc, sgc), rfl, ⟨by rw [hz], by rw [hz]; exact hOc⟩, M⟩

theorem bytes2 (n : Int) (b : Nat) (l : List Int) (sg : Seg) (hB : BufAt 63 5 b l sg) (hlen : l.length + 10 ≤ 140737488355328) (ks : List Nat) (w0 : World) (M : St ks (keysOf [sg]) w0 w0 [sg] []) :
    Calls Try.prog 24 #[i64 n, .pointer (some ⟨b, 0, none⟩)] w0 fun e w' => ∃ v, ∃ g : Seg, e = .returned v ∧ (v = .tuple #[] ∧ BufAt 63 5 b (l ++ cntI n) g) ∧ St ks (keysOf [sg]) w0 w' [g] [] := by
  have hl := cntI_len n
  unfold cntI at hl
  obtain ⟨s, m, sg', hm, hO, rfl⟩ := hB
  replace M := M.flat (L' := [[(b, C [s.v m] 63)], sg']) rfl
  refine calls_of 8 Try.func24 rfl rfl rfl ?_
  refine c_drawT (by kernel_rfl) [(.q, 1), (.q, 2), (.ch, 3), (.q, 0), (.ch, 4)] [5] [[], [], [1], [1, 2], [0, 1, 2, 3], [0, 1, 2, 3, 4]] (by kernel_rfl) [1] M ?_
  refine w_val rfl wt_none (fun w => (r_move (v := .int _ _) rfl)) ?_
  first | (refine w_val rfl wt_none (fun w => (r_conv Try.underlying3 Try.underlying90 rfl (wu64 (by omega) (by omega)))) ?_) | (refine w_val rfl wt_none (fun w => (r_conv Try.underlying3 Try.underlying90 rfl wrU64)) ?_)
  refine w_call0 rfl wt_none (fun w => cl21 rfl) (refCountI _ (by omega) (by omega)) (fun _ h => nomatch h) (fun _ _ => (by repeat (first | exact trivial | refine ⟨.inr rfl, ?_⟩ | refine ⟨.inl rfl, ?_⟩))) (fun _ h => h) ?_
  rintro v ⟨sc, sgc⟩ ⟨rfl, hOc⟩
  first | refine w_nf (L' := [_, _]) rfl ?_ | skip
  refine w_read (v := .slice _ _ _) rfl wt_none (fun w X G' M => r_load1 Try.underlying63 rfl rfl (M.cell (k := 0) (j := 0) rfl rfl rfl)) ?_
  refine w_append 1 rfl wt_none Try.underlying63 sz5 by5 zr5 rfl rfl rfl hO rfl rfl (fun w X M => (Own.src Try.underlying63 (bv_one _) (by decide) M (k := 2) rfl hOc)) (by simp only [maxLen]; omega) (by omega) (fun _ => (by repeat (first | exact trivial | refine ⟨.inr rfl, ?_⟩ | refine ⟨.inl rfl, ?_⟩))) (fun _ h => List.mem_append_left _ (h)) ?_
  intro s1 sg1 hO1
  first | refine w_nf (L' := [_, _]) rfl ?_ | skip
  refine w_nil ?_
  intro w M
  refine a_store (v := .slice _ _ _) sz63 M rfl rfl rfl (k := 0) (j := 0) rfl rfl rfl rfl rfl ?_
  intro w M
  first | replace M := M.nf (L' := [_, _]) rfl | skip
  refine s_nil ?_
  refine end_run (res_none rfl) ?_
  exact ⟨_, _, rfl, ⟨rfl, s1, _, sg1, by simp [cntI, hm], by rw [bv_append]; exact hO1, rfl⟩, (M.lone (L' := [[(b, C [s1.v _] 63)], sg1]) ⟨.inr rfl, .inr rfl, trivial⟩).flat rfl⟩

theorem bytes1 (v : V4) (hv : v.wf) (b : Nat) (l : List Int) (sg : Seg) (hB : BufAt 63 5 b l sg) (hlen : l.length + 40 ≤ 140737488355328) (ks : List Nat) (w0 : World) (M : St ks (keysOf [sg]) w0 w0 [sg] []) :
    Calls Try.prog 22 #[.agg (v4 v).toArray, .pointer (some ⟨b, 0, none⟩)] w0 fun e w' => ∃ v', ∃ g : Seg, e = .returned v' ∧ (v' = .tuple #[] ∧ BufAt 63 5 b (l ++ numB v) g) ∧ St ks (keysOf [sg]) w0 w' [g] [] := by
  obtain ⟨⟨a1, a2⟩, ⟨b1, b2⟩, ⟨c1, c2⟩, ⟨d1, d2⟩⟩ := hv
  have hl0 := intB_len a1 a2
  have hl1 := intB_len b1 b2
  have hl2 := intB_len c1 c2
  have hl3 := intB_len d1 d2
  obtain ⟨s, m, sg', hm, hO, rfl⟩ := hB
  replace M := M.flat (L' := [[(b, C [s.v m] 63)], sg']) rfl
  refine calls_of 14 Try.func22 rfl rfl rfl ?_
  refine c_seq (c_region ?_)
  refine a_box (v := .agg _) rfl cells_agg M ?_
  intro b2 w M
  first | replace M := M.nf (L' := [_, _, [(_, _)]]) rfl | skip
  refine s_nil (e_then (c_seq (c_region ?_)))
  refine a_loadA Try.underlying31 rfl sz31 M rfl (k := 2) (j := 0) rfl rfl rfl ?_
  refine s_val (r_move (v := .int _ _) rfl) ?_
  refine s_nil (e_then (c_block ?_))
  refine c_rounds 5 ?_
  refine c_round (c_seq (c_region ?_))
  replace M := M.lone (L' := [[(b, C [s.v _] 63)], sg']) ⟨.inr rfl, .inr rfl, trivial⟩
  refine s_val (r_lss rfl rfl) ?_
  refine s_nil (e_then (c_seq ?_))
  refine c_yes rfl (by decide) ?_
  refine c_skip (e_then (c_seq (c_block (c_seq (c_region ?_)))))
  refine s_val (r_index1 Try.underlying31 Try.underlying3 rfl sz3 rfl rfl (by omega) (by omega) rfl) ?_
  refine s_val (r_assign (v := .int _ _) rfl) ?_
  refine s_nil (e_then ?_)
  refine c_drawT (by kernel_rfl) [(.q, 1), (.ch, 2), (.q, 0), (.ch, 3)] [4] [[], [], [1], [0, 1, 2], [0, 1, 2, 3]] (by kernel_rfl) [1] M ?_
  refine w_val rfl wt_none (fun w => (r_move (v := .int _ _) rfl)) ?_
  refine w_call0 rfl wt_none (fun w => cl23 rfl) (refInt _ (by omega) (by omega)) (fun _ h => nomatch h) (fun _ _ => (by repeat (first | exact trivial | refine ⟨.inr rfl, ?_⟩ | refine ⟨.inl rfl, ?_⟩))) (fun _ h => h) ?_
  rintro v ⟨sc, sgc⟩ ⟨rfl, hOc⟩
  first | refine w_nf (L' := [_, _, [(_, _)]]) rfl ?_ | skip
  refine w_read (v := .slice _ _ _) rfl wt_none (fun w X G' M => r_load1 Try.underlying63 rfl rfl (M.cell (k := 0) (j := 0) rfl rfl rfl)) ?_
  refine w_append 1 rfl wt_none Try.underlying63 sz5 by5 zr5 rfl rfl rfl hO rfl rfl (fun w X M => (Own.src Try.underlying63 (bv_one _) (by decide) M (k := 2) rfl hOc)) (by simp only [maxLen]; omega) (by omega) (fun _ => (by repeat (first | exact trivial | refine ⟨.inr rfl, ?_⟩ | refine ⟨.inl rfl, ?_⟩))) (fun _ h => List.mem_append_left _ (h)) ?_
  intro s sg' hO
  first | refine w_nf (L' := [_, _, [(_, _)]]) rfl ?_ | skip
  refine w_nil ?_
  intro w M
  refine a_store (v := .slice _ _ _) sz63 M rfl rfl rfl (k := 0) (j := 0) rfl rfl rfl rfl rfl ?_
  intro w M
  first | replace M := M.nf (L' := [_, _, [(_, _)]]) rfl | skip
  refine s_nil (e_blk (e_then (c_region ?_)))
  refine s_val (r_add (n := 1) rfl rfl (by decide)) ?_
  refine s_val (r_move (v := .int _ _) rfl) ?_
  refine s_nil (e_then (c_round (c_seq (c_region ?_))))
  replace M := M.lone (L' := [[(b, C [s.v _] 63)], sg']) ⟨.inr rfl, .inr rfl, trivial⟩
  refine s_val (r_lss rfl rfl) ?_
  refine s_nil (e_then (c_seq ?_))
  refine c_yes rfl (by decide) ?_
  refine c_skip (e_then (c_seq (c_block (c_seq (c_region ?_)))))
  refine s_val (r_index1 Try.underlying31 Try.underlying3 rfl sz3 rfl rfl (by omega) (by omega) rfl) ?_
  refine s_val (r_assign (v := .int _ _) rfl) ?_
  refine s_nil (e_then ?_)
  refine c_drawT (by kernel_rfl) [(.q, 1), (.ch, 2), (.q, 0), (.ch, 3)] [4] [[], [], [1], [0, 1, 2], [0, 1, 2, 3]] (by kernel_rfl) [1] M ?_
  refine w_val rfl wt_none (fun w => (r_move (v := .int _ _) rfl)) ?_
  refine w_call0 rfl wt_none (fun w => cl23 rfl) (refInt _ (by omega) (by omega)) (fun _ h => nomatch h) (fun _ _ => (by repeat (first | exact trivial | refine ⟨.inr rfl, ?_⟩ | refine ⟨.inl rfl, ?_⟩))) (fun _ h => h) ?_
  rintro v ⟨sc, sgc⟩ ⟨rfl, hOc⟩
  first | refine w_nf (L' := [_, _, [(_, _)]]) rfl ?_ | skip
  refine w_read (v := .slice _ _ _) rfl wt_none (fun w X G' M => r_load1 Try.underlying63 rfl rfl (M.cell (k := 0) (j := 0) rfl rfl rfl)) ?_
  refine w_append 1 rfl wt_none Try.underlying63 sz5 by5 zr5 rfl rfl rfl hO rfl rfl (fun w X M => (Own.src Try.underlying63 (bv_one _) (by decide) M (k := 2) rfl hOc)) (by simp only [maxLen]; omega) (by omega) (fun _ => (by repeat (first | exact trivial | refine ⟨.inr rfl, ?_⟩ | refine ⟨.inl rfl, ?_⟩))) (fun _ h => List.mem_append_left _ (h)) ?_
  intro s sg' hO
  first | refine w_nf (L' := [_, _, [(_, _)]]) rfl ?_ | skip
  refine w_nil ?_
  intro w M
  refine a_store (v := .slice _ _ _) sz63 M rfl rfl rfl (k := 0) (j := 0) rfl rfl rfl rfl rfl ?_
  intro w M
  first | replace M := M.nf (L' := [_, _, [(_, _)]]) rfl | skip
  refine s_nil (e_blk (e_then (c_region ?_)))
  refine s_val (r_add (n := 2) rfl rfl (by decide)) ?_
  refine s_val (r_move (v := .int _ _) rfl) ?_
  refine s_nil (e_then (c_round (c_seq (c_region ?_))))
  replace M := M.lone (L' := [[(b, C [s.v _] 63)], sg']) ⟨.inr rfl, .inr rfl, trivial⟩
  refine s_val (r_lss rfl rfl) ?_
  refine s_nil (e_then (c_seq ?_))
  refine c_yes rfl (by decide) ?_
  refine c_skip (e_then (c_seq (c_block (c_seq (c_region ?_)))))
  refine s_val (r_index1 Try.underlying31 Try.underlying3 rfl sz3 rfl rfl (by omega) (by omega) rfl) ?_
  refine s_val (r_assign (v := .int _ _) rfl) ?_
  refine s_nil (e_then ?_)
  refine c_drawT (by kernel_rfl) [(.q, 1), (.ch, 2), (.q, 0), (.ch, 3)] [4] [[], [], [1], [0, 1, 2], [0, 1, 2, 3]] (by kernel_rfl) [1] M ?_
  refine w_val rfl wt_none (fun w => (r_move (v := .int _ _) rfl)) ?_
  refine w_call0 rfl wt_none (fun w => cl23 rfl) (refInt _ (by omega) (by omega)) (fun _ h => nomatch h) (fun _ _ => (by repeat (first | exact trivial | refine ⟨.inr rfl, ?_⟩ | refine ⟨.inl rfl, ?_⟩))) (fun _ h => h) ?_
  rintro v ⟨sc, sgc⟩ ⟨rfl, hOc⟩
  first | refine w_nf (L' := [_, _, [(_, _)]]) rfl ?_ | skip
  refine w_read (v := .slice _ _ _) rfl wt_none (fun w X G' M => r_load1 Try.underlying63 rfl rfl (M.cell (k := 0) (j := 0) rfl rfl rfl)) ?_
  refine w_append 1 rfl wt_none Try.underlying63 sz5 by5 zr5 rfl rfl rfl hO rfl rfl (fun w X M => (Own.src Try.underlying63 (bv_one _) (by decide) M (k := 2) rfl hOc)) (by simp only [maxLen]; omega) (by omega) (fun _ => (by repeat (first | exact trivial | refine ⟨.inr rfl, ?_⟩ | refine ⟨.inl rfl, ?_⟩))) (fun _ h => List.mem_append_left _ (h)) ?_
  intro s sg' hO
  first | refine w_nf (L' := [_, _, [(_, _)]]) rfl ?_ | skip
  refine w_nil ?_
  intro w M
  refine a_store (v := .slice _ _ _) sz63 M rfl rfl rfl (k := 0) (j := 0) rfl rfl rfl rfl rfl ?_
  intro w M
  first | replace M := M.nf (L' := [_, _, [(_, _)]]) rfl | skip
  refine s_nil (e_blk (e_then (c_region ?_)))
  refine s_val (r_add (n := 3) rfl rfl (by decide)) ?_
  refine s_val (r_move (v := .int _ _) rfl) ?_
  refine s_nil (e_then (c_round (c_seq (c_region ?_))))
  replace M := M.lone (L' := [[(b, C [s.v _] 63)], sg']) ⟨.inr rfl, .inr rfl, trivial⟩
  refine s_val (r_lss rfl rfl) ?_
  refine s_nil (e_then (c_seq ?_))
  refine c_yes rfl (by decide) ?_
  refine c_skip (e_then (c_seq (c_block (c_seq (c_region ?_)))))
  refine s_val (r_index1 Try.underlying31 Try.underlying3 rfl sz3 rfl rfl (by omega) (by omega) rfl) ?_
  refine s_val (r_assign (v := .int _ _) rfl) ?_
  refine s_nil (e_then ?_)
  refine c_drawT (by kernel_rfl) [(.q, 1), (.ch, 2), (.q, 0), (.ch, 3)] [4] [[], [], [1], [0, 1, 2], [0, 1, 2, 3]] (by kernel_rfl) [1] M ?_
  refine w_val rfl wt_none (fun w => (r_move (v := .int _ _) rfl)) ?_
  refine w_call0 rfl wt_none (fun w => cl23 rfl) (refInt _ (by omega) (by omega)) (fun _ h => nomatch h) (fun _ _ => (by repeat (first | exact trivial | refine ⟨.inr rfl, ?_⟩ | refine ⟨.inl rfl, ?_⟩))) (fun _ h => h) ?_
  rintro v ⟨sc, sgc⟩ ⟨rfl, hOc⟩
  first | refine w_nf (L' := [_, _, [(_, _)]]) rfl ?_ | skip
  refine w_read (v := .slice _ _ _) rfl wt_none (fun w X G' M => r_load1 Try.underlying63 rfl rfl (M.cell (k := 0) (j := 0) rfl rfl rfl)) ?_
  refine w_append 1 rfl wt_none Try.underlying63 sz5 by5 zr5 rfl rfl rfl hO rfl rfl (fun w X M => (Own.src Try.underlying63 (bv_one _) (by decide) M (k := 2) rfl hOc)) (by simp only [maxLen]; omega) (by omega) (fun _ => (by repeat (first | exact trivial | refine ⟨.inr rfl, ?_⟩ | refine ⟨.inl rfl, ?_⟩))) (fun _ h => List.mem_append_left _ (h)) ?_
  intro s sg' hO
  first | refine w_nf (L' := [_, _, [(_, _)]]) rfl ?_ | skip
  refine w_nil ?_
  intro w M
  refine a_store (v := .slice _ _ _) sz63 M rfl rfl rfl (k := 0) (j := 0) rfl rfl rfl rfl rfl ?_
  intro w M
  first | replace M := M.nf (L' := [_, _, [(_, _)]]) rfl | skip
  refine s_nil (e_blk (e_then (c_region ?_)))
  refine s_val (r_add (n := 4) rfl rfl (by decide)) ?_
  refine s_val (r_move (v := .int _ _) rfl) ?_
  refine s_nil (e_then (c_round (c_seq (c_region ?_))))
  replace M := M.lone (L' := [[(b, C [s.v _] 63)], sg']) ⟨.inr rfl, .inr rfl, trivial⟩
  refine s_val (r_lss rfl rfl) ?_
  refine s_nil (e_then (c_seq ?_))
  refine c_no rfl (by decide) ?_
  refine c_exit (e_then_exit (e_then_exit (e_blk_here ?_)))
  refine end_run (res_none rfl) ?_
  exact ⟨_, _, rfl, ⟨rfl, s, _, sg', by simp [numB, hm]; omega, by simpa [numB, bv_append] using hO, rfl⟩, M.flat rfl⟩

theorem wrPut (b : Nat) (l : List Int) (sg : Seg) (s2 : Sl) (k : Nat) (l2 : List Int) (hB : BufAt 97 5 b l sg) (hlen : l.length + k ≤ 140737488355328) (ks : List Nat) (w0 : World) (M : St ks (keysOf [sg]) w0 w0 [sg] [SlF s2 k 1 (bv l2)]) :
    Calls Try.prog 28 #[.pointer (some ⟨b, 0, none⟩), s2.v k] w0 fun e w' => ∃ v, ∃ g : Seg, e = .returned v ∧ (v = .tuple #[] ∧ BufAt 97 5 b (l ++ l2) g) ∧ St ks (keysOf [sg]) w0 w' [g] [] := by
  obtain ⟨s, m, sg', hm, hO, rfl⟩ := hB
  replace M := M.flat (L' := [[(b, C [s.v m] 97)], sg']) rfl
  have hk := (M.fact (j := 0) rfl).len
  refine calls_of 15 Try.func28 rfl rfl rfl ?_
  refine c_seq (c_region ?_)
  refine s_val (r_move (v := .pointer _) rfl) ?_
  refine s_val (r_neqnil Try.underlying95 rfl rfl) ?_
  refine s_nil (e_then ?_)
  refine c_yes rfl (by decide) ?_
  refine c_region ?_
  refine s_val (r_move (v := .pointer _) rfl) ?_
  refine s_val (r_move (v := .pointer _) rfl) ?_
  refine s_val (r_nil rfl) ?_
  refine s_val (r_fieldAddr (o' := 0) fb97_0 (by decide) rfl rfl) ?_
  refine a_load1 (v := .slice _ _ _) Try.underlying63 rfl M rfl (k := 0) (j := 0) rfl rfl rfl ?_
  refine s_val (r_move (v := .slice _ _ _) rfl) ?_
  refine a_append 1 Try.underlying63 sz5 by5 zr5 rfl rfl M rfl hO rfl rfl ((M.fact (j := 0) rfl).src Try.underlying63 (bv_one _)) (by simp only [maxLen]; omega) (by omega) ?_
  intro s1 sg1 w hO1 M
  first | replace M := M.nf (L' := [_, _]) rfl | skip
  refine s_val (r_nil rfl) ?_
  refine s_val (r_fieldAddr (o' := 0) fb97_0 (by decide) rfl rfl) ?_
  refine a_store (v := .slice _ _ _) sz63 M rfl rfl rfl (k := 0) (j := 0) rfl rfl rfl rfl rfl ?_
  intro w M
  first | replace M := M.nf (L' := [_, _]) rfl | skip
  refine s_nil ?_
  refine end_run (res_none rfl) ?_
  exact ⟨_, _, rfl, ⟨rfl, s1, _, sg1, by simp at hk; simp [hm, hk], by rw [bv_append]; exact hO1, rfl⟩, (M.lone (L' := [[(b, C [s1.v _] 97)], sg1]) ⟨.inr rfl, .inr rfl, trivial⟩).flat rfl⟩

theorem wrBytes (b : Nat) (l : List Int) (sg : Seg) (hB : BufAt 97 5 b l sg) (hlen : l.length ≤ 140737488355328) (ks : List Nat) (w0 : World) (M : St ks (keysOf [sg]) w0 w0 [sg] []) :
    Calls Try.prog 26 #[.pointer (some ⟨b, 0, none⟩)] w0 fun e w' => ∃ v, ∃ g : Seg × Sl × Seg, e = .returned v ∧ (v = g.2.1.v l.length ∧ Own 5 1 g.2.1 l.length (bv l) g.2.2 ∧ BufAt 97 5 b l g.1) ∧ St ks (keysOf [sg]) w0 w' [g.1, g.2.2] [] := by
  obtain ⟨s, m, sg', hm, hO, rfl⟩ := hB
  subst hm
  replace M := M.flat (L' := [[(b, C [s.v l.length] 97)], sg']) rfl
  refine calls_of 11 Try.func26 rfl rfl rfl ?_
  refine c_seq (c_region ?_)
  refine s_val (r_assign (v := .slice _ _ _) rfl) ?_
  refine s_nil (e_then (c_seq (c_seq (c_region ?_))))
  refine s_val (r_move (v := .pointer _) rfl) ?_
  refine s_val (r_eqlnil Try.underlying95 rfl rfl) ?_
  refine s_nil (e_then ?_)
  refine c_no rfl (by decide) ?_
  refine c_skip (e_then (c_seq (c_region ?_)))
  refine a_buildSliceS (cs := []) Try.underlying63 sz5 zr5 rfl rfl (by decide) rfl (ps := []) (qs := []) rfl trivial rfl M ?_
  intro b5 w M
  first | replace M := M.nf (L' := [_, _, [(_, _)]]) rfl | skip
  refine s_val (r_move (v := .pointer _) rfl) ?_
  refine s_val (r_nil rfl) ?_
  refine s_val (r_fieldAddr (o' := 0) fb97_0 (by decide) rfl rfl) ?_
  refine a_load1 (v := .slice _ _ _) Try.underlying63 rfl M rfl (k := 0) (j := 0) rfl rfl rfl ?_
  refine a_append 2 Try.underlying63 sz5 by5 zr5 rfl rfl M rfl (own_lit (n := 0) rfl (by decide)) rfl rfl (Own.src Try.underlying63 (bv_one _) (by decide) M (k := 1) rfl hO) (by simp only [maxLen]; omega) (by omega) ?_
  intro s1 sg1 w hO1 M
  first | replace M := M.nf (L' := [_, _, _]) rfl | skip
  refine s_val (r_assign (v := .slice _ _ _) rfl) ?_
  refine s_nil (e_then (c_ret ?_))
  refine ret_run (res_1 (v := .slice _ _ _) rfl rfl) ?_
  exact ⟨_, ((b, C [s.v l.length] 97) :: sg', s1, sg1), rfl, ⟨by simp, by simpa [fillL, zeros] using hO1, s, _, sg', rfl, hO, rfl⟩, M.flat rfl⟩
end Go.Proofs.Ytcjnniigonaapaa
