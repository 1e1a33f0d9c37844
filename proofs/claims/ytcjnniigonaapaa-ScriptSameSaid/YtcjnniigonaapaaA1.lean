/-
  WALKS 1: fix, vec, the document's Count and Int.
-/
import Derived.Test.YtcjnniigonaapaaTy
import Derived.Test.YtcjnniigonaapaaE1
namespace Go.Proofs.Ytcjnniigonaapaa
open Go Go.Az Go.Proofs

theorem fixWithin (a m : Int) (h0 : 0 ≤ m) (h1 : m ≤ 9223372036854775807) (w : World) : Calls Try.prog 58 #[i64 a, i64 m] w fun e w' => e = .returned (i64 (within a m)) ∧ Keep [] w w' := by
  have M := St.nil w
  refine calls_of 11 Try.func58 rfl rfl rfl ?_
  refine c_seq (c_region ?_)
  refine s_val (r_assign (v := .int _ _) rfl) ?_
  refine s_nil (e_then (c_seq (c_region ?_)))
  refine s_val (r_move (v := .int _ _) rfl) ?_
  refine s_val (r_move (v := .int _ _) rfl) ?_
  refine s_val (r_min2 rfl rfl) ?_
  refine s_val (r_move (v := .int _ _) rfl) ?_
  first | (refine s_val (r_neg rfl (n64 (by omega) (by omega))) ?_) | (refine s_val (r_neg rfl rfl) ?_)
  refine s_val (r_max2 rfl rfl) ?_
  refine s_val (r_assign (v := .int _ _) rfl) ?_
  refine s_nil (e_then (c_ret ?_))
  refine ret_run (res_1 (v := .int _ _) rfl rfl) ?_
  exact ⟨rfl, M.keep⟩

theorem fixClamp (a : Int) (w : World) : Calls Try.prog 57 #[i64 a] w fun e w' => e = .returned (i64 (clamp a)) ∧ Keep [] w w' := by
  have M := St.nil w
  refine calls_of 5 Try.func57 rfl rfl rfl ?_
  refine c_seq (c_region ?_)
  refine s_val (r_assign (v := .int _ _) rfl) ?_
  refine s_nil (e_then (c_seq (c_region ?_)))
  refine s_val (r_move (v := .int _ _) rfl) ?_
  refine s_callP (cl58 rfl) (fixWithin _ _ (by omega) (by omega) _) M ?_
  intro w M
  refine s_val (r_assign (v := .int _ _) rfl) ?_
  refine s_nil (e_then (c_ret ?_))
  refine ret_run (res_1 (v := .int _ _) rfl rfl) ?_
  exact ⟨rfl, M.keep⟩

theorem fixOf_ (a : Int) (w : World) : Calls Try.prog 41 #[i64 a] w fun e w' => e = .returned (i64 (fixOf a)) ∧ Keep [] w w' := by
  have hw : -65536 ≤ within a 65536 ∧ within a 65536 ≤ 65536 := by unfold within; omega
  have M := St.nil w
  refine calls_of 7 Try.func41 rfl rfl rfl ?_
  refine c_seq (c_region ?_)
  refine s_val (r_assign (v := .int _ _) rfl) ?_
  refine s_nil (e_then (c_seq (c_region ?_)))
  refine s_val (r_move (v := .int _ _) rfl) ?_
  refine s_callP (cl58 rfl) (fixWithin _ _ (by omega) (by omega) _) M ?_
  intro w M
  refine s_val (r_shl rfl rfl (by decide) (sl64 (c := 65536) (by decide) (by omega) (by omega) rfl)) ?_
  refine s_callP (cl57 rfl) (fixClamp _ _) M ?_
  intro w M
  refine s_val (r_assign (v := .int _ _) rfl) ?_
  refine s_nil (e_then (c_ret ?_))
  refine ret_run (res_1 (v := .int _ _) rfl rfl) ?_
  exact ⟨rfl, M.keep⟩

theorem vecWithin (v : V4) (m : Int) (h0 : 0 ≤ m) (h1 : m ≤ 9223372036854775807) (w : World) : Calls Try.prog 45 #[.agg (v4 v).toArray, i64 m] w fun e w' => e = .returned (.agg (v4 (v.within m)).toArray) ∧ Keep [] w w' := by
  obtain ⟨a, b, c, d⟩ := v
  have M := St.nil w
  refine calls_of 19 Try.func45 rfl rfl rfl ?_
  refine c_seq (c_region ?_)
  refine a_box (v := .agg _) rfl cells_agg M ?_
  intro b2 w M
  first | replace M := M.nf (L' := [[(_, _)]]) rfl | skip
  refine a_alloc zr31 cells_agg M ?_
  intro b4 w M
  first | replace M := M.nf (L' := [[(_, _)], [(_, _)]]) rfl | skip
  refine s_nil (e_then (c_seq (c_seq (c_region ?_))))
  refine a_loadA Try.underlying31 rfl sz31 M rfl (k := 0) (j := 0) rfl rfl rfl ?_
  refine s_val (r_move (v := .int _ _) rfl) ?_
  refine s_nil (e_then (c_block ?_))
  refine c_rounds 5 ?_
  refine c_round (c_seq (c_region ?_))
  refine s_val (r_lss rfl rfl) ?_
  refine s_nil (e_then (c_seq ?_))
  refine c_yes rfl (by decide) ?_
  refine c_skip (e_then (c_seq (c_block (c_seq (c_region ?_)))))
  refine s_val (r_move (v := .int _ _) rfl) ?_
  refine s_val (r_index1 Try.underlying31 Try.underlying3 rfl sz3 rfl rfl (by omega) (by omega) rfl) ?_
  refine s_val (r_assign (v := .int _ _) rfl) ?_
  refine s_val (r_assign (v := .int _ _) rfl) ?_
  refine s_nil (e_then (c_region ?_))
  refine s_val (r_move (v := .int _ _) rfl) ?_
  refine s_val (r_move (v := .int _ _) rfl) ?_
  refine s_val (r_move (v := .int _ _) rfl) ?_
  refine s_callP (cl58 rfl) (fixWithin _ _ (by omega) (by omega) _) M ?_
  intro w M
  refine s_val (r_indexAddrA (o' := 0) Try.underlying31 sz3 rfl rfl (by omega) (by omega) rfl) ?_
  refine a_storeS (v := .int _ _) (cs' := [_, _, _, _]) sz3 M rfl rfl rfl (k := 0) (j := 0) rfl rfl rfl rfl rfl rfl ?_
  intro w M
  first | replace M := M.nf (L' := [[(_, _)], [(_, _)]]) rfl | skip
  refine s_nil (e_blk (e_then (c_region ?_)))
  refine s_val (r_add (n := 1) rfl rfl (by decide)) ?_
  refine s_val (r_move (v := .int _ _) rfl) ?_
  refine s_nil (e_then (c_round (c_seq (c_region ?_))))
  refine s_val (r_lss rfl rfl) ?_
  refine s_nil (e_then (c_seq ?_))
  refine c_yes rfl (by decide) ?_
  refine c_skip (e_then (c_seq (c_block (c_seq (c_region ?_)))))
  refine s_val (r_move (v := .int _ _) rfl) ?_
  refine s_val (r_index1 Try.underlying31 Try.underlying3 rfl sz3 rfl rfl (by omega) (by omega) rfl) ?_
  refine s_val (r_assign (v := .int _ _) rfl) ?_
  refine s_val (r_assign (v := .int _ _) rfl) ?_
  refine s_nil (e_then (c_region ?_))
  refine s_val (r_move (v := .int _ _) rfl) ?_
  refine s_val (r_move (v := .int _ _) rfl) ?_
  refine s_val (r_move (v := .int _ _) rfl) ?_
  refine s_callP (cl58 rfl) (fixWithin _ _ (by omega) (by omega) _) M ?_
  intro w M
  refine s_val (r_indexAddrA (o' := 1) Try.underlying31 sz3 rfl rfl (by omega) (by omega) rfl) ?_
  refine a_storeS (v := .int _ _) (cs' := [_, _, _, _]) sz3 M rfl rfl rfl (k := 0) (j := 0) rfl rfl rfl rfl rfl rfl ?_
  intro w M
  first | replace M := M.nf (L' := [[(_, _)], [(_, _)]]) rfl | skip
  refine s_nil (e_blk (e_then (c_region ?_)))
  refine s_val (r_add (n := 2) rfl rfl (by decide)) ?_
  refine s_val (r_move (v := .int _ _) rfl) ?_
  refine s_nil (e_then (c_round (c_seq (c_region ?_))))
  refine s_val (r_lss rfl rfl) ?_
  refine s_nil (e_then (c_seq ?_))
  refine c_yes rfl (by decide) ?_
  refine c_skip (e_then (c_seq (c_block (c_seq (c_region ?_)))))
  refine s_val (r_move (v := .int _ _) rfl) ?_
  refine s_val (r_index1 Try.underlying31 Try.underlying3 rfl sz3 rfl rfl (by omega) (by omega) rfl) ?_
  refine s_val (r_assign (v := .int _ _) rfl) ?_
  refine s_val (r_assign (v := .int _ _) rfl) ?_
  refine s_nil (e_then (c_region ?_))
  refine s_val (r_move (v := .int _ _) rfl) ?_
  refine s_val (r_move (v := .int _ _) rfl) ?_
  refine s_val (r_move (v := .int _ _) rfl) ?_
  refine s_callP (cl58 rfl) (fixWithin _ _ (by omega) (by omega) _) M ?_
  intro w M
  refine s_val (r_indexAddrA (o' := 2) Try.underlying31 sz3 rfl rfl (by omega) (by omega) rfl) ?_
  refine a_storeS (v := .int _ _) (cs' := [_, _, _, _]) sz3 M rfl rfl rfl (k := 0) (j := 0) rfl rfl rfl rfl rfl rfl ?_
  intro w M
  first | replace M := M.nf (L' := [[(_, _)], [(_, _)]]) rfl | skip
  refine s_nil (e_blk (e_then (c_region ?_)))
  refine s_val (r_add (n := 3) rfl rfl (by decide)) ?_
  refine s_val (r_move (v := .int _ _) rfl) ?_
  refine s_nil (e_then (c_round (c_seq (c_region ?_))))
  refine s_val (r_lss rfl rfl) ?_
  refine s_nil (e_then (c_seq ?_))
  refine c_yes rfl (by decide) ?_
  refine c_skip (e_then (c_seq (c_block (c_seq (c_region ?_)))))
  refine s_val (r_move (v := .int _ _) rfl) ?_
  refine s_val (r_index1 Try.underlying31 Try.underlying3 rfl sz3 rfl rfl (by omega) (by omega) rfl) ?_
  refine s_val (r_assign (v := .int _ _) rfl) ?_
  refine s_val (r_assign (v := .int _ _) rfl) ?_
  refine s_nil (e_then (c_region ?_))
  refine s_val (r_move (v := .int _ _) rfl) ?_
  refine s_val (r_move (v := .int _ _) rfl) ?_
  refine s_val (r_move (v := .int _ _) rfl) ?_
  refine s_callP (cl58 rfl) (fixWithin _ _ (by omega) (by omega) _) M ?_
  intro w M
  refine s_val (r_indexAddrA (o' := 3) Try.underlying31 sz3 rfl rfl (by omega) (by omega) rfl) ?_
  refine a_storeS (v := .int _ _) (cs' := [_, _, _, _]) sz3 M rfl rfl rfl (k := 0) (j := 0) rfl rfl rfl rfl rfl rfl ?_
  intro w M
  first | replace M := M.nf (L' := [[(_, _)], [(_, _)]]) rfl | skip
  refine s_nil (e_blk (e_then (c_region ?_)))
  refine s_val (r_add (n := 4) rfl rfl (by decide)) ?_
  refine s_val (r_move (v := .int _ _) rfl) ?_
  refine s_nil (e_then (c_round (c_seq (c_region ?_))))
  refine s_val (r_lss rfl rfl) ?_
  refine s_nil (e_then (c_seq ?_))
  refine c_no rfl (by decide) ?_
  refine c_exit (e_then_exit (e_then_exit (e_blk_here (e_then (c_seq (c_region ?_))))))
  refine a_loadA Try.underlying31 rfl sz31 M rfl (k := 0) (j := 0) rfl rfl rfl ?_
  refine a_storeS (v := .agg _) (cs' := [_, _, _, _]) sz31 M rfl rfl cells_agg (k := 1) (j := 0) rfl rfl rfl rfl rfl rfl ?_
  intro w M
  first | replace M := M.nf (L' := [[(_, _)], [(_, _)]]) rfl | skip
  refine s_nil (e_then (c_ret ?_))
  refine ret_run (res_c rfl rfl (run_loadVarN Try.underlying31 rfl sz31 rfl (M.cellsA (k := 1) (j := 0) rfl rfl))) ?_
  exact ⟨rfl, M.keep⟩

theorem vecUnit (w : World) : Calls Try.prog 11 #[] w fun e w' => e = .returned (.agg (v4 ⟨65536, 0, 0, 0⟩ ++ v4 ⟨0, 65536, 0, 0⟩ ++ v4 ⟨0, 0, 65536, 0⟩ ++ v4 ⟨0, 0, 0, 65536⟩).toArray) ∧ Keep [] w w' := by
  have M := St.nil w
  refine calls_of 13 Try.func11 rfl rfl rfl ?_
  refine c_seq (c_region ?_)
  refine a_alloc zr33 cells_agg M ?_
  intro b0 w M
  first | replace M := M.nf (L' := [[(_, _)]]) rfl | skip
  refine s_nil (e_then (c_seq (c_region ?_)))
  refine a_alloc zr33 cells_agg M ?_
  intro b1 w M
  first | replace M := M.nf (L' := [[(_, _)], [(_, _)]]) rfl | skip
  refine s_nil (e_then (c_seq (c_seq (c_region ?_))))
  refine s_val (r_move (v := .int _ _) rfl) ?_
  refine s_nil (e_then (c_block ?_))
  refine c_rounds 5 ?_
  refine c_round (c_seq (c_region ?_))
  refine s_val (r_lss rfl rfl) ?_
  refine s_nil (e_then (c_seq ?_))
  refine c_yes rfl (by decide) ?_
  refine c_skip (e_then (c_seq (c_block (c_seq (c_region ?_)))))
  refine s_val (r_move (v := .int _ _) rfl) ?_
  refine s_val (r_assign (v := .int _ _) rfl) ?_
  refine s_nil (e_then ?_)
  refine c_drawT (by kernel_rfl) [(.ch, 2), (.q, 0), (.q, 1), (.q, 3), (.q, 4)] [5] [[], [], [], [0], [0, 1, 2, 3], [0, 1, 2, 3, 4]] (by kernel_rfl) [1] M ?_
  refine w_callP rfl wt_none (fun w => cl41 rfl) (fun w X M => fixOf_ _ _) (by repeat (first | exact trivial | refine ⟨.inr rfl, ?_⟩ | refine ⟨.inl rfl, ?_⟩)) (fun _ h => h) ?_
  refine w_val rfl wt_none (fun w => (r_move (v := .int _ _) rfl)) ?_
  refine w_val rfl wt_none (fun w => (r_move (v := .int _ _) rfl)) ?_
  refine w_val rfl wt_none (fun w => (r_indexAddrA (o' := 0) Try.underlying33 sz31 rfl rfl (by omega) (by omega) rfl)) ?_
  refine w_val rfl wt_none (fun w => (r_indexAddrA (o' := 0) Try.underlying31 sz3 rfl rfl (by omega) (by omega) rfl)) ?_
  refine w_nil ?_
  intro w M
  refine a_storeS (v := .int _ _) (cs' := [_, _, _, _, _, _, _, _, _, _, _, _, _, _, _, _]) sz3 M rfl rfl rfl (k := 1) (j := 0) rfl rfl rfl rfl rfl rfl ?_
  intro w M
  first | replace M := M.nf (L' := [[(_, _)], [(_, _)]]) rfl | skip
  refine s_nil (e_blk (e_then (c_region ?_)))
  refine s_val (r_add (n := 1) rfl rfl (by decide)) ?_
  refine s_val (r_move (v := .int _ _) rfl) ?_
  refine s_nil (e_then (c_round (c_seq (c_region ?_))))
  refine s_val (r_lss rfl rfl) ?_
  refine s_nil (e_then (c_seq ?_))
  refine c_yes rfl (by decide) ?_
  refine c_skip (e_then (c_seq (c_block (c_seq (c_region ?_)))))
  refine s_val (r_move (v := .int _ _) rfl) ?_
  refine s_val (r_assign (v := .int _ _) rfl) ?_
  refine s_nil (e_then ?_)
  refine c_drawT (by kernel_rfl) [(.ch, 2), (.q, 0), (.q, 1), (.q, 3), (.q, 4)] [5] [[], [], [], [0], [0, 1, 2, 3], [0, 1, 2, 3, 4]] (by kernel_rfl) [1] M ?_
  refine w_callP rfl wt_none (fun w => cl41 rfl) (fun w X M => fixOf_ _ _) (by repeat (first | exact trivial | refine ⟨.inr rfl, ?_⟩ | refine ⟨.inl rfl, ?_⟩)) (fun _ h => h) ?_
  refine w_val rfl wt_none (fun w => (r_move (v := .int _ _) rfl)) ?_
  refine w_val rfl wt_none (fun w => (r_move (v := .int _ _) rfl)) ?_
  refine w_val rfl wt_none (fun w => (r_indexAddrA (o' := 4) Try.underlying33 sz31 rfl rfl (by omega) (by omega) rfl)) ?_
  refine w_val rfl wt_none (fun w => (r_indexAddrA (o' := 5) Try.underlying31 sz3 rfl rfl (by omega) (by omega) rfl)) ?_
  refine w_nil ?_
  intro w M
  refine a_storeS (v := .int _ _) (cs' := [_, _, _, _, _, _, _, _, _, _, _, _, _, _, _, _]) sz3 M rfl rfl rfl (k := 1) (j := 0) rfl rfl rfl rfl rfl rfl ?_
  intro w M
  first | replace M := M.nf (L' := [[(_, _)], [(_, _)]]) rfl | skip
  refine s_nil (e_blk (e_then (c_region ?_)))
  refine s_val (r_add (n := 2) rfl rfl (by decide)) ?_
  refine s_val (r_move (v := .int _ _) rfl) ?_
  refine s_nil (e_then (c_round (c_seq (c_region ?_))))
  refine s_val (r_lss rfl rfl) ?_
  refine s_nil (e_then (c_seq ?_))
  refine c_yes rfl (by decide) ?_
  refine c_skip (e_then (c_seq (c_block (c_seq (c_region ?_)))))
  refine s_val (r_move (v := .int _ _) rfl) ?_
  refine s_val (r_assign (v := .int _ _) rfl) ?_
  refine s_nil (e_then ?_)
  refine c_drawT (by kernel_rfl) [(.ch, 2), (.q, 0), (.q, 1), (.q, 3), (.q, 4)] [5] [[], [], [], [0], [0, 1, 2, 3], [0, 1, 2, 3, 4]] (by kernel_rfl) [1] M ?_
  refine w_callP rfl wt_none (fun w => cl41 rfl) (fun w X M => fixOf_ _ _) (by repeat (first | exact trivial | refine ⟨.inr rfl, ?_⟩ | refine ⟨.inl rfl, ?_⟩)) (fun _ h => h) ?_
  refine w_val rfl wt_none (fun w => (r_move (v := .int _ _) rfl)) ?_
  refine w_val rfl wt_none (fun w => (r_move (v := .int _ _) rfl)) ?_
  refine w_val rfl wt_none (fun w => (r_indexAddrA (o' := 8) Try.underlying33 sz31 rfl rfl (by omega) (by omega) rfl)) ?_
  refine w_val rfl wt_none (fun w => (r_indexAddrA (o' := 10) Try.underlying31 sz3 rfl rfl (by omega) (by omega) rfl)) ?_
  refine w_nil ?_
  intro w M
  refine a_storeS (v := .int _ _) (cs' := [_, _, _, _, _, _, _, _, _, _, _, _, _, _, _, _]) sz3 M rfl rfl rfl (k := 1) (j := 0) rfl rfl rfl rfl rfl rfl ?_
  intro w M
  first | replace M := M.nf (L' := [[(_, _)], [(_, _)]]) rfl | skip
  refine s_nil (e_blk (e_then (c_region ?_)))
  refine s_val (r_add (n := 3) rfl rfl (by decide)) ?_
  refine s_val (r_move (v := .int _ _) rfl) ?_
  refine s_nil (e_then (c_round (c_seq (c_region ?_))))
  refine s_val (r_lss rfl rfl) ?_
  refine s_nil (e_then (c_seq ?_))
  refine c_yes rfl (by decide) ?_
  refine c_skip (e_then (c_seq (c_block (c_seq (c_region ?_)))))
  refine s_val (r_move (v := .int _ _) rfl) ?_
  refine s_val (r_assign (v := .int _ _) rfl) ?_
  refine s_nil (e_then ?_)
  refine c_drawT (by kernel_rfl) [(.ch, 2), (.q, 0), (.q, 1), (.q, 3), (.q, 4)] [5] [[], [], [], [0], [0, 1, 2, 3], [0, 1, 2, 3, 4]] (by kernel_rfl) [1] M ?_
  refine w_callP rfl wt_none (fun w => cl41 rfl) (fun w X M => fixOf_ _ _) (by repeat (first | exact trivial | refine ⟨.inr rfl, ?_⟩ | refine ⟨.inl rfl, ?_⟩)) (fun _ h => h) ?_
  refine w_val rfl wt_none (fun w => (r_move (v := .int _ _) rfl)) ?_
  refine w_val rfl wt_none (fun w => (r_move (v := .int _ _) rfl)) ?_
  refine w_val rfl wt_none (fun w => (r_indexAddrA (o' := 12) Try.underlying33 sz31 rfl rfl (by omega) (by omega) rfl)) ?_
  refine w_val rfl wt_none (fun w => (r_indexAddrA (o' := 15) Try.underlying31 sz3 rfl rfl (by omega) (by omega) rfl)) ?_
  refine w_nil ?_
  intro w M
  refine a_storeS (v := .int _ _) (cs' := [_, _, _, _, _, _, _, _, _, _, _, _, _, _, _, _]) sz3 M rfl rfl rfl (k := 1) (j := 0) rfl rfl rfl rfl rfl rfl ?_
  intro w M
  first | replace M := M.nf (L' := [[(_, _)], [(_, _)]]) rfl | skip
  refine s_nil (e_blk (e_then (c_region ?_)))
  refine s_val (r_add (n := 4) rfl rfl (by decide)) ?_
  refine s_val (r_move (v := .int _ _) rfl) ?_
  refine s_nil (e_then (c_round (c_seq (c_region ?_))))
  refine s_val (r_lss rfl rfl) ?_
  refine s_nil (e_then (c_seq ?_))
  refine c_no rfl (by decide) ?_
  refine c_exit (e_then_exit (e_then_exit (e_blk_here (e_then (c_seq (c_region ?_))))))
  refine a_loadA Try.underlying33 rfl sz33 M rfl (k := 1) (j := 0) rfl rfl rfl ?_
  refine a_storeS (v := .agg _) (cs' := [_, _, _, _, _, _, _, _, _, _, _, _, _, _, _, _]) sz33 M rfl rfl cells_agg (k := 0) (j := 0) rfl rfl rfl rfl rfl rfl ?_
  intro w M
  first | replace M := M.nf (L' := [[(_, _)], [(_, _)]]) rfl | skip
  refine s_nil (e_then (c_ret ?_))
  refine ret_run (res_c rfl rfl (run_loadVarN Try.underlying33 rfl sz33 rfl (M.cellsA (k := 0) (j := 0) rfl rfl))) ?_
  exact ⟨rfl, M.keep⟩

theorem refCount (n : Nat) (hn : n < 18446744073709551616) (ks : List Nat) (w0 : World) (M : St ks [] w0 w0 [] []) :
    Calls Try.prog 21 #[u64 n] w0 fun e w' => ∃ v, ∃ g : Sl × Seg, e = .returned v ∧ (v = g.1.v (cnt n).length ∧ Own 5 1 g.1 (cnt n).length (bv (cnt n)) g.2) ∧ St ks [] w0 w' [g.2] [] := by
  have hl := cnt_len10 hn
  skip
  refine calls_of 20 Try.func21 rfl rfl rfl ?_
  refine c_seq (c_region ?_)
  refine s_val (r_assign (v := .slice _ _ _) rfl) ?_
  refine s_nil (e_then (c_seq (c_region ?_)))
  refine s_val (r_assign (v := .slice _ _ _) rfl) ?_
  refine s_nil (e_then (c_seq (c_block ?_)))
  refine c_loopG [0, 3, 4, 5, 6, 7, 8, 9, 10, 11, 12, 13, 14] (Γ := Nat × List Int × Sl × Seg) (vals := fun (m, out, s, sg) => [(0, u64 m), (3, s.v out.length)]) (I := fun k (m, out, s, sg) w => m ≤ k ∧ m < 18446744073709551616 ∧ cnt n = out ++ cnt m ∧ out.length ≤ 10 ∧ Own 5 1 s out.length (bv out) sg ∧ St ks [] w0 w [sg] []) n (n, [], ⟨none, 0⟩, []) ⟨rfl, rfl, trivial⟩ ⟨Nat.le_refl _, hn, rfl, by simp, Own.nil _ _, M.flat rfl⟩ ?_
  rintro k ⟨m, out, s, sg⟩ e w ⟨hk, hm, hc, ho, hO, M⟩
  have hb : (0 : Int) ≤ m ∧ (m : Int) ≤ 18446744073709551615 := by omega
  refine c_seq (c_seq (c_region ?_))
  refine s_val (r_move (v := .int _ _) rfl) ?_
  refine s_val (r_geq rfl rfl) ?_
  refine s_nil (e_then ?_)
  refine c_if rfl (fun h5 => ?_) (fun h5 => ?_)
  ·
   refine c_skip (e_then (c_block (c_seq (c_region ?_))))
   refine s_val (r_move (v := .slice _ _ _) rfl) ?_
   refine s_val (r_move (v := .int _ _) rfl) ?_
   first | (refine s_val (r_rem rfl rfl (by omega) (Int.tmod_eq_emod_of_nonneg (by omega))) ?_) | (refine s_val (r_rem rfl rfl (by omega) rfl) ?_)
   first | (refine s_val (r_add rfl rfl (wu64 (by omega) (by omega))) ?_) | (refine s_val (r_add rfl rfl rfl) ?_)
   first | (refine s_val (r_conv Try.underlying90 Try.underlying5 rfl (w8 (by omega) (by omega))) ?_) | (refine s_val (r_conv Try.underlying90 Try.underlying5 rfl wr8) ?_)
   refine a_buildSliceS (cs := [_]) Try.underlying63 sz5 zr5 rfl rfl (by decide) rfl (ps := [(0, .int _ _)]) (qs := [(0, [_])]) rfl ⟨rfl, rfl, rfl, trivial⟩ rfl M ?_
   intro b11 w M
   first | replace M := M.nf (L' := [_, [(_, _)]]) rfl | skip
   refine a_append 0 Try.underlying63 sz5 by5 zr5 rfl rfl M rfl hO rfl rfl (SlF.src Try.underlying63 (slF_lit M (k := 1) (j := 0) rfl rfl rfl rfl) rfl) (by simp only [maxLen]; omega) (by omega) ?_
   intro s1 sg1 w hO1 M
   first | replace M := M.nf (L' := [_, [(_, _)]]) rfl | skip
   refine s_val (r_assign (v := .slice _ _ _) rfl) ?_
   refine s_nil (e_then (c_region ?_))
   refine s_val (r_move (v := .int _ _) rfl) ?_
   first | (refine s_val (r_quo rfl rfl (by omega) (qu64 (by omega) (by omega) (by omega))) ?_) | (refine s_val (r_quo rfl rfl (by omega) rfl) ?_)
   refine s_val (r_assign (v := .int _ _) rfl) ?_
   refine s_nil (e_blk (e_then ?_))
   have hlen := congrArg List.length hc
   rw [cnt_ge (n := m) (by omega)] at hlen
   simp only [List.length_append, List.length_cons] at hlen
   exact loop_end (m / 128) (m / 128, out ++ [((m % 128 + 128 : Nat) : Int)], s1, sg1) (by repeat (first | exact ag_refl | exact ag_mask rfl ag_refl | refine ag_upd rfl ?_ | refine ag_mask rfl ?_)) ⟨rfl, congrArg (fun n => s1.v n) (by simp), trivial⟩ (by omega) ⟨Nat.le_refl _, by omega, by rw [hc, cnt_ge (by omega)]; simp, by simp; omega, by rw [bv_append, List.length_append]; exact hO1, M.only ⟨.inr rfl, trivial⟩ trivial⟩
  ·
   refine c_exit (e_then_exit (e_then_exit (e_blk_here (e_then (c_seq (c_region ?_))))))
   rw [cnt_lt (n := m) (by omega)] at hc
   refine s_val (r_move (v := .slice _ _ _) rfl) ?_
   refine s_val (r_move (v := .int _ _) rfl) ?_
   first | (refine s_val (r_conv Try.underlying90 Try.underlying5 rfl (w8 (by omega) (by omega))) ?_) | (refine s_val (r_conv Try.underlying90 Try.underlying5 rfl wr8) ?_)
   refine a_buildSliceS (cs := [_]) Try.underlying63 sz5 zr5 rfl rfl (by decide) rfl (ps := [(0, .int _ _)]) (qs := [(0, [_])]) rfl ⟨rfl, rfl, rfl, trivial⟩ rfl M ?_
   intro b18 w M
   first | replace M := M.nf (L' := [_, [(_, _)]]) rfl | skip
   refine a_append 0 Try.underlying63 sz5 by5 zr5 rfl rfl M rfl hO rfl rfl (SlF.src Try.underlying63 (slF_lit M (k := 1) (j := 0) rfl rfl rfl rfl) rfl) (by simp only [maxLen]; omega) (by omega) ?_
   intro s1 sg1 w hO1 M
   first | replace M := M.nf (L' := [_, [(_, _)]]) rfl | skip
   refine s_val (r_assign (v := .slice _ _ _) rfl) ?_
   refine s_nil (e_then (c_ret ?_))
   refine ret_run (res_1 (v := .slice _ _ _) rfl rfl) ?_
   have e1 : (cnt n).length = out.length + 1 := by rw [hc]; simp
   refine ⟨_, (s1, sg1), rfl, ⟨by rw [e1], ?_⟩, M.only ⟨.inr rfl, trivial⟩ trivial⟩
   rw [hc, bv_append, List.length_append]; exact hO1
end Go.Proofs.Ytcjnniigonaapaa
