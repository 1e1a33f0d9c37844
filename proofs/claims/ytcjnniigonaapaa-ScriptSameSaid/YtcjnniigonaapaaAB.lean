/-
  WALKS B: the law's script.
-/
import Derived.Test.YtcjnniigonaapaaAA
namespace Go.Proofs.Ytcjnniigonaapaa
open Go Go.Az Go.Proofs
set_option maxHeartbeats 1000000
abbrev EdF (l : List (Sl × Drw)) (w : World) : Prop := ∀ x ∈ l, LsF encN 1 x.1 x.2.indices w
abbrev scells (x : SMV) (V S P D : Value) : List Value := [i64 (1 + x.w % 24), i64 (1 + x.h % 24), i64 65536, i64 x.t0, i64 0, i64 0, i64 0, i64 65536, i64 x.t1, i64 0, i64 0, i64 0, i64 65536, i64 x.t2, i64 x.t3, i64 0, i64 0, i64 65536, V, S, P, D]
abbrev zcells : List Value := [i64 0, i64 0, i64 0, i64 0, i64 0, i64 0, i64 0, i64 0, i64 0, i64 0, i64 0, i64 0, i64 0, i64 0, i64 0, i64 0, i64 0, i64 0, .slice none 0 0, .slice none 0 0, .slice none 0 0, .slice none 0 0]
theorem vtx_len (x : Vtx) : (vtx x).length = 8 := rfl
theorem fillV_done {m : Nat} {l : List Vtx} (h : ¬ l.length < 3) : fillV m l = l := by
  cases m with
  | zero => rfl
  | succ m => rw [fillV, if_neg h]
/-- what the script's view becomes -/
abbrev svOf (x : SMV) (V : Sl) (vs : List Vtx) (S : Sl) (ss : List (Sl × Prog)) (P : Sl) (ps : List (Sl × Prog)) (D : Sl) (ds : List (Sl × Drw)) : SV :=
  ⟨1 + x.w % 24, 1 + x.h % 24, ⟨65536, x.t0, 0, 0⟩, ⟨0, 65536, x.t1, 0⟩, ⟨0, 0, 65536, x.t2⟩, ⟨x.t3, 0, 0, 65536⟩, V, vs, S, ss, P, ps, D, ds⟩

theorem scriptOf (x : SMV) (hx : x.sml.wf) (ks : List Nat) (w0 : World) (M : St ks [] w0 w0 [] [SMF x]) :
    Calls Try.prog 6 #[.agg x.cells.toArray] w0 fun e w' => ∃ v, ∃ g : SV × Seg × Seg × Seg × Seg, e = .returned v ∧
      (v = .agg g.1.cells.toArray ∧ g.1.scr = x.sml.scr ∧ Own 41 8 g.1.V g.1.vs.length (g.1.vs.flatMap vtx) g.2.1 ∧ Own 46 1 g.1.S g.1.ss.length (g.1.ss.flatMap encS) g.2.2.1 ∧
        Own 46 1 g.1.P g.1.ps.length (g.1.ps.flatMap encS) g.2.2.2.1 ∧ Own 61 27 g.1.D g.1.ds.length (g.1.ds.flatMap encD) g.2.2.2.2) ∧
      St ks [] w0 w' [g.2.1, g.2.2.1, g.2.2.2.1, g.2.2.2.2] [EaF g.1.ss, EaF g.1.ps, EdF g.1.ds] := by
  obtain ⟨⟨hw1, hw2⟩, ⟨hh1, hh2⟩, ⟨⟨p1, p2⟩, ⟨q1, q2⟩, ⟨r1, r2⟩, ⟨s1', s2'⟩⟩, hvs, hss, hps, hds⟩ := hx
  dsimp only [SMV.sml] at hw1 hw2 hh1 hh2 p1 p2 q1 q2 r1 r2 s1' s2' hvs hss hps hds
  have hss' : ∀ y ∈ x.ss, ∀ z ∈ y.2, z.wf := fun y hy z hz => hss y.2 (List.mem_map.2 ⟨y, hy, rfl⟩) z hz
  have hps' : ∀ y ∈ x.ps, ∀ z ∈ y.2, z.wf := fun y hy z hz => hps y.2 (List.mem_map.2 ⟨y, hy, rfl⟩) z hz
  have hds' : ∀ y ∈ x.ds, y.2.wf := fun y hy => hds y.2 (List.mem_map.2 ⟨y, hy, rfl⟩)
  have hvt : x.sml.vtxs = fillV 3 ((x.vs.take 12).map vtxOf) := rfl
  generalize hqq : (x.vs.take 12).map vtxOf = q at hvt
  have hql : q.length ≤ 12 ∧ q.length ≤ x.vs.length := by rw [← hqq]; simp; omega
  replace M := M.addFact (F := SSF x.S x.ss) ((M.stable (j := 0) rfl).imp fun _ h => h.ss)
  replace M := M.addFact (F := SSF x.P x.ps) ((M.stable (j := 0) rfl).imp fun _ h => h.ps)
  refine calls_of 111 Try.func6 rfl rfl rfl ?_
  refine c_seq (c_region ?_)
  refine a_box (v := .agg _) rfl cells_agg M ?_
  intro b1 w M
  first | replace M := M.nf (L' := [[(_, _)]]) rfl | skip
  refine a_alloc zr38 cells_agg M ?_
  intro b2 w M
  first | replace M := M.nf (L' := [[(_, _)], [(_, _)]]) rfl | skip
  refine s_nil (e_then (c_seq ?_))
  refine c_drawT (by kernel_rfl) [(.ch, 10), (.q, 0), (.q, 1), (.q, 2), (.q, 3), (.q, 4), (.q, 5), (.q, 6), (.q, 7), (.q, 8), (.q, 9), (.q, 11), (.fl, 12)] [13] [[], [0], [0, 1], [0, 1, 2], [0, 1, 2, 3], [], [5], [5, 6], [5, 6, 7], [5, 6, 7, 8], [], [0, 1, 2, 3, 4, 5, 6, 7, 8, 9, 10], [], [0, 1, 2, 3, 4, 5, 6, 7, 8, 9, 10, 11, 12]] (by kernel_rfl) [] M ?_
  refine w_callP rfl wt_none (fun w => cl11 rfl) (fun w X M => vecUnit _) (by repeat (first | exact trivial | refine ⟨.inr rfl, ?_⟩ | refine ⟨.inl rfl, ?_⟩)) (fun _ h => h) ?_
  refine w_val rfl wt_none (fun w => (r_fieldAddr (o' := 0) fb28_0 (by decide) rfl rfl)) ?_
  refine w_read (v := .int _ _) rfl wt_none (fun w X G' M => r_load1 Try.underlying5 rfl rfl (M.cell (k := 0) (j := 0) rfl rfl rfl)) ?_
  first | (refine w_val rfl wt_none (fun w => (r_rem rfl rfl (by omega) (Int.tmod_eq_emod_of_nonneg (by omega)))) ?_) | (refine w_val rfl wt_none (fun w => (r_rem rfl rfl (by omega) rfl)) ?_)
  first | (refine w_val rfl wt_none (fun w => (r_conv Try.underlying5 Try.underlying3 rfl (w64 (by omega) (by omega)))) ?_) | (refine w_val rfl wt_none (fun w => (r_conv Try.underlying5 Try.underlying3 rfl rfl)) ?_)
  first | (refine w_val rfl wt_none (fun w => (r_add rfl rfl (w64 (by omega) (by omega)))) ?_) | (refine w_val rfl wt_none (fun w => (r_add rfl rfl rfl)) ?_)
  refine w_val rfl wt_none (fun w => (r_fieldAddr (o' := 1) fb28_1 (by decide) rfl rfl)) ?_
  refine w_read (v := .int _ _) rfl wt_none (fun w X G' M => r_load1 Try.underlying5 rfl rfl (M.cell (k := 0) (j := 0) rfl rfl rfl)) ?_
  first | (refine w_val rfl wt_none (fun w => (r_rem rfl rfl (by omega) (Int.tmod_eq_emod_of_nonneg (by omega)))) ?_) | (refine w_val rfl wt_none (fun w => (r_rem rfl rfl (by omega) rfl)) ?_)
  first | (refine w_val rfl wt_none (fun w => (r_conv Try.underlying5 Try.underlying3 rfl (w64 (by omega) (by omega)))) ?_) | (refine w_val rfl wt_none (fun w => (r_conv Try.underlying5 Try.underlying3 rfl rfl)) ?_)
  first | (refine w_val rfl wt_none (fun w => (r_add rfl rfl (w64 (by omega) (by omega)))) ?_) | (refine w_val rfl wt_none (fun w => (r_add rfl rfl rfl)) ?_)
  refine w_val rfl wt_none (fun w => (r_buildS (cs := [_, _, _, _, _, _, _, _, _, _, _, _, _, _, _, _, _, _, _, _, _, _]) zr38 cells_agg pl38 (ps := [(0, .int _ _), (1, .int _ _), (2, .agg _)]) (qs := [(0, [_]), (1, [_]), (2, [_, _, _, _, _, _, _, _, _, _, _, _, _, _, _, _])]) rfl ⟨rfl, rfl, rfl, rfl, rfl, rfl, cells_agg, rfl, rfl, trivial⟩ rfl)) ?_
  refine w_alloc rfl wt_none zr38 cells_agg ?_
  intro b3
  first | refine w_nf (L' := [[(_, _)], [(_, _)], [(_, _)]]) rfl ?_ | skip
  refine w_nil ?_
  intro w M
  refine a_storeS (v := .agg _) (cs' := [_, _, _, _, _, _, _, _, _, _, _, _, _, _, _, _, _, _, _, _, _, _]) sz38 M rfl rfl cells_agg (k := 2) (j := 0) rfl rfl rfl rfl rfl rfl ?_
  intro w M
  first | replace M := M.nf (L' := [[(_, _)], [(_, _)], [(_, _)]]) rfl | skip
  refine s_nil (e_then (c_seq (c_seq (c_region ?_))))
  refine s_val (r_fieldAddr (o' := 2) fb28_2 (by decide) rfl rfl) ?_
  refine a_loadN (vs := [_, _, _, _]) Try.underlying23 rfl sz23 M rfl (k := 0) (j := 0) rfl rfl rfl rfl ?_
  refine s_val (r_move (v := .int _ _) rfl) ?_
  refine s_nil (e_then (c_block ?_))
  refine c_rounds 5 ?_
  refine c_round (c_seq (c_region ?_))
  refine s_val (r_lss rfl rfl) ?_
  refine s_nil (e_then (c_seq ?_))
  refine c_yes rfl (by decide) ?_
  refine c_skip (e_then (c_seq (c_block (c_seq (c_region ?_)))))
  refine s_val (r_move (v := .int _ _) rfl) ?_
  refine s_val (r_index1 Try.underlying23 Try.underlying22 rfl sz22 rfl rfl (by omega) (by omega) rfl) ?_
  refine s_val (r_assign (v := .int _ _) rfl) ?_
  refine s_val (r_assign (v := .int _ _) rfl) ?_
  refine s_nil (e_then (c_region ?_))
  refine s_val (r_move (v := .int _ _) rfl) ?_
  refine s_val (r_move (v := .int _ _) rfl) ?_
  refine s_val (r_add (n := 1) rfl rfl (by decide)) ?_
  refine s_val (r_rem (n := 1) rfl rfl (by decide) (by decide)) ?_
  refine s_val (r_move (v := .int _ _) rfl) ?_
  first | (refine s_val (r_conv Try.underlying22 Try.underlying3 rfl (w64 (by omega) (by omega))) ?_) | (refine s_val (r_conv Try.underlying22 Try.underlying3 rfl rfl) ?_)
  refine s_val (r_fieldAddr (o' := 2) fb38_2 (by decide) rfl rfl) ?_
  refine s_val (r_indexAddrA (o' := 2) Try.underlying33 sz31 rfl rfl (by omega) (by omega) rfl) ?_
  refine s_val (r_indexAddrA (o' := 3) Try.underlying31 sz3 rfl rfl (by omega) (by omega) rfl) ?_
  refine a_storeS (v := .int _ _) (cs' := [_, _, _, _, _, _, _, _, _, _, _, _, _, _, _, _, _, _, _, _, _, _]) sz3 M rfl rfl rfl (k := 2) (j := 0) rfl rfl rfl rfl rfl rfl ?_
  intro w M
  first | replace M := M.nf (L' := [[(_, _)], [(_, _)], [(_, _)]]) rfl | skip
  refine s_nil (e_blk (e_then (c_region ?_)))
  refine s_val (r_add (n := 1) rfl rfl (by decide)) ?_
  refine s_val (r_move (v := .int _ _) rfl) ?_
  refine s_nil (e_then (c_round (c_seq (c_region ?_))))
  refine s_val (r_lss rfl rfl) ?_
  refine s_nil (e_then (c_seq ?_))
  refine c_yes rfl (by decide) ?_
  refine c_skip (e_then (c_seq (c_block (c_seq (c_region ?_)))))
  refine s_val (r_move (v := .int _ _) rfl) ?_
  refine s_val (r_index1 Try.underlying23 Try.underlying22 rfl sz22 rfl rfl (by omega) (by omega) rfl) ?_
  refine s_val (r_assign (v := .int _ _) rfl) ?_
  refine s_val (r_assign (v := .int _ _) rfl) ?_
  refine s_nil (e_then (c_region ?_))
  refine s_val (r_move (v := .int _ _) rfl) ?_
  refine s_val (r_move (v := .int _ _) rfl) ?_
  refine s_val (r_add (n := 2) rfl rfl (by decide)) ?_
  refine s_val (r_rem (n := 2) rfl rfl (by decide) (by decide)) ?_
  refine s_val (r_move (v := .int _ _) rfl) ?_
  first | (refine s_val (r_conv Try.underlying22 Try.underlying3 rfl (w64 (by omega) (by omega))) ?_) | (refine s_val (r_conv Try.underlying22 Try.underlying3 rfl rfl) ?_)
  refine s_val (r_fieldAddr (o' := 2) fb38_2 (by decide) rfl rfl) ?_
  refine s_val (r_indexAddrA (o' := 6) Try.underlying33 sz31 rfl rfl (by omega) (by omega) rfl) ?_
  refine s_val (r_indexAddrA (o' := 8) Try.underlying31 sz3 rfl rfl (by omega) (by omega) rfl) ?_
  refine a_storeS (v := .int _ _) (cs' := [_, _, _, _, _, _, _, _, _, _, _, _, _, _, _, _, _, _, _, _, _, _]) sz3 M rfl rfl rfl (k := 2) (j := 0) rfl rfl rfl rfl rfl rfl ?_
  intro w M
  first | replace M := M.nf (L' := [[(_, _)], [(_, _)], [(_, _)]]) rfl | skip
  refine s_nil (e_blk (e_then (c_region ?_)))
  refine s_val (r_add (n := 2) rfl rfl (by decide)) ?_
  refine s_val (r_move (v := .int _ _) rfl) ?_
  refine s_nil (e_then (c_round (c_seq (c_region ?_))))
  refine s_val (r_lss rfl rfl) ?_
  refine s_nil (e_then (c_seq ?_))
  refine c_yes rfl (by decide) ?_
  refine c_skip (e_then (c_seq (c_block (c_seq (c_region ?_)))))
  refine s_val (r_move (v := .int _ _) rfl) ?_
  refine s_val (r_index1 Try.underlying23 Try.underlying22 rfl sz22 rfl rfl (by omega) (by omega) rfl) ?_
  refine s_val (r_assign (v := .int _ _) rfl) ?_
  refine s_val (r_assign (v := .int _ _) rfl) ?_
  refine s_nil (e_then (c_region ?_))
  refine s_val (r_move (v := .int _ _) rfl) ?_
  refine s_val (r_move (v := .int _ _) rfl) ?_
  refine s_val (r_add (n := 3) rfl rfl (by decide)) ?_
  refine s_val (r_rem (n := 3) rfl rfl (by decide) (by decide)) ?_
  refine s_val (r_move (v := .int _ _) rfl) ?_
  first | (refine s_val (r_conv Try.underlying22 Try.underlying3 rfl (w64 (by omega) (by omega))) ?_) | (refine s_val (r_conv Try.underlying22 Try.underlying3 rfl rfl) ?_)
  refine s_val (r_fieldAddr (o' := 2) fb38_2 (by decide) rfl rfl) ?_
  refine s_val (r_indexAddrA (o' := 10) Try.underlying33 sz31 rfl rfl (by omega) (by omega) rfl) ?_
  refine s_val (r_indexAddrA (o' := 13) Try.underlying31 sz3 rfl rfl (by omega) (by omega) rfl) ?_
  refine a_storeS (v := .int _ _) (cs' := [_, _, _, _, _, _, _, _, _, _, _, _, _, _, _, _, _, _, _, _, _, _]) sz3 M rfl rfl rfl (k := 2) (j := 0) rfl rfl rfl rfl rfl rfl ?_
  intro w M
  first | replace M := M.nf (L' := [[(_, _)], [(_, _)], [(_, _)]]) rfl | skip
  refine s_nil (e_blk (e_then (c_region ?_)))
  refine s_val (r_add (n := 3) rfl rfl (by decide)) ?_
  refine s_val (r_move (v := .int _ _) rfl) ?_
  refine s_nil (e_then (c_round (c_seq (c_region ?_))))
  refine s_val (r_lss rfl rfl) ?_
  refine s_nil (e_then (c_seq ?_))
  refine c_yes rfl (by decide) ?_
  refine c_skip (e_then (c_seq (c_block (c_seq (c_region ?_)))))
  refine s_val (r_move (v := .int _ _) rfl) ?_
  refine s_val (r_index1 Try.underlying23 Try.underlying22 rfl sz22 rfl rfl (by omega) (by omega) rfl) ?_
  refine s_val (r_assign (v := .int _ _) rfl) ?_
  refine s_val (r_assign (v := .int _ _) rfl) ?_
  refine s_nil (e_then (c_region ?_))
  refine s_val (r_move (v := .int _ _) rfl) ?_
  refine s_val (r_move (v := .int _ _) rfl) ?_
  refine s_val (r_add (n := 4) rfl rfl (by decide)) ?_
  refine s_val (r_rem (n := 0) rfl rfl (by decide) (by decide)) ?_
  refine s_val (r_move (v := .int _ _) rfl) ?_
  first | (refine s_val (r_conv Try.underlying22 Try.underlying3 rfl (w64 (by omega) (by omega))) ?_) | (refine s_val (r_conv Try.underlying22 Try.underlying3 rfl rfl) ?_)
  refine s_val (r_fieldAddr (o' := 2) fb38_2 (by decide) rfl rfl) ?_
  refine s_val (r_indexAddrA (o' := 14) Try.underlying33 sz31 rfl rfl (by omega) (by omega) rfl) ?_
  refine s_val (r_indexAddrA (o' := 14) Try.underlying31 sz3 rfl rfl (by omega) (by omega) rfl) ?_
  refine a_storeS (v := .int _ _) (cs' := [_, _, _, _, _, _, _, _, _, _, _, _, _, _, _, _, _, _, _, _, _, _]) sz3 M rfl rfl rfl (k := 2) (j := 0) rfl rfl rfl rfl rfl rfl ?_
  intro w M
  first | replace M := M.nf (L' := [[(_, _)], [(_, _)], [(_, _)]]) rfl | skip
  refine s_nil (e_blk (e_then (c_region ?_)))
  refine s_val (r_add (n := 4) rfl rfl (by decide)) ?_
  refine s_val (r_move (v := .int _ _) rfl) ?_
  refine s_nil (e_then (c_round (c_seq (c_region ?_))))
  refine s_val (r_lss rfl rfl) ?_
  refine s_nil (e_then (c_seq ?_))
  refine c_no rfl (by decide) ?_
  refine c_exit (e_then_exit (e_then_exit (e_blk_here (e_then (c_seq (c_seq (c_region ?_)))))))
  refine s_val (r_fieldAddr (o' := 6) fb28_3 (by decide) rfl rfl) ?_
  refine a_load1 (v := .slice _ _ _) Try.underlying24 rfl M rfl (k := 0) (j := 0) rfl rfl rfl ?_
  refine s_val (r_len Try.underlying24 rfl) ?_
  refine s_val (r_move (v := .int _ _) rfl) ?_
  refine s_nil (e_then (c_block ?_))
  refine c_loopG [6, 7, 42, 43, 44, 45, 46, 47, 48, 49, 50, 51, 52, 53, 54, 55, 56] (Γ := Nat × Nat × Sl × Seg) (vals := fun (k, n, sV, sgV) => [(42, i64 k)]) (I := fun m (k, n, sV, sgV) w => m + k = x.vs.length ∧ n = (q.take k).length ∧ Own 41 8 sV n ((q.take k).flatMap vtx) sgV ∧
    St ks [] w0 w [[(b1, C x.cells 28)], [(b2, C zcells 38)], [(b3, C (scells x (sV.v n) (.slice none 0 0) (.slice none 0 0) (.slice none 0 0)) 38)], sgV] [SMF x, SSF x.S x.ss, SSF x.P x.ps]) x.vs.length (0, 0, ⟨none, 0⟩, []) ⟨rfl, trivial⟩ ⟨rfl, rfl, Own.nil _ _, M.flat rfl⟩ ?_
  rintro m ⟨k, n, sV, sgV⟩ e w ⟨hk, hn, hO, M⟩
  refine c_seq (c_region ?_)
  refine s_val (r_lss rfl rfl) ?_
  refine s_nil (e_then (c_seq ?_))
  refine c_if rfl (fun h43 => ?_) (fun h43 => ?_)
  ·
   have htop := (M.fact (j := 0) rfl).vs.sl.top
   obtain ⟨y, hy⟩ : ∃ y, x.vs[k]? = some y := ⟨_, List.getElem?_eq_getElem (by omega)⟩
   obtain ⟨bi, oi, ha⟩ := (M.fact (j := 0) rfl).vs.addr (by omega)
   have hyw := hvs y (List.mem_of_getElem? hy)
   refine c_skip (e_then (c_seq (c_block (c_seq (c_region ?_)))))
   refine s_val (r_move (v := .int _ _) rfl) ?_
   refine s_val (r_indexAddrS Try.underlying24 sz79 rfl (ha) rfl (by omega) (by omega) rfl) ?_
   refine s_val (r_loadN (cs := svtx y) Try.underlying79 rfl sz79 rfl rfl (fun j v hv => (M.fact (j := 0) rfl).vs.cell ha hy hv)) ?_
   refine a_alloc zr79 cells_agg M ?_
   intro b7 w M
   first | replace M := M.nf (L' := [_, _, _, _, [(_, _)]]) rfl | skip
   refine s_val (r_assign (v := .int _ _) rfl) ?_
   refine a_storeS (v := .agg _) (cs' := [_, _, _, _, _, _, _, _, _]) sz79 M rfl rfl cells_agg (k := 4) (j := 0) rfl rfl rfl rfl rfl rfl ?_
   intro w M
   first | replace M := M.nf (L' := [_, _, _, _, [(_, _)]]) rfl | skip
   refine s_nil (e_then (c_seq (c_region ?_)))
   refine s_val (r_move (v := .int _ _) rfl) ?_
   refine s_val (r_lss rfl rfl) ?_
   refine s_nil (e_then ?_)
   refine c_if rfl (fun h48 => ?_) (fun h48 => ?_)
   ·
    have hk12 : k < 12 := by omega
    have hqk : q[k]? = some (vtxOf y) := by rw [← hqq, List.getElem?_map, List.getElem?_take_of_lt hk12, hy]; rfl
    have hqk1 : q.take (k + 1) = q.take k ++ [vtxOf y] := by rw [List.take_add_one, hqk]; rfl
    refine c_drawT (by kernel_rfl) [(.q, 2), (.ch, 3), (.q, 0), (.q, 1), (.fl, 4), (.ch, 5), (.q, 6)] [7] [[], [0], [], [2], [2, 3], [0, 1, 2, 3, 4], [0, 1, 2, 3, 4, 5], [0, 1, 2, 3, 4, 5, 6]] (by kernel_rfl) [3] M ?_
    refine w_read rfl wt_none (fun w X G' M => r_loadN Try.underlying79 rfl sz79 rfl rfl (M.cellsA (k := 4) (j := 0) rfl rfl)) ?_
    refine w_callP rfl wt_none (fun w => cl12 rfl) (fun w X M => vertexOf y hyw _) (by repeat (first | exact trivial | refine ⟨.inr rfl, ?_⟩ | refine ⟨.inl rfl, ?_⟩)) (fun _ h => h) ?_
    refine w_val rfl wt_none (fun w => (r_fieldAddr (o' := 18) fb38_3 (by decide) rfl rfl)) ?_
    refine w_read (v := .slice _ _ _) rfl wt_none (fun w X G' M => r_load1 Try.underlying34 rfl rfl (M.cell (k := 2) (j := 0) rfl rfl rfl)) ?_
    refine w_buildSliceS (cs := [_, _, _, _, _, _, _, _]) rfl wt_none Try.underlying34 sz41 zr41 cells_agg rfl (by decide) rfl (ps := [(0, .agg _)]) (qs := [(0, [_, _, _, _, _, _, _, _])]) rfl ⟨cells_agg, rfl, rfl, trivial⟩ rfl ?_
    intro b53
    first | refine w_nf (L' := [_, _, _, _, [(_, _)], [(_, _)]]) rfl ?_ | skip
    refine w_append 3 rfl wt_none Try.underlying34 sz41 by41 zr41 cells_agg rfl rfl hO rfl rfl (fun w X M => (SlF.src Try.underlying34 (slF_lit M (k := 5) (j := 0) rfl rfl rfl rfl) rfl)) (by simp only [maxLen]; rw [hn, List.length_take]; omega) (by rw [hn, List.length_take]; omega) (fun _ => (by repeat (first | exact trivial | refine ⟨.inr rfl, ?_⟩ | refine ⟨.inl rfl, ?_⟩))) (fun _ h => h) ?_
    intro s1 sg1 hO1
    first | refine w_nf (L' := [_, _, _, _, [(_, _)], [(_, _)]]) rfl ?_ | skip
    refine w_val rfl wt_none (fun w => (r_fieldAddr (o' := 18) fb38_3 (by decide) rfl rfl)) ?_
    refine w_nil ?_
    intro w M
    refine a_storeS (v := .slice _ _ _) (cs' := [_, _, _, _, _, _, _, _, _, _, _, _, _, _, _, _, _, _, _, _, _, _]) sz34 M rfl rfl rfl (k := 2) (j := 0) rfl rfl rfl rfl rfl rfl ?_
    intro w M
    first | replace M := M.nf (L' := [_, _, _, _, [(_, _)], [(_, _)]]) rfl | skip
    refine s_nil (e_blk (e_then (c_region ?_)))
    first | (refine s_val (r_add rfl rfl (w64 (by omega) (by omega))) ?_) | (refine s_val (r_add rfl rfl rfl) ?_)
    refine s_val (r_move (v := .int _ _) rfl) ?_
    refine s_nil (e_then ?_)
    exact loop_end (m - 1) (k + 1, n + 1, s1, sg1) (by repeat (first | exact ag_refl | exact ag_mask rfl ag_refl | refine ag_upd rfl ?_ | refine ag_mask rfl ?_)) ⟨i64succ k, trivial⟩ (by omega) ⟨by omega, by rw [hqk1]; simp [hn], by rw [hqk1, List.flatMap_append]; exact hO1, M.only ⟨.inr rfl, .inr rfl, .inr rfl, .inr rfl, trivial⟩ ⟨rfl, rfl, rfl, trivial⟩⟩
   ·
    refine c_skip (e_blk (e_then (c_region ?_)))
    first | (refine s_val (r_add rfl rfl (w64 (by omega) (by omega))) ?_) | (refine s_val (r_add rfl rfl rfl) ?_)
    refine s_val (r_move (v := .int _ _) rfl) ?_
    refine s_nil (e_then ?_)
    have hsame : q.take (k + 1) = q.take k := by rw [List.take_of_length_le (by omega), List.take_of_length_le (by omega)]
    exact loop_end (m - 1) (k + 1, n, sV, sgV) (by repeat (first | exact ag_refl | exact ag_mask rfl ag_refl | refine ag_upd rfl ?_ | refine ag_mask rfl ?_)) ⟨i64succ k, trivial⟩ (by omega) ⟨by omega, by rw [hsame]; exact hn, by rw [hsame]; exact hO, M.only ⟨.inr rfl, .inr rfl, .inr rfl, .inr rfl, trivial⟩ ⟨rfl, rfl, rfl, trivial⟩⟩
  ·
   have hqf : q.take k = q := List.take_of_length_le (by omega)
   rw [hqf] at hn hO
   refine c_exit (e_then_exit (e_then_exit (e_blk_here (e_then (c_seq (c_block ?_))))))
   refine c_loopG [8, 57, 58, 59, 60, 61, 62, 63, 64, 65, 66, 67, 68, 69, 70, 71, 72, 73, 74, 75, 76, 77, 78, 79, 80, 81, 82] (Γ := List Vtx × Sl × Seg) (vals := fun (l, sV, sgV) => []) (I := fun m (l, sV, sgV) w => fillV m l = x.sml.vtxs ∧ 3 ≤ m + l.length ∧ l.length ≤ 12 ∧ Own 41 8 sV l.length (l.flatMap vtx) sgV ∧
     St ks [] w0 w [[(b1, C x.cells 28)], [(b2, C zcells 38)], [(b3, C (scells x (sV.v l.length) (.slice none 0 0) (.slice none 0 0) (.slice none 0 0)) 38)], sgV] [SMF x, SSF x.S x.ss, SSF x.P x.ps]) 3 (q, sV, sgV) trivial ⟨hvt.symm, by omega, hql.1, by rw [← hn]; exact hO, by rw [← hn]; exact M⟩ ?_
   rintro m ⟨l, sV, sgV⟩ e w ⟨hf, hm, hl12, hO, M⟩
   refine c_seq (c_seq (c_region ?_))
   refine s_val (r_fieldAddr (o' := 18) fb38_3 (by decide) rfl rfl) ?_
   refine a_load1 (v := .slice _ _ _) Try.underlying34 rfl M rfl (k := 2) (j := 0) rfl rfl rfl ?_
   refine s_val (r_len Try.underlying34 rfl) ?_
   refine s_val (r_lss rfl rfl) ?_
   refine s_nil (e_then ?_)
   refine c_if rfl (fun h60 => ?_) (fun h60 => ?_)
   ·
    obtain ⟨m, rfl⟩ : ∃ j, m = j + 1 := ⟨m - 1, by omega⟩
    rw [fillV, if_pos (by omega)] at hf
    refine c_skip (e_then (c_block (c_seq (c_region ?_))))
    refine s_val (r_fieldAddr (o' := 18) fb38_3 (by decide) rfl rfl) ?_
    refine a_load1 (v := .slice _ _ _) Try.underlying34 rfl M rfl (k := 2) (j := 0) rfl rfl rfl ?_
    refine s_val (r_len Try.underlying34 rfl) ?_
    refine s_val (r_assign (v := .int _ _) rfl) ?_
    refine s_nil (e_then ?_)
    refine c_drawT (by kernel_rfl) [(.q, 2), (.q, 3), (.q, 4), (.q, 5), (.q, 6), (.q, 7), (.q, 8), (.q, 9), (.q, 10), (.q, 11), (.q, 12), (.q, 13), (.q, 14), (.ch, 15), (.q, 0), (.q, 1), (.fl, 16), (.ch, 17), (.q, 18)] [19] [[], [0], [], [2], [2, 3], [2, 3, 4], [], [6], [6, 7], [6, 7, 8], [], [10], [10, 11], [10, 11, 12], [2, 3, 4, 5, 6, 7, 8, 9, 10, 11, 12, 13], [2, 3, 4, 5, 6, 7, 8, 9, 10, 11, 12, 13, 14], [2, 3, 4, 5, 6, 7, 8, 9, 10, 11, 12, 13, 14, 15], [0, 1, 2, 3, 4, 5, 6, 7, 8, 9, 10, 11, 12, 13, 14, 15, 16], [0, 1, 2, 3, 4, 5, 6, 7, 8, 9, 10, 11, 12, 13, 14, 15, 16, 17], [0, 1, 2, 3, 4, 5, 6, 7, 8, 9, 10, 11, 12, 13, 14, 15, 16, 17, 18]] (by kernel_rfl) [3] M ?_
    refine w_val rfl wt_none (fun w => (r_move (v := .int _ _) rfl)) ?_
    first | (refine w_val rfl wt_none (fun w => (r_sub rfl rfl (w64 (by omega) (by omega)))) ?_) | (refine w_val rfl wt_none (fun w => (r_sub rfl rfl rfl)) ?_)
    first | (refine w_val rfl wt_none (fun w => (r_mul rfl rfl (w64 (by omega) (by omega)))) ?_) | (refine w_val rfl wt_none (fun w => (r_mul rfl rfl rfl)) ?_)
    first | (refine w_val rfl wt_none (fun w => (r_conv Try.underlying3 Try.underlying22 rfl (w16 (by omega) (by omega)))) ?_) | (refine w_val rfl wt_none (fun w => (r_conv Try.underlying3 Try.underlying22 rfl rfl)) ?_)
    refine w_val rfl wt_none (fun w => (r_move (v := .int _ _) rfl)) ?_
    first | (refine w_val rfl wt_none (fun w => (r_rem rfl rfl (by omega) (Int.tmod_eq_emod_of_nonneg (by omega)))) ?_) | (refine w_val rfl wt_none (fun w => (r_rem rfl rfl (by omega) rfl)) ?_)
    first | (refine w_val rfl wt_none (fun w => (r_mul rfl rfl (w64 (by omega) (by omega)))) ?_) | (refine w_val rfl wt_none (fun w => (r_mul rfl rfl rfl)) ?_)
    first | (refine w_val rfl wt_none (fun w => (r_conv Try.underlying3 Try.underlying22 rfl (w16 (by omega) (by omega)))) ?_) | (refine w_val rfl wt_none (fun w => (r_conv Try.underlying3 Try.underlying22 rfl rfl)) ?_)
    refine w_val rfl wt_none (fun w => (r_move (v := .int _ _) rfl)) ?_
    first | (refine w_val rfl wt_none (fun w => (r_mul rfl rfl (w64 (by omega) (by omega)))) ?_) | (refine w_val rfl wt_none (fun w => (r_mul rfl rfl rfl)) ?_)
    first | (refine w_val rfl wt_none (fun w => (r_conv Try.underlying3 Try.underlying5 rfl (w8 (by omega) (by omega)))) ?_) | (refine w_val rfl wt_none (fun w => (r_conv Try.underlying3 Try.underlying5 rfl wr8)) ?_)
    refine w_val rfl wt_none (fun w => (r_buildAS (cs := [_, _, _, _]) zr55 cells_agg Try.underlying55 sz5 (ps := [(0, .int _ _), (1, .int _ _), (2, .int _ _), (3, .int _ _)]) (qs := [(0, [_]), (1, [_]), (2, [_]), (3, [_])]) rfl ⟨rfl, rfl, rfl, rfl, rfl, rfl, rfl, rfl, rfl, rfl, rfl, rfl, trivial⟩ rfl)) ?_
    refine w_val rfl wt_none (fun w => (r_buildS (cs := [_, _, _, _, _, _, _, _, _]) zr79 cells_agg pl79 (ps := [(0, .int _ _), (1, .int _ _), (2, .int _ _), (3, .int _ _), (4, .agg _)]) (qs := [(0, [_]), (1, [_]), (2, [_]), (3, [_]), (4, [_, _, _, _])]) rfl ⟨rfl, rfl, rfl, rfl, rfl, rfl, rfl, rfl, rfl, rfl, rfl, rfl, cells_agg, rfl, rfl, trivial⟩ rfl)) ?_
    refine w_callP rfl wt_none (fun w => cl12 rfl) (fun w X M => vertexOf ⟨20000 * ((l.length : Int) - 1), 15000 * ((l.length : Int) % 2), 9000, 3000, 200, 90, (l.length : Int) * 100, 255, false⟩ (by simp only [SVtx.wf]; omega) _) (by repeat (first | exact trivial | refine ⟨.inr rfl, ?_⟩ | refine ⟨.inl rfl, ?_⟩)) (fun _ h => h) ?_
    refine w_val rfl wt_none (fun w => (r_fieldAddr (o' := 18) fb38_3 (by decide) rfl rfl)) ?_
    refine w_read (v := .slice _ _ _) rfl wt_none (fun w X G' M => r_load1 Try.underlying34 rfl rfl (M.cell (k := 2) (j := 0) rfl rfl rfl)) ?_
    refine w_buildSliceS (cs := [_, _, _, _, _, _, _, _]) rfl wt_none Try.underlying34 sz41 zr41 cells_agg rfl (by decide) rfl (ps := [(0, .agg _)]) (qs := [(0, [_, _, _, _, _, _, _, _])]) rfl ⟨cells_agg, rfl, rfl, trivial⟩ rfl ?_
    intro b80
    first | refine w_nf (L' := [_, _, _, _, [(_, _)]]) rfl ?_ | skip
    refine w_append 3 rfl wt_none Try.underlying34 sz41 by41 zr41 cells_agg rfl rfl hO rfl rfl (fun w X M => (SlF.src Try.underlying34 (slF_lit M (k := 4) (j := 0) rfl rfl rfl rfl) rfl)) (by simp only [maxLen]; omega) (by omega) (fun _ => (by repeat (first | exact trivial | refine ⟨.inr rfl, ?_⟩ | refine ⟨.inl rfl, ?_⟩))) (fun _ h => h) ?_
    intro s1 sg1 hO1
    first | refine w_nf (L' := [_, _, _, _, [(_, _)]]) rfl ?_ | skip
    refine w_val rfl wt_none (fun w => (r_fieldAddr (o' := 18) fb38_3 (by decide) rfl rfl)) ?_
    refine w_nil ?_
    intro w M
    refine a_storeS (v := .slice _ _ _) (cs' := [_, _, _, _, _, _, _, _, _, _, _, _, _, _, _, _, _, _, _, _, _, _]) sz34 M rfl rfl rfl (k := 2) (j := 0) rfl rfl rfl rfl rfl rfl ?_
    intro w M
    first | replace M := M.nf (L' := [_, _, _, _, [(_, _)]]) rfl | skip
    refine s_nil (e_blk (e_then ?_))
    have hsi : vtxOf ⟨20000 * ((l.length : Int) - 1), 15000 * ((l.length : Int) % 2), 9000, 3000, 200, 90, (l.length : Int) * 100, 255, false⟩ = standIn l.length := by
      generalize l.length = n at *
      rcases (by omega : n = 0 ∨ n = 1 ∨ n = 2) with rfl | rfl | rfl <;> rfl
    exact loop_end m (l ++ [standIn l.length], s1, sg1) (by repeat (first | exact ag_refl | exact ag_mask rfl ag_refl | refine ag_upd rfl ?_ | refine ag_mask rfl ?_)) trivial (by omega) ⟨hf, by simp; omega, by simp; omega, by rw [← hsi, List.flatMap_append, List.length_append]; exact hO1, by rw [List.length_append]; exact M.only ⟨.inr rfl, .inr rfl, .inr rfl, .inr rfl, trivial⟩ ⟨rfl, rfl, rfl, trivial⟩⟩
   ·
    have hlv : l = x.sml.vtxs := by rw [← hf, fillV_done (by omega)]
    have hl3 : 3 ≤ l.length := by omega
    refine c_exit (e_then_exit (e_then_exit (e_blk_here (e_then (c_seq ?_)))))
    refine c_drawT (by kernel_rfl) [(.q, 0), (.q, 1), (.ch, 2), (.q, 3), (.q, 4), (.ch, 5), (.q, 6), (.ch, 7), (.q, 8)] [9] [[], [0], [0, 1], [], [3], [0, 1, 2, 3, 4], [0, 1, 2], [0, 1, 2, 3, 4, 5, 6], [0, 1, 2, 3, 4, 5, 6, 7], [0, 1, 2, 3, 4, 5, 6, 7, 8]] (by kernel_rfl) [2] M ?_
    refine w_val rfl wt_none (fun w => (r_fieldAddr (o' := 7) fb28_4 (by decide) rfl rfl)) ?_
    refine w_read (v := .slice _ _ _) rfl wt_none (fun w X G' M => r_load1 Try.underlying25 rfl rfl (M.cell (k := 0) (j := 0) rfl rfl rfl)) ?_
    refine w_call0 rfl wt_none (fun w => cl13 rfl) (programsOf x.S x.ss hss' false) (by simp) (fun _ _ => (by repeat (first | exact trivial | refine ⟨.inr rfl, ?_⟩ | refine ⟨.inl rfl, ?_⟩))) (fun _ h => h) ?_
    rintro v ⟨sS, sgS, lS⟩ ⟨rfl, hmS, hOS⟩
    first | refine w_nf (L' := [_, _, _, _, _]) rfl ?_ | skip
    refine w_val rfl wt_none (fun w => (r_fieldAddr (o' := 8) fb28_5 (by decide) rfl rfl)) ?_
    refine w_read (v := .slice _ _ _) rfl wt_none (fun w X G' M => r_load1 Try.underlying25 rfl rfl (M.cell (k := 0) (j := 0) rfl rfl rfl)) ?_
    refine w_call0 rfl wt_none (fun w => cl13 rfl) (programsOf x.P x.ps hps' true) (by simp) (fun _ _ => (by repeat (first | exact trivial | refine ⟨.inr rfl, ?_⟩ | refine ⟨.inl rfl, ?_⟩))) (fun _ h => List.mem_append_left _ (h)) ?_
    rintro v ⟨sP, sgP, lP⟩ ⟨rfl, hmP, hOP⟩
    first | refine w_nf (L' := [_, _, _, _, _, _]) rfl ?_ | skip
    refine w_val rfl wt_none (fun w => (r_fieldAddr (o' := 19) fb38_4 (by decide) rfl rfl)) ?_
    refine w_storeS (v := .slice _ _ _) (cs' := [_, _, _, _, _, _, _, _, _, _, _, _, _, _, _, _, _, _, _, _, _, _]) (k := 2) (j := 0) rfl wt_none sz35 rfl rfl rfl rfl rfl rfl rfl rfl rfl (by repeat (first | exact trivial | refine ⟨.inr rfl, ?_⟩ | refine ⟨.inl rfl, ?_⟩)) (fun _ h => List.mem_append_left _ (List.mem_append_left _ (h))) ?_
    first | refine w_nf (L' := [_, _, _, _, _, _]) rfl ?_ | skip
    refine w_val rfl wt_none (fun w => (r_fieldAddr (o' := 20) fb38_5 (by decide) rfl rfl)) ?_
    refine w_nil ?_
    intro w M
    refine a_storeS (v := .slice _ _ _) (cs' := [_, _, _, _, _, _, _, _, _, _, _, _, _, _, _, _, _, _, _, _, _, _]) sz35 M rfl rfl rfl (k := 2) (j := 0) rfl rfl rfl rfl rfl rfl ?_
    intro w M
    first | replace M := M.nf (L' := [_, _, _, _, _, _]) rfl | skip
    refine s_nil (e_then (c_seq (c_seq (c_region ?_))))
    have hlS : 0 < lS.length ∧ lS.length ≤ 4 := by
      have := congrArg List.length hmS
      simp [progsOf] at this; omega
    have hlP : 0 < lP.length ∧ lP.length ≤ 4 := by
      have := congrArg List.length hmP
      simp [progsOf] at this; omega
    replace M : St ks [] w0 w [[(b1, C x.cells 28)], [(b2, C zcells 38)], [(b3, C (scells x (sV.v l.length) (sS.v lS.length) (sP.v lP.length) (.slice none 0 0)) 38)], sgV, sgS, sgP] [SMF x, EaF lS, EaF lP] := by
      refine M.pick ?_ ?_
      · exact ⟨.inr rfl, .inr rfl, .inr rfl, .inr rfl, .inr rfl, .inr rfl, trivial⟩
      · simp
    replace M := (M.addFact (F := EdF []) (fun _ _ x hx => absurd hx List.not_mem_nil)).pad
    refine s_val (r_fieldAddr (o' := 9) fb28_6 (by decide) rfl rfl) ?_
    refine a_load1 (v := .slice _ _ _) Try.underlying26 rfl M rfl (k := 0) (j := 0) rfl rfl rfl ?_
    refine s_val (r_len Try.underlying26 rfl) ?_
    refine s_val (r_move (v := .int _ _) rfl) ?_
    refine s_nil (e_then (c_block ?_))
    refine c_loopG [9, 10, 94, 95, 96, 97, 98, 99, 100, 101, 102, 103, 104, 105, 106, 107, 108, 109] (Γ := Nat × Sl × Seg × List (Sl × Drw)) (vals := fun (k, sD, sgD, out) => [(94, i64 k)]) (I := fun m (k, sD, sgD, out) w => m + k = x.ds.length ∧ out.map (·.2) = (((x.ds.map (·.2)).take k).take 5).map (fun d => drwOf d l.length lS.length lP.length) ∧ Own 61 27 sD out.length (out.flatMap encD) sgD ∧
      St ks [] w0 w [[(b1, C x.cells 28)], [(b2, C zcells 38)], [(b3, C (scells x (sV.v l.length) (sS.v lS.length) (sP.v lP.length) (sD.v out.length)) 38)], sgV, sgS, sgP, sgD] [SMF x, EaF lS, EaF lP, EdF out]) x.ds.length (0, ⟨none, 0⟩, [], []) ⟨rfl, trivial⟩ ⟨rfl, rfl, Own.nil _ _, M⟩ ?_
    rintro m ⟨k, sD, sgD, out⟩ e w ⟨hk, hmo, hO2, M⟩
    refine c_seq (c_region ?_)
    refine s_val (r_lss rfl rfl) ?_
    refine s_nil (e_then (c_seq ?_))
    refine c_if rfl (fun h95 => ?_) (fun h95 => ?_)
    ·
     have htop := (M.fact (j := 0) rfl).ds.row.sl.top
     obtain ⟨y, hy⟩ : ∃ y, x.ds[k]? = some y := ⟨_, List.getElem?_eq_getElem (by omega)⟩
     obtain ⟨bi, oi, ha⟩ := (M.fact (j := 0) rfl).ds.row.addr (by omega)
     have hyw := hds' y (List.mem_of_getElem? hy)
     refine c_skip (e_then (c_seq (c_block (c_seq (c_region ?_)))))
     refine s_val (r_move (v := .int _ _) rfl) ?_
     refine s_val (r_indexAddrS Try.underlying26 sz76 rfl (ha) rfl (by omega) (by omega) rfl) ?_
     refine s_val (r_loadN (cs := encSD y) Try.underlying76 rfl sz76 rfl rfl (fun j v hv => (M.fact (j := 0) rfl).ds.row.cell ha hy hv)) ?_
     refine a_alloc zr76 cells_agg M ?_
     intro b10 w M
     first | replace M := M.nf (L' := [_, _, _, _, _, _, _, [(_, _)]]) rfl | skip
     refine s_val (r_assign (v := .int _ _) rfl) ?_
     refine a_storeS (v := .agg _) (cs' := [_, _, _, _, _, _, _, _, _, _, _, _, _, _, _, _, _, _, _, _, _, _, _, _, _, _]) sz76 M rfl rfl cells_agg (k := 7) (j := 0) rfl rfl rfl rfl rfl rfl ?_
     intro w M
     first | replace M := M.nf (L' := [_, _, _, _, _, _, _, [(_, _)]]) rfl | skip
     refine s_nil (e_then (c_seq (c_region ?_)))
     refine s_val (r_move (v := .int _ _) rfl) ?_
     refine s_val (r_lss rfl rfl) ?_
     refine s_nil (e_then ?_)
     refine c_if rfl (fun h100 => ?_) (fun h100 => ?_)
     ·
      have hk5 : k < 5 := by omega
      replace M := M.addFact (F := LsF encB 1 y.1 y.2.indices) ((M.stable (j := 0) rfl).imp fun w' h => h.ds.each y (List.mem_of_getElem? hy))
      have hol : out.length = k := by
        have := congrArg List.length hmo
        simp only [List.length_map, List.length_take] at this
        omega
      refine c_drawT (by kernel_rfl) [(.q, 2), (.q, 3), (.ch, 4), (.q, 0), (.q, 1), (.fl, 5), (.ch, 6), (.q, 7)] [8] [[], [0], [], [], [2, 3], [2, 3, 4], [0, 1, 2, 3, 4, 5], [0, 1, 2, 3, 4, 5, 6], [0, 1, 2, 3, 4, 5, 6, 7]] (by kernel_rfl) [6] M ?_
      refine w_read rfl wt_none (fun w X G' M => r_loadN Try.underlying76 rfl sz76 rfl rfl (M.cellsA (k := 7) (j := 0) rfl rfl)) ?_
      refine w_read rfl wt_none (fun w X G' M => r_loadN Try.underlying38 rfl sz38 rfl rfl (M.cellsA (k := 2) (j := 0) rfl rfl)) ?_
      refine w_call0 rfl wt_none (fun w => cl14 rfl) (drawOf y.1 y.2 hyw (svOf x sV l sS lS sP lP sD out) (by dsimp only; omega) (by dsimp only; omega) (by dsimp only; omega)) (by simp) (fun _ _ => (by repeat (first | exact trivial | refine ⟨.inr rfl, ?_⟩ | refine ⟨.inl rfl, ?_⟩))) (fun _ h => h) ?_
      rintro v ⟨sI, sgI⟩ ⟨rfl, hOI⟩
      first | refine w_nf (L' := [_, _, _, _, _, _, _, [(_, _)], _]) rfl ?_ | skip
      refine w_val rfl wt_none (fun w => (r_fieldAddr (o' := 21) fb38_6 (by decide) rfl rfl)) ?_
      refine w_read (v := .slice _ _ _) rfl wt_none (fun w X G' M => r_load1 Try.underlying36 rfl rfl (M.cell (k := 2) (j := 0) rfl rfl rfl)) ?_
      refine w_buildSliceS (cs := [_, _, _, _, _, _, _, _, _, _, _, _, _, _, _, _, _, _, _, _, _, _, _, _, _, _, _]) rfl wt_none Try.underlying36 sz61 zr61 cells_agg rfl (by decide) rfl (ps := [(0, .agg _)]) (qs := [(0, [_, _, _, _, _, _, _, _, _, _, _, _, _, _, _, _, _, _, _, _, _, _, _, _, _, _, _])]) rfl ⟨cells_agg, rfl, rfl, trivial⟩ rfl ?_
      intro b106
      first | refine w_nf (L' := [_, _, _, _, _, _, _, [(_, _)], _, [(_, _)]]) rfl ?_ | skip
      refine w_append 6 rfl wt_none Try.underlying36 sz61 by61 zr61 cells_agg rfl rfl hO2 rfl rfl (fun w X M => (SlF.src Try.underlying36 (slF_lit M (k := 9) (j := 0) rfl rfl rfl rfl) rfl)) (by simp only [maxLen]; omega) (by omega) (fun _ => (by repeat (first | exact trivial | refine ⟨.inr rfl, ?_⟩ | refine ⟨.inl rfl, ?_⟩))) (fun _ h => List.mem_append_left _ (h)) ?_
      intro s1 sg1 hO1
      first | refine w_nf (L' := [_, _, _, _, _, _, _, [(_, _)], _, [(_, _)]]) rfl ?_ | skip
      refine w_val rfl wt_none (fun w => (r_fieldAddr (o' := 21) fb38_6 (by decide) rfl rfl)) ?_
      refine w_nil ?_
      intro w M
      refine a_storeS (v := .slice _ _ _) (cs' := [_, _, _, _, _, _, _, _, _, _, _, _, _, _, _, _, _, _, _, _, _, _]) sz36 M rfl rfl rfl (k := 2) (j := 0) rfl rfl rfl rfl rfl rfl ?_
      intro w M
      first | replace M := M.nf (L' := [_, _, _, _, _, _, _, [(_, _)], _, [(_, _)]]) rfl | skip
      refine s_nil (e_blk (e_then (c_region ?_)))
      first | (refine s_val (r_add rfl rfl (w64 (by omega) (by omega))) ?_) | (refine s_val (r_add rfl rfl rfl) ?_)
      refine s_val (r_move (v := .int _ _) rfl) ?_
      refine s_nil (e_then ?_)
      replace M := M.frz (k := 8) rfl (LsF encN 1 sI (drwOf y.2 l.length lS.length lP.length).indices) (fun w' h => hOI.lsF (by decide) (fun _ _ => rfl) h)
      have hfin : out.map (·.2) ++ [drwOf y.2 l.length lS.length lP.length] = (((x.ds.map (·.2)).take (k + 1)).take 5).map (fun d => drwOf d l.length lS.length lP.length) := by
        rw [hmo, List.take_take, List.take_take, show min 5 (k + 1) = k + 1 by omega, show min 5 k = k by omega, List.take_add_one, List.getElem?_map, hy]; simp
      replace M := M.addFact (F := EdF (out ++ [(sI, drwOf y.2 l.length lS.length lP.length)])) (((M.stable (j := 3) rfl).and (M.stable (j := 5) rfl)).imp fun w' h z hz => by
        rcases List.mem_append.1 hz with hz | hz
        · exact h.1 z hz
        · rw [List.mem_singleton.1 hz]; exact h.2)
      exact loop_end (m - 1) (k + 1, s1, sg1, out ++ [(sI, drwOf y.2 l.length lS.length lP.length)]) (by repeat (first | exact ag_refl | exact ag_mask rfl ag_refl | refine ag_upd rfl ?_ | refine ag_mask rfl ?_)) ⟨i64succ k, trivial⟩ (by omega) ⟨by omega, by rw [List.map_append]; exact hfin, by rw [List.flatMap_append, List.length_append]; exact hO1, by rw [List.length_append]; exact M.pick ⟨.inr rfl, .inr rfl, .inr rfl, .inr rfl, .inr rfl, .inr rfl, .inr rfl, trivial⟩ (by simp)⟩
     ·
      refine c_skip (e_blk (e_then (c_region ?_)))
      first | (refine s_val (r_add rfl rfl (w64 (by omega) (by omega))) ?_) | (refine s_val (r_add rfl rfl rfl) ?_)
      refine s_val (r_move (v := .int _ _) rfl) ?_
      refine s_nil (e_then ?_)
      exact loop_end (m - 1) (k + 1, sD, sgD, out) (by repeat (first | exact ag_refl | exact ag_mask rfl ag_refl | refine ag_upd rfl ?_ | refine ag_mask rfl ?_)) ⟨i64succ k, trivial⟩ (by omega) ⟨by omega, by rw [hmo, List.take_take, List.take_take, show min 5 (k + 1) = 5 by omega, show min 5 k = 5 by omega], hO2, M.only ⟨.inr rfl, .inr rfl, .inr rfl, .inr rfl, .inr rfl, .inr rfl, .inr rfl, trivial⟩ ⟨rfl, rfl, rfl, rfl, trivial⟩⟩
    ·
     have hko : out.map (·.2) = ((x.ds.map (·.2)).take 5).map (fun d => drwOf d l.length lS.length lP.length) := by rw [hmo, List.take_of_length_le (l := x.ds.map (·.2)) (i := k) (by simp; omega)]
     have hsc : (svOf x sV l sS lS sP lP sD out).scr = x.sml.scr := by
       simp only [SV.scr, Sml.scr, SMV.sml, Scr.mk.injEq, hlv, hmS, hmP, hko, and_self, true_and]
       rw [show lS.length = (progsOf (x.ss.map (·.2)) false).length by rw [← hmS, List.length_map], show lP.length = (progsOf (x.ps.map (·.2)) true).length by rw [← hmP, List.length_map]]
     refine c_exit (e_then_exit (e_then_exit (e_blk_here (e_then (c_seq (c_region ?_))))))
     refine a_loadA Try.underlying38 rfl sz38 M rfl (k := 2) (j := 0) rfl rfl rfl ?_
     refine a_storeS (v := .agg _) (cs' := [_, _, _, _, _, _, _, _, _, _, _, _, _, _, _, _, _, _, _, _, _, _]) sz38 M rfl rfl cells_agg (k := 1) (j := 0) rfl rfl rfl rfl rfl rfl ?_
     intro w M
     first | replace M := M.nf (L' := [_, _, _, _, _, _, _]) rfl | skip
     refine s_nil (e_then (c_ret ?_))
     refine ret_run (res_c rfl rfl (run_loadVarN Try.underlying38 rfl sz38 rfl (M.cellsA (k := 1) (j := 0) rfl rfl))) ?_
     refine ⟨_, (svOf x sV l sS lS sP lP sD out, sgV, sgS, sgP, sgD), rfl, ⟨rfl, hsc, hO, hOS, hOP, hO2⟩, (M.pick (L' := [[], [], [], sgV, sgS, sgP, sgD]) ⟨.inl rfl, .inl rfl, .inl rfl, .inr rfl, .inr rfl, .inr rfl, .inr rfl, trivial⟩ (by simp)).flat rfl⟩
end Go.Proofs.Ytcjnniigonaapaa
