/-
  WALKS 9: the law's programs, all; its draws.
-/
import Derived.Test.YtcjnniigonaapaaA8
namespace Go.Proofs.Ytcjnniigonaapaa
open Go Go.Az Go.Proofs
set_option maxHeartbeats 4000000
/-- slices of slices of small instructions -/
structure SSF (S : Sl) (l : List (Sl × List SIns)) (w : World) : Prop where
  row : LsF encS 1 S l w
  each : ∀ x ∈ l, LsF sins 6 x.1 x.2 w
theorem SSF.nice {S : Sl} {l : List (Sl × List SIns)} : Nice (SSF S l) := fun _ _ ha h => ⟨LsF.nice _ _ ha h.row, fun x hx => LsF.nice _ _ ha (h.each x hx)⟩
abbrev EaF (l : List (Sl × Prog)) (w : World) : Prop := ∀ x ∈ l, PrF x.1 x.2 w
abbrev sdrw (s : Sl) (d : SDrw) : List Value := [u8 d.st.depth, u8 d.st.stencil, u8 d.st.ref, u8 d.st.mask, u8 d.st.fail, u8 d.st.hidden, u8 d.st.pass, u8 d.st.blend, u8 d.st.channels, u8 d.st.cull, bo d.st.write, bo d.st.easy, u8 d.st.b0, u8 d.st.b1, u8 d.st.b2, u8 d.st.b3,
  u8 d.kind, u8 d.vertex, u8 d.fragment, s.v d.indices.length, u8 d.c0, u8 d.c1, u8 d.c2, u8 d.c3, u16 d.depth, bo d.plain]

theorem programsOf (S : Sl) (l : List (Sl × List SIns)) (hl : ∀ x ∈ l, ∀ y ∈ x.2, y.wf) (d : Bool) (ks : List Nat) (w0 : World) (M : St ks [] w0 w0 [] [SSF S l]) :
    Calls Try.prog 13 #[S.v l.length, bo d] w0 fun e w' => ∃ v, ∃ g : Sl × Seg × List (Sl × Prog), e = .returned v ∧
      (v = g.1.v g.2.2.length ∧ g.2.2.map (·.2) = progsOf (l.map (·.2)) d ∧ Own 46 1 g.1 g.2.2.length (g.2.2.flatMap encS) g.2.1) ∧ St ks [] w0 w' [g.2.1] [EaF g.2.2] := by
  skip
  refine calls_of 26 Try.func13 rfl rfl rfl ?_
  refine c_seq (c_region ?_)
  refine s_val (r_assign (v := .slice _ _ _) rfl) ?_
  refine s_nil (e_then (c_seq (c_region ?_)))
  refine a_buildSliceS (cs := [_]) Try.underlying35 sz46 zr46 rfl rfl (by decide) rfl (ps := [(0, .slice _ _ _)]) (qs := [(0, [_])]) rfl ⟨rfl, rfl, rfl, trivial⟩ rfl M ?_
  intro b8 w M
  first | replace M := M.nf (L' := [[(_, _)]]) rfl | skip
  refine s_val (r_assign (v := .slice _ _ _) rfl) ?_
  refine s_nil (e_then (c_seq (c_seq (c_region ?_))))
  have hO0 : Own 46 1 ⟨some ⟨b8, 0, none⟩, 1⟩ 1 ([((⟨none, 0⟩ : Sl), ([] : Prog))].flatMap encS) [(b8, C [.slice none 0 0] 46)] := own_lit rfl (by decide)
  replace M := M.addFact (F := EaF [((⟨none, 0⟩ : Sl), ([] : Prog))]) (fun w' _ x hx => by
    rw [List.mem_singleton.1 hx]; exact LsF.nil _ _ _ _)
  refine s_val (r_move (v := .slice _ _ _) rfl) ?_
  refine s_val (r_len Try.underlying25 rfl) ?_
  refine s_val (r_move (v := .int _ _) rfl) ?_
  refine s_nil (e_then (c_block ?_))
  refine c_loopG [5, 6, 7, 11, 12, 13, 14, 15, 16, 17, 18, 19, 20, 21, 22, 23, 24] (Γ := Nat × Sl × Seg × List (Sl × Prog)) (vals := fun (k, s, sg, out) => [(11, i64 k), (5, s.v out.length)]) (I := fun m (k, s, sg, out) w => m + k = l.length ∧ out.map (·.2) = [] :: (((l.map (·.2)).take k).take 3).map (progOf · d) ∧ out.length ≤ 4 ∧ Own 46 1 s out.length (out.flatMap encS) sg ∧ St ks [] w0 w [sg] [SSF S l, EaF out]) l.length (0, ⟨some ⟨b8, 0, none⟩, 1⟩, _, [(⟨none, 0⟩, [])]) ⟨rfl, rfl, trivial⟩ ⟨rfl, by simp, by simp, hO0, M⟩ ?_
  rintro m ⟨k, s, sg, out⟩ e w ⟨hk, hm, ho, hO, M⟩
  refine c_seq (c_region ?_)
  refine s_val (r_lss rfl rfl) ?_
  refine s_nil (e_then (c_seq ?_))
  refine c_if rfl (fun h12 => ?_) (fun h12 => ?_)
  ·
   have htop := (M.fact (j := 0) rfl).row.sl.top
   obtain ⟨x, hx⟩ : ∃ x, l[k]? = some x := ⟨_, List.getElem?_eq_getElem (by omega)⟩
   obtain ⟨b1, o1, ha⟩ := (M.fact (j := 0) rfl).row.addr (by omega)
   refine c_skip (e_then (c_seq (c_block (c_seq (c_region ?_)))))
   refine s_val (r_move (v := .int _ _) rfl) ?_
   refine s_val (r_indexAddrS Try.underlying25 sz71 rfl (ha) rfl (by omega) (by omega) rfl) ?_
   refine s_val (r_load1 (v := .slice _ _ _) Try.underlying71 rfl rfl ((M.fact (j := 0) rfl).row.cell0 ha hx rfl)) ?_
   refine s_val (r_assign (v := .int _ _) rfl) ?_
   refine s_val (r_assign (v := .slice _ _ _) rfl) ?_
   refine s_nil (e_then (c_seq (c_region ?_)))
   refine s_val (r_move (v := .int _ _) rfl) ?_
   refine s_val (r_lss rfl rfl) ?_
   refine s_nil (e_then ?_)
   refine c_if rfl (fun h17 => ?_) (fun h17 => ?_)
   ·
    have hk3 : k < 3 := by omega
    replace M := M.addFact (F := LsF sins 6 x.1 x.2) ((M.stable (j := 0) rfl).imp fun w' h => h.each x (List.mem_of_getElem? hx))
    have hol : out.length = k + 1 := by
      have := congrArg List.length hm
      simp only [List.length_map, List.length_cons, List.length_take] at this
      omega
    refine c_region ?_
    refine s_val (r_move (v := .slice _ _ _) rfl) ?_
    refine s_val (r_move (v := .slice _ _ _) rfl) ?_
    refine s_val (r_move (v := .bool _) rfl) ?_
    refine s_call0 (cl42 rfl) (program x.1 x.2 (hl x (List.mem_of_getElem? hx)) d) M (by simp) ?_
    rintro v ⟨sp, sgp⟩ w ⟨rfl, hOp⟩ M
    first | replace M := M.nf (L' := [_, _]) rfl | skip
    replace M := M.frz (k := 1) rfl (PrF sp (progOf x.2 d)) (fun w' h => hOp.lsF (by decide) (fun _ _ => rfl) h)
    refine a_buildSliceS (cs := [_]) Try.underlying35 sz46 zr46 rfl rfl (by decide) rfl (ps := [(0, .slice _ _ _)]) (qs := [(0, [_])]) rfl ⟨rfl, rfl, rfl, trivial⟩ rfl M ?_
    intro b22 w M
    first | replace M := M.nf (L' := [_, _, [(_, _)]]) rfl | skip
    refine a_append 0 Try.underlying35 sz46 by46 zr46 rfl rfl M rfl hO rfl rfl (SlF.src Try.underlying35 (slF_lit M (k := 2) (j := 0) rfl rfl rfl rfl) rfl) (by simp only [maxLen]; omega) (by omega) ?_
    intro s1 sg1 w hO1 M
    first | replace M := M.nf (L' := [_, _, [(_, _)]]) rfl | skip
    refine s_val (r_assign (v := .slice _ _ _) rfl) ?_
    refine s_nil (e_blk (e_then (c_region ?_)))
    first | (refine s_val (r_add rfl rfl (w64 (by omega) (by omega))) ?_) | (refine s_val (r_add rfl rfl rfl) ?_)
    refine s_val (r_move (v := .int _ _) rfl) ?_
    refine s_nil (e_then ?_)
    have hfin : out.map (·.2) ++ [progOf x.2 d] = [] :: (((l.map (·.2)).take (k + 1)).take 3).map (progOf · d) := by
      rw [hm, List.take_take, List.take_take, show min 3 (k + 1) = k + 1 by omega, show min 3 k = k by omega, List.take_add_one, List.getElem?_map, hx]; simp
    replace M := M.addFact (F := EaF (out ++ [(sp, progOf x.2 d)])) (((M.stable (j := 1) rfl).and (M.stable (j := 3) rfl)).imp fun w' h y hy => by
      rcases List.mem_append.1 hy with hy | hy
      · exact h.1 y hy
      · rw [List.mem_singleton.1 hy]; exact h.2)
    exact loop_end (m - 1) (k + 1, s1, sg1, out ++ [(sp, progOf x.2 d)]) (by repeat (first | exact ag_refl | exact ag_mask rfl ag_refl | refine ag_upd rfl ?_ | refine ag_mask rfl ?_)) ⟨i64succ k, congrArg (fun n => s1.v n) (by simp), trivial⟩ (by omega) ⟨by omega, by rw [List.map_append]; exact hfin, by simp; omega, by rw [List.flatMap_append, List.length_append]; exact hO1, M.pick ⟨.inr rfl, trivial⟩ (by simp)⟩
   ·
    refine c_skip (e_blk (e_then (c_region ?_)))
    first | (refine s_val (r_add rfl rfl (w64 (by omega) (by omega))) ?_) | (refine s_val (r_add rfl rfl rfl) ?_)
    refine s_val (r_move (v := .int _ _) rfl) ?_
    refine s_nil (e_then ?_)
    exact loop_end (m - 1) (k + 1, s, sg, out) (by repeat (first | exact ag_refl | exact ag_mask rfl ag_refl | refine ag_upd rfl ?_ | refine ag_mask rfl ?_)) ⟨i64succ k, rfl, trivial⟩ (by omega) ⟨by omega, by rw [hm, List.take_take, List.take_take, show min 3 (k + 1) = 3 by omega, show min 3 k = 3 by omega], ho, hO, M⟩
  ·
   have hfin : out.map (·.2) = progsOf (l.map (·.2)) d := by
     have e : (l.map (·.2)).take k = l.map (·.2) := List.take_of_length_le (by simp; omega)
     rw [hm, e]; rfl
   refine c_exit (e_then_exit (e_then_exit (e_blk_here (e_then (c_seq (c_region ?_))))))
   refine s_val (r_move (v := .slice _ _ _) rfl) ?_
   refine s_val (r_assign (v := .slice _ _ _) rfl) ?_
   refine s_nil (e_then (c_ret ?_))
   refine ret_run (res_1 (v := .slice _ _ _) rfl rfl) ?_
   exact ⟨_, (s, sg, out), rfl, ⟨rfl, hfin, hO⟩, M.pick ⟨.inr rfl, trivial⟩ (by simp)⟩
theorem drawOf (s : Sl) (d : SDrw) (hd : d.wf) (x : SV) (h1 : 0 < x.vs.length ∧ x.vs.length ≤ 100) (h2 : 0 < x.ss.length ∧ x.ss.length ≤ 100) (h3 : 0 < x.ps.length ∧ x.ps.length ≤ 100) (ks : List Nat) (w0 : World) (M : St ks [] w0 w0 [] [LsF encB 1 s d.indices]) :
    Calls Try.prog 14 #[.agg (sdrw s d).toArray, .agg x.cells.toArray] w0 fun e w' => ∃ v, ∃ g : Sl × Seg, e = .returned v ∧
      (v = .agg (drw g.1 (drwOf d x.vs.length x.ss.length x.ps.length)).toArray ∧ Own 3 1 g.1 (drwOf d x.vs.length x.ss.length x.ps.length).indices.length ((drwOf d x.vs.length x.ss.length x.ps.length).indices.flatMap encN) g.2) ∧ St ks [] w0 w' [g.2] [] := by
  obtain ⟨hst, ⟨⟨k1, k2⟩, ⟨v1, v2⟩, ⟨f1, f2⟩⟩, hix, ⟨⟨a1, a2⟩, ⟨b1, b2⟩, ⟨c1, c2⟩, ⟨d1, d2⟩⟩, ⟨e1, e2⟩⟩ := hd
  have htop := (M.fact (j := 0) rfl).sl.top
  have hcap := (M.fact (j := 0) rfl).sl.cap
  have htk : takes (d.kind % 5 % 3) d.indices.length ≤ d.indices.length ∧ takes (d.kind % 5 % 3) d.indices.length ≤ 6 := by unfold takes; split <;> (try split) <;> omega
  skip
  refine calls_of 89 Try.func14 rfl rfl rfl ?_
  refine c_seq (c_region ?_)
  refine a_box (v := .agg _) rfl cells_agg M ?_
  intro b2 w M
  first | replace M := M.nf (L' := [[(_, _)]]) rfl | skip
  refine a_box (v := .agg _) rfl cells_agg M ?_
  intro b3 w M
  first | replace M := M.nf (L' := [[(_, _)], [(_, _)]]) rfl | skip
  refine a_alloc zr61 cells_agg M ?_
  intro b4 w M
  first | replace M := M.nf (L' := [[(_, _)], [(_, _)], [(_, _)]]) rfl | skip
  refine s_nil (e_then (c_seq (c_region ?_)))
  refine s_val (r_fieldAddr (o' := 0) fb76_0 (by decide) rfl rfl) ?_
  refine a_loadN (vs := [_, _, _, _, _, _, _, _, _, _, _, _, _, _, _, _]) Try.underlying73 rfl sz73 M rfl (k := 0) (j := 0) rfl rfl rfl rfl ?_
  refine s_callP (cl43 rfl) (stateOf d.st hst _) M ?_
  intro w M
  refine s_val (r_buildS (cs := [_, _, _, _, _, _, _, _, _, _, _, _, _, _, _, _, _, _, _, _, _, _, _, _, _, _, _]) zr61 cells_agg pl61 (ps := [(0, .agg _)]) (qs := [(0, [_, _, _, _, _, _, _, _, _, _, _, _, _, _, _])]) rfl ⟨cells_agg, rfl, rfl, trivial⟩ rfl) ?_
  refine a_alloc zr61 cells_agg M ?_
  intro b5 w M
  first | replace M := M.nf (L' := [[(_, _)], [(_, _)], [(_, _)], [(_, _)]]) rfl | skip
  refine a_storeS (v := .agg _) (cs' := [_, _, _, _, _, _, _, _, _, _, _, _, _, _, _, _, _, _, _, _, _, _, _, _, _, _, _]) sz61 M rfl rfl cells_agg (k := 3) (j := 0) rfl rfl rfl rfl rfl rfl ?_
  intro w M
  first | replace M := M.nf (L' := [[(_, _)], [(_, _)], [(_, _)], [(_, _)]]) rfl | skip
  refine s_nil (e_then (c_seq (c_seq (c_region ?_))))
  refine s_val (r_fieldAddr (o' := 16) fb76_1 (by decide) rfl rfl) ?_
  refine a_load1 (v := .int _ _) Try.underlying5 rfl M rfl (k := 0) (j := 0) rfl rfl rfl ?_
  first | (refine s_val (r_rem rfl rfl (by omega) (Int.tmod_eq_emod_of_nonneg (by omega))) ?_) | (refine s_val (r_rem rfl rfl (by omega) rfl) ?_)
  refine s_val (r_eql rfl rfl) ?_
  refine s_nil (e_then ?_)
  refine c_if rfl (fun h16 => ?_) (fun h16 => ?_)
  ·
   have hcl : d.kind % 5 = 4 := h16
   refine c_seq (c_region ?_)
   refine s_val (r_fieldAddr (o' := 15) fb61_1 (by decide) rfl rfl) ?_
   refine a_storeS (v := .bool _) (cs' := [_, _, _, _, _, _, _, _, _, _, _, _, _, _, _, _, _, _, _, _, _, _, _, _, _, _, _]) sz4 M rfl rfl rfl (k := 3) (j := 0) rfl rfl rfl rfl rfl rfl ?_
   intro w M
   first | replace M := M.nf (L' := [[(_, _)], [(_, _)], [(_, _)], [(_, _)]]) rfl | skip
   refine s_nil (e_then (c_seq (c_region ?_)))
   refine s_val (r_fieldAddr (o' := 20) fb76_5 (by decide) rfl rfl) ?_
   refine a_loadN (vs := [_, _, _, _]) Try.underlying55 rfl sz55 M rfl (k := 0) (j := 0) rfl rfl rfl rfl ?_
   refine s_val (r_fieldAddr (o' := 24) fb76_6 (by decide) rfl rfl) ?_
   refine a_load1 (v := .int _ _) Try.underlying74 rfl M rfl (k := 0) (j := 0) rfl rfl rfl ?_
   first | (refine s_val (r_conv Try.underlying74 Try.underlying3 rfl (w64 (by omega) (by omega))) ?_) | (refine s_val (r_conv Try.underlying74 Try.underlying3 rfl rfl) ?_)
   refine s_val (r_fieldAddr (o' := 17) fb76_2 (by decide) rfl rfl) ?_
   refine a_load1 (v := .int _ _) Try.underlying5 rfl M rfl (k := 0) (j := 0) rfl rfl rfl ?_
   refine s_val (r_fieldAddr (o' := 18) fb76_3 (by decide) rfl rfl) ?_
   refine a_load1 (v := .int _ _) Try.underlying5 rfl M rfl (k := 0) (j := 0) rfl rfl rfl ?_
   first | (refine s_val (r_rem rfl rfl (by omega) (Int.tmod_eq_emod_of_nonneg (by omega))) ?_) | (refine s_val (r_rem rfl rfl (by omega) rfl) ?_)
   refine s_val (r_buildS (cs := [_, _, _, _, _, _, _]) zr57 cells_agg pl57 (ps := [(0, .agg _), (1, .int _ _), (2, .int _ _), (3, .int _ _)]) (qs := [(0, [_, _, _, _]), (4, [_]), (5, [_]), (6, [_])]) rfl ⟨cells_agg, rfl, rfl, rfl, rfl, rfl, rfl, rfl, rfl, rfl, rfl, rfl, trivial⟩ rfl) ?_
   refine s_val (r_fieldAddr (o' := 16) fb61_2 (by decide) rfl rfl) ?_
   refine a_storeS (v := .agg _) (cs' := [_, _, _, _, _, _, _, _, _, _, _, _, _, _, _, _, _, _, _, _, _, _, _, _, _, _, _]) sz57 M rfl rfl cells_agg (k := 3) (j := 0) rfl rfl rfl rfl rfl rfl ?_
   intro w M
   first | replace M := M.nf (L' := [[(_, _)], [(_, _)], [(_, _)], [(_, _)]]) rfl | skip
   refine s_nil (e_then (c_seq (c_region ?_)))
   refine a_loadA Try.underlying61 rfl sz61 M rfl (k := 3) (j := 0) rfl rfl rfl ?_
   refine a_storeS (v := .agg _) (cs' := [_, _, _, _, _, _, _, _, _, _, _, _, _, _, _, _, _, _, _, _, _, _, _, _, _, _, _]) sz61 M rfl rfl cells_agg (k := 2) (j := 0) rfl rfl rfl rfl rfl rfl ?_
   intro w M
   first | replace M := M.nf (L' := [[(_, _)], [(_, _)], [(_, _)], [(_, _)]]) rfl | skip
   refine s_nil (e_then (c_ret (e_then_ret ?_)))
   refine ret_run (res_c rfl rfl (run_loadVarN Try.underlying61 rfl sz61 rfl (M.cellsA (k := 2) (j := 0) rfl rfl))) ?_
   refine ⟨_, (⟨none, 0⟩, []), rfl, ⟨congrArg (fun l : List Value => Value.agg l.toArray) (?_ : _ = drw ⟨none, 0⟩ (drwOf d x.vs.length x.ss.length x.ps.length)), ?_⟩, (M.lone (L' := []) trivial).flat rfl⟩
   · rw [drwOf, if_pos hcl]; rfl
   · rw [drwOf, if_pos hcl]; exact Own.nil _ _
  ·
   have hcl : ¬ d.kind % 5 = 4 := h16
   refine c_skip (e_then (c_seq (c_region ?_)))
   refine s_val (r_fieldAddr (o' := 16) fb76_1 (by decide) rfl rfl) ?_
   refine a_load1 (v := .int _ _) Try.underlying5 rfl M rfl (k := 0) (j := 0) rfl rfl rfl ?_
   first | (refine s_val (r_rem rfl rfl (by omega) (Int.tmod_eq_emod_of_nonneg (by omega))) ?_) | (refine s_val (r_rem rfl rfl (by omega) rfl) ?_)
   first | (refine s_val (r_rem rfl rfl (by omega) (Int.tmod_eq_emod_of_nonneg (by omega))) ?_) | (refine s_val (r_rem rfl rfl (by omega) rfl) ?_)
   refine s_val (r_fieldAddr (o' := 25) fb61_5 (by decide) rfl rfl) ?_
   refine a_storeS (v := .int _ _) (cs' := [_, _, _, _, _, _, _, _, _, _, _, _, _, _, _, _, _, _, _, _, _, _, _, _, _, _, _]) sz58 M rfl rfl rfl (k := 3) (j := 0) rfl rfl rfl rfl rfl rfl ?_
   intro w M
   first | replace M := M.nf (L' := [[(_, _)], [(_, _)], [(_, _)], [(_, _)]]) rfl | skip
   refine s_nil (e_then (c_seq (c_seq (c_region ?_))))
   refine s_val (r_fieldAddr (o' := 25) fb76_7 (by decide) rfl rfl) ?_
   refine a_load1 (v := .bool _) Try.underlying4 rfl M rfl (k := 0) (j := 0) rfl rfl rfl ?_
   refine s_val (r_not rfl) ?_
   refine s_nil (e_then ?_)
   refine c_cond rfl (fun h38 => ?_) (fun h38 => ?_)
   ·
    have hpl : d.plain = false := by simpa using h38
    refine c_drawT (by kernel_rfl) [(.q, 0), (.q, 1), (.q, 2), (.q, 3), (.q, 4), (.q, 5), (.q, 6), (.q, 14), (.ch, 15), (.q, 7), (.q, 8), (.q, 9), (.q, 10), (.q, 11), (.q, 12), (.q, 13), (.q, 16)] [17] [[], [0], [0, 1], [], [3], [3, 4], [0, 1, 2, 3, 4, 5], [], [7], [7, 8], [], [10], [10, 11], [7, 8, 9, 10, 11, 12], [0, 1, 2, 3, 4, 5, 6], [0, 1, 2, 3, 4, 5, 6, 14], [0, 1, 2, 3, 4, 5, 6, 7, 8, 9, 10, 11, 12, 13, 14, 15], [0, 1, 2, 3, 4, 5, 6, 7, 8, 9, 10, 11, 12, 13, 14, 15, 16]] (by kernel_rfl) [3] M ?_
    refine w_val rfl wt_none (fun w => (r_fieldAddr (o' := 17) fb76_2 (by decide) rfl rfl)) ?_
    refine w_read (v := .int _ _) rfl wt_none (fun w X G' M => r_load1 Try.underlying5 rfl rfl (M.cell (k := 0) (j := 0) rfl rfl rfl)) ?_
    first | (refine w_val rfl wt_none (fun w => (r_conv Try.underlying5 Try.underlying3 rfl (w64 (by omega) (by omega)))) ?_) | (refine w_val rfl wt_none (fun w => (r_conv Try.underlying5 Try.underlying3 rfl rfl)) ?_)
    refine w_val rfl wt_none (fun w => (r_fieldAddr (o' := 19) fb38_4 (by decide) rfl rfl)) ?_
    refine w_read (v := .slice _ _ _) rfl wt_none (fun w X G' M => r_load1 Try.underlying35 rfl rfl (M.cell (k := 1) (j := 0) rfl rfl rfl)) ?_
    refine w_val rfl wt_none (fun w => (r_len Try.underlying35 rfl)) ?_
    first | (refine w_val rfl wt_none (fun w => (r_rem rfl rfl (by omega) (Int.tmod_eq_emod_of_nonneg (by omega)))) ?_) | (refine w_val rfl wt_none (fun w => (r_rem rfl rfl (by omega) rfl)) ?_)
    refine w_val rfl wt_none (fun w => (r_fieldAddr (o' := 23) fb61_3 (by decide) rfl rfl)) ?_
    refine w_storeS (v := .int _ _) (cs' := [_, _, _, _, _, _, _, _, _, _, _, _, _, _, _, _, _, _, _, _, _, _, _, _, _, _, _]) (k := 3) (j := 0) rfl wt_none sz3 rfl rfl rfl rfl rfl rfl rfl rfl rfl (by repeat (first | exact trivial | refine ⟨.inr rfl, ?_⟩ | refine ⟨.inl rfl, ?_⟩)) (fun _ h => h) ?_
    first | refine w_nf (L' := [[(_, _)], [(_, _)], [(_, _)], [(_, _)]]) rfl ?_ | skip
    refine w_val rfl wt_none (fun w => (r_fieldAddr (o' := 18) fb76_3 (by decide) rfl rfl)) ?_
    refine w_read (v := .int _ _) rfl wt_none (fun w X G' M => r_load1 Try.underlying5 rfl rfl (M.cell (k := 0) (j := 0) rfl rfl rfl)) ?_
    first | (refine w_val rfl wt_none (fun w => (r_conv Try.underlying5 Try.underlying3 rfl (w64 (by omega) (by omega)))) ?_) | (refine w_val rfl wt_none (fun w => (r_conv Try.underlying5 Try.underlying3 rfl rfl)) ?_)
    refine w_val rfl wt_none (fun w => (r_fieldAddr (o' := 20) fb38_5 (by decide) rfl rfl)) ?_
    refine w_read (v := .slice _ _ _) rfl wt_none (fun w X G' M => r_load1 Try.underlying35 rfl rfl (M.cell (k := 1) (j := 0) rfl rfl rfl)) ?_
    refine w_val rfl wt_none (fun w => (r_len Try.underlying35 rfl)) ?_
    first | (refine w_val rfl wt_none (fun w => (r_rem rfl rfl (by omega) (Int.tmod_eq_emod_of_nonneg (by omega)))) ?_) | (refine w_val rfl wt_none (fun w => (r_rem rfl rfl (by omega) rfl)) ?_)
    refine w_val rfl wt_none (fun w => (r_fieldAddr (o' := 24) fb61_4 (by decide) rfl rfl)) ?_
    refine w_nil ?_
    intro w M
    refine a_storeS (v := .int _ _) (cs' := [_, _, _, _, _, _, _, _, _, _, _, _, _, _, _, _, _, _, _, _, _, _, _, _, _, _, _]) sz3 M rfl rfl rfl (k := 3) (j := 0) rfl rfl rfl rfl rfl rfl ?_
    intro w M
    first | replace M := M.nf (L' := [[(_, _)], [(_, _)], [(_, _)], [(_, _)]]) rfl | skip
    refine s_nil (e_then (c_seq (c_region ?_)))
    refine s_val (r_fieldAddr (o' := 19) fb76_4 (by decide) rfl rfl) ?_
    refine a_load1 (v := .slice _ _ _) Try.underlying63 rfl M rfl (k := 0) (j := 0) rfl rfl rfl ?_
    refine s_val (r_len Try.underlying63 rfl) ?_
    refine s_val (r_min2 rfl rfl) ?_
    refine s_val (r_assign (v := .int _ _) rfl) ?_
    refine s_nil (e_then ?_)
    refine c_cutG (Γ := Unit) [6, 59, 60, 61, 62, 63, 64, 65, 66] (fun _ => [(6, i64 (takes (d.kind % 5 % 3) d.indices.length))]) (fun _ w' => w' = w) ?_ ?_
    ·
     refine c_seq (c_region ?_)
     refine s_val (r_fieldAddr (o' := 25) fb61_5 (by decide) rfl rfl) ?_
     refine a_load1 (v := .int _ _) Try.underlying58 rfl M rfl (k := 3) (j := 0) rfl rfl rfl ?_
     refine s_val (r_eql rfl rfl) ?_
     refine s_nil (e_then ?_)
     refine c_if rfl (fun h61 => ?_) (fun h61 => ?_)
     ·
      refine c_region ?_
      refine s_val (r_move (v := .int _ _) rfl) ?_
      first | (refine s_val (r_quo rfl rfl (by omega) (q64 (by omega) (by omega) (by omega))) ?_) | (refine s_val (r_quo rfl rfl (by omega) rfl) ?_)
      first | (refine s_val (r_mul rfl rfl (w64 (by omega) (by omega))) ?_) | (refine s_val (r_mul rfl rfl rfl) ?_)
      refine s_val (r_assign (v := .int _ _) rfl) ?_
      refine s_nil (e_then ?_)
      exact cut_end () (by repeat (first | exact ag_refl | exact ag_mask rfl ag_refl | refine ag_upd rfl ?_ | refine ag_mask rfl ?_)) ⟨congrArg i64 (by unfold takes; first | (rw [if_pos h61]; omega) | (rw [if_neg h61, if_pos (by omega)]; rfl) | (rw [if_neg h61, if_neg (by omega)]; omega)), trivial⟩ rfl
     ·
      refine c_seq (c_region ?_)
      refine s_val (r_move (v := .int _ _) rfl) ?_
      refine s_val (r_lss rfl rfl) ?_
      refine s_nil (e_then ?_)
      refine c_if rfl (fun h66 => ?_) (fun h66 => ?_)
      ·
       refine c_region ?_
       refine s_val (r_assign (v := .int _ _) rfl) ?_
       refine s_nil (e_then ?_)
       exact cut_end () (by repeat (first | exact ag_refl | exact ag_mask rfl ag_refl | refine ag_upd rfl ?_ | refine ag_mask rfl ?_)) ⟨congrArg i64 (by unfold takes; first | (rw [if_pos h61]; omega) | (rw [if_neg h61, if_pos (by omega)]; rfl) | (rw [if_neg h61, if_neg (by omega)]; omega)), trivial⟩ rfl
      ·
       refine c_skip (e_then ?_)
       exact cut_end () (by repeat (first | exact ag_refl | exact ag_mask rfl ag_refl | refine ag_upd rfl ?_ | refine ag_mask rfl ?_)) ⟨congrArg i64 (by unfold takes; first | (rw [if_pos h61]; omega) | (rw [if_neg h61, if_pos (by omega)]; rfl) | (rw [if_neg h61, if_neg (by omega)]; omega)), trivial⟩ rfl
    rintro γ e w' rfl
    refine c_seq (c_seq (c_region ?_))
    refine s_val (r_fieldAddr (o' := 19) fb76_4 (by decide) rfl rfl) ?_
    refine a_load1 (v := .slice _ _ _) Try.underlying63 rfl M rfl (k := 0) (j := 0) rfl rfl rfl ?_
    refine s_val (r_move (v := .int _ _) rfl) ?_
    refine s_val (r_sliceHi Try.underlying63 sz5 rfl rfl (by omega) (by omega)) ?_
    refine s_val (r_len Try.underlying63 rfl) ?_
    refine s_val (r_move (v := .int _ _) rfl) ?_
    refine s_nil (e_then (c_block ?_))
    refine c_loopG [8, 72, 73, 74, 75, 76, 77, 78, 79, 80, 81, 82, 83, 84, 85, 86, 87] (Γ := Nat × Sl × Seg) (vals := fun (k, si, sgi) => [(72, i64 k)]) (I := fun m (k, si, sgi) w => m + k = takes (d.kind % 5 % 3) d.indices.length ∧ Own 3 1 si k (((d.indices.take k).map (· % (x.vs.length : Int))).flatMap encN) sgi ∧ St ks [] w0 w [[(b2, C (sdrw s d) 76)], [(b3, C x.cells 38)], [(b4, C (drw ⟨none, 0⟩ ⟨⟨0, false, 0, 0, 0, 0, 0, 0, 0, 0, 0, 0, 0, 0, 0⟩, false, 0, 0, 0, 0, 0, 0, 0, 0, 0, 0, []⟩) 61)],
      [(b5, C ([u8 (sttOf d.st).depth, bo (sttOf d.st).write, u8 (sttOf d.st).stencil, u8 (sttOf d.st).ref, u8 (sttOf d.st).mask, u8 (sttOf d.st).fail, u8 (sttOf d.st).hidden, u8 (sttOf d.st).pass, u8 (sttOf d.st).blend, u8 (sttOf d.st).channels, u8 (sttOf d.st).cull, i64 (sttOf d.st).x0, i64 (sttOf d.st).y0, i64 (sttOf d.st).x1, i64 (sttOf d.st).y1, bo false, u8 0, u8 0, u8 0, u8 0, i64 0, u8 0, u8 0, i64 (if d.plain then 0 else d.vertex % x.ss.length), i64 (if d.plain then 0 else d.fragment % x.ps.length), u8 (d.kind % 5 % 3), si.v k]) 61)], sgi] [LsF encB 1 s d.indices]) (takes (d.kind % 5 % 3) d.indices.length) (0, ⟨none, 0⟩, []) ⟨rfl, trivial⟩ ⟨rfl, Own.nil _ _, by simp only [hpl, Bool.false_eq_true, if_true, if_false]; exact M.flat rfl⟩ ?_
    rintro m ⟨k, si, sgi⟩ e w ⟨hk, hO, M⟩
    refine c_seq (c_region ?_)
    skip
    refine s_val (r_lss rfl rfl) ?_
    refine s_nil (e_then (c_seq ?_))
    refine c_if rfl (fun h73 => ?_) (fun h73 => ?_)
    ·
     obtain ⟨y, hy⟩ : ∃ y, d.indices[k]? = some y := ⟨_, List.getElem?_eq_getElem (by omega)⟩
     obtain ⟨bi, oi, ha⟩ := (M.fact (j := 0) rfl).addr (by omega)
     have hy2 := hix y (List.mem_of_getElem? hy)
     refine c_skip (e_then (c_seq (c_block (c_seq (c_region ?_)))))
     refine s_val (r_indexAddrS Try.underlying63 sz5 rfl (ha) rfl (by omega) (by omega) rfl) ?_
     refine s_val (r_load1 (v := .int _ _) Try.underlying5 rfl rfl ((M.fact (j := 0) rfl).cell0 ha hy rfl)) ?_
     refine s_val (r_assign (v := .int _ _) rfl) ?_
     refine s_nil (e_then ?_)
     refine c_drawT (by kernel_rfl) [(.q, 0), (.q, 1), (.q, 2), (.q, 3), (.q, 4), (.q, 5), (.q, 6), (.q, 7), (.fl, 8), (.ch, 9), (.q, 10)] [11] [[], [0], [], [2], [], [4], [4, 5], [2, 3, 4, 5, 6], [2, 3, 4, 5, 6, 7], [0, 1, 2, 3, 4, 5, 6, 7, 8], [0, 1, 2, 3, 4, 5, 6, 7, 8, 9], [0, 1, 2, 3, 4, 5, 6, 7, 8, 9, 10]] (by kernel_rfl) [4] M ?_
     refine w_val rfl wt_none (fun w => (r_fieldAddr (o' := 26) fb61_6 (by decide) rfl rfl)) ?_
     refine w_read (v := .slice _ _ _) rfl wt_none (fun w X G' M => r_load1 Try.underlying59 rfl rfl (M.cell (k := 3) (j := 0) rfl rfl rfl)) ?_
     refine w_val rfl wt_none (fun w => (r_move (v := .int _ _) rfl)) ?_
     first | (refine w_val rfl wt_none (fun w => (r_conv Try.underlying5 Try.underlying3 rfl (w64 (by omega) (by omega)))) ?_) | (refine w_val rfl wt_none (fun w => (r_conv Try.underlying5 Try.underlying3 rfl rfl)) ?_)
     refine w_val rfl wt_none (fun w => (r_fieldAddr (o' := 18) fb38_3 (by decide) rfl rfl)) ?_
     refine w_read (v := .slice _ _ _) rfl wt_none (fun w X G' M => r_load1 Try.underlying34 rfl rfl (M.cell (k := 1) (j := 0) rfl rfl rfl)) ?_
     refine w_val rfl wt_none (fun w => (r_len Try.underlying34 rfl)) ?_
     first | (refine w_val rfl wt_none (fun w => (r_rem rfl rfl (by omega) (Int.tmod_eq_emod_of_nonneg (by omega)))) ?_) | (refine w_val rfl wt_none (fun w => (r_rem rfl rfl (by omega) rfl)) ?_)
     refine w_buildSliceS (cs := [_]) rfl wt_none Try.underlying59 sz3 zr3 rfl rfl (by decide) rfl (ps := [(0, .int _ _)]) (qs := [(0, [_])]) rfl ⟨rfl, rfl, rfl, trivial⟩ rfl ?_
     intro b84
     first | refine w_nf (L' := [_, _, _, _, _, [(_, _)]]) rfl ?_ | skip
     refine w_append 4 rfl wt_none Try.underlying59 sz3 by3 zr3 rfl rfl rfl hO rfl rfl (fun w X M => (SlF.src Try.underlying59 (slF_lit M (k := 5) (j := 0) rfl rfl rfl rfl) rfl)) (by simp only [maxLen]; omega) (by omega) (fun _ => (by repeat (first | exact trivial | refine ⟨.inr rfl, ?_⟩ | refine ⟨.inl rfl, ?_⟩))) (fun _ h => h) ?_
     intro s1 sg1 hO1
     first | refine w_nf (L' := [_, _, _, _, _, [(_, _)]]) rfl ?_ | skip
     refine w_val rfl wt_none (fun w => (r_fieldAddr (o' := 26) fb61_6 (by decide) rfl rfl)) ?_
     refine w_nil ?_
     intro w M
     refine a_storeS (v := .slice _ _ _) (cs' := [_, _, _, _, _, _, _, _, _, _, _, _, _, _, _, _, _, _, _, _, _, _, _, _, _, _, _]) sz59 M rfl rfl rfl (k := 3) (j := 0) rfl rfl rfl rfl rfl rfl ?_
     intro w M
     first | replace M := M.nf (L' := [_, _, _, _, _, [(_, _)]]) rfl | skip
     refine s_nil (e_blk (e_then (c_region ?_)))
     first | (refine s_val (r_add rfl rfl (w64 (by omega) (by omega))) ?_) | (refine s_val (r_add rfl rfl rfl) ?_)
     refine s_val (r_move (v := .int _ _) rfl) ?_
     refine s_nil (e_then ?_)
     exact loop_end (m - 1) (k + 1, s1, sg1) (by repeat (first | exact ag_refl | exact ag_mask rfl ag_refl | refine ag_upd rfl ?_ | refine ag_mask rfl ?_)) ⟨i64succ k, trivial⟩ (by omega) ⟨by omega, by rw [List.take_add_one, hy, List.map_append, List.flatMap_append]; exact hO1, M.only ⟨.inr rfl, .inr rfl, .inr rfl, .inr rfl, .inr rfl, trivial⟩ ⟨rfl, trivial⟩⟩
    ·
     refine c_exit (e_then_exit (e_then_exit (e_blk_here (e_then (c_seq (c_region ?_))))))
     refine a_loadA Try.underlying61 rfl sz61 M rfl (k := 3) (j := 0) rfl rfl rfl ?_
     refine a_storeS (v := .agg _) (cs' := [_, _, _, _, _, _, _, _, _, _, _, _, _, _, _, _, _, _, _, _, _, _, _, _, _, _, _]) sz61 M rfl rfl cells_agg (k := 2) (j := 0) rfl rfl rfl rfl rfl rfl ?_
     intro w M
     first | replace M := M.nf (L' := [_, _, _, _, _]) rfl | skip
     refine s_nil (e_then (c_ret ?_))
     refine ret_run (res_c rfl rfl (run_loadVarN Try.underlying61 rfl sz61 rfl (M.cellsA (k := 2) (j := 0) rfl rfl))) ?_
     have hkk : k = takes (d.kind % 5 % 3) d.indices.length := by omega
     subst hkk
     refine ⟨_, (si, sgi), rfl, ⟨congrArg (fun l : List Value => Value.agg l.toArray) (?_ : _ = drw si (drwOf d x.vs.length x.ss.length x.ps.length)), ?_⟩, (M.lone (L' := [[], [], [], [], sgi]) ⟨.inl rfl, .inl rfl, .inl rfl, .inl rfl, .inr rfl, trivial⟩).flat rfl⟩
     · rw [drwOf, if_neg hcl]
       simp only [drw, List.length_map, List.length_take, Nat.min_eq_left htk.1]
     · rw [drwOf, if_neg hcl]
       simp only [List.length_map, List.length_take, Nat.min_eq_left htk.1]
       exact hO
   ·
    have hpl : d.plain = true := by simpa using h38
    refine c_skip (e_then (c_seq (c_region ?_)))
    refine s_val (r_fieldAddr (o' := 19) fb76_4 (by decide) rfl rfl) ?_
    refine a_load1 (v := .slice _ _ _) Try.underlying63 rfl M rfl (k := 0) (j := 0) rfl rfl rfl ?_
    refine s_val (r_len Try.underlying63 rfl) ?_
    refine s_val (r_min2 rfl rfl) ?_
    refine s_val (r_assign (v := .int _ _) rfl) ?_
    refine s_nil (e_then ?_)
    refine c_cutG (Γ := Unit) [6, 59, 60, 61, 62, 63, 64, 65, 66] (fun _ => [(6, i64 (takes (d.kind % 5 % 3) d.indices.length))]) (fun _ w' => w' = w) ?_ ?_
    ·
     refine c_seq (c_region ?_)
     refine s_val (r_fieldAddr (o' := 25) fb61_5 (by decide) rfl rfl) ?_
     refine a_load1 (v := .int _ _) Try.underlying58 rfl M rfl (k := 3) (j := 0) rfl rfl rfl ?_
     refine s_val (r_eql rfl rfl) ?_
     refine s_nil (e_then ?_)
     refine c_if rfl (fun h61 => ?_) (fun h61 => ?_)
     ·
      refine c_region ?_
      refine s_val (r_move (v := .int _ _) rfl) ?_
      first | (refine s_val (r_quo rfl rfl (by omega) (q64 (by omega) (by omega) (by omega))) ?_) | (refine s_val (r_quo rfl rfl (by omega) rfl) ?_)
      first | (refine s_val (r_mul rfl rfl (w64 (by omega) (by omega))) ?_) | (refine s_val (r_mul rfl rfl rfl) ?_)
      refine s_val (r_assign (v := .int _ _) rfl) ?_
      refine s_nil (e_then ?_)
      exact cut_end () (by repeat (first | exact ag_refl | exact ag_mask rfl ag_refl | refine ag_upd rfl ?_ | refine ag_mask rfl ?_)) ⟨congrArg i64 (by unfold takes; first | (rw [if_pos h61]; omega) | (rw [if_neg h61, if_pos (by omega)]; rfl) | (rw [if_neg h61, if_neg (by omega)]; omega)), trivial⟩ rfl
     ·
      refine c_seq (c_region ?_)
      refine s_val (r_move (v := .int _ _) rfl) ?_
      refine s_val (r_lss rfl rfl) ?_
      refine s_nil (e_then ?_)
      refine c_if rfl (fun h66 => ?_) (fun h66 => ?_)
      ·
       refine c_region ?_
       refine s_val (r_assign (v := .int _ _) rfl) ?_
       refine s_nil (e_then ?_)
       exact cut_end () (by repeat (first | exact ag_refl | exact ag_mask rfl ag_refl | refine ag_upd rfl ?_ | refine ag_mask rfl ?_)) ⟨congrArg i64 (by unfold takes; first | (rw [if_pos h61]; omega) | (rw [if_neg h61, if_pos (by omega)]; rfl) | (rw [if_neg h61, if_neg (by omega)]; omega)), trivial⟩ rfl
      ·
       refine c_skip (e_then ?_)
       exact cut_end () (by repeat (first | exact ag_refl | exact ag_mask rfl ag_refl | refine ag_upd rfl ?_ | refine ag_mask rfl ?_)) ⟨congrArg i64 (by unfold takes; first | (rw [if_pos h61]; omega) | (rw [if_neg h61, if_pos (by omega)]; rfl) | (rw [if_neg h61, if_neg (by omega)]; omega)), trivial⟩ rfl
    rintro γ e w' rfl
    refine c_seq (c_seq (c_region ?_))
    refine s_val (r_fieldAddr (o' := 19) fb76_4 (by decide) rfl rfl) ?_
    refine a_load1 (v := .slice _ _ _) Try.underlying63 rfl M rfl (k := 0) (j := 0) rfl rfl rfl ?_
    refine s_val (r_move (v := .int _ _) rfl) ?_
    refine s_val (r_sliceHi Try.underlying63 sz5 rfl rfl (by omega) (by omega)) ?_
    refine s_val (r_len Try.underlying63 rfl) ?_
    refine s_val (r_move (v := .int _ _) rfl) ?_
    refine s_nil (e_then (c_block ?_))
    refine c_loopG [8, 72, 73, 74, 75, 76, 77, 78, 79, 80, 81, 82, 83, 84, 85, 86, 87] (Γ := Nat × Sl × Seg) (vals := fun (k, si, sgi) => [(72, i64 k)]) (I := fun m (k, si, sgi) w => m + k = takes (d.kind % 5 % 3) d.indices.length ∧ Own 3 1 si k (((d.indices.take k).map (· % (x.vs.length : Int))).flatMap encN) sgi ∧ St ks [] w0 w [[(b2, C (sdrw s d) 76)], [(b3, C x.cells 38)], [(b4, C (drw ⟨none, 0⟩ ⟨⟨0, false, 0, 0, 0, 0, 0, 0, 0, 0, 0, 0, 0, 0, 0⟩, false, 0, 0, 0, 0, 0, 0, 0, 0, 0, 0, []⟩) 61)],
      [(b5, C ([u8 (sttOf d.st).depth, bo (sttOf d.st).write, u8 (sttOf d.st).stencil, u8 (sttOf d.st).ref, u8 (sttOf d.st).mask, u8 (sttOf d.st).fail, u8 (sttOf d.st).hidden, u8 (sttOf d.st).pass, u8 (sttOf d.st).blend, u8 (sttOf d.st).channels, u8 (sttOf d.st).cull, i64 (sttOf d.st).x0, i64 (sttOf d.st).y0, i64 (sttOf d.st).x1, i64 (sttOf d.st).y1, bo false, u8 0, u8 0, u8 0, u8 0, i64 0, u8 0, u8 0, i64 (if d.plain then 0 else d.vertex % x.ss.length), i64 (if d.plain then 0 else d.fragment % x.ps.length), u8 (d.kind % 5 % 3), si.v k]) 61)], sgi] [LsF encB 1 s d.indices]) (takes (d.kind % 5 % 3) d.indices.length) (0, ⟨none, 0⟩, []) ⟨rfl, trivial⟩ ⟨rfl, Own.nil _ _, by simp only [hpl, Bool.false_eq_true, if_true, if_false]; exact M.flat rfl⟩ ?_
    rintro m ⟨k, si, sgi⟩ e w ⟨hk, hO, M⟩
    refine c_seq (c_region ?_)
    skip
    refine s_val (r_lss rfl rfl) ?_
    refine s_nil (e_then (c_seq ?_))
    refine c_if rfl (fun h73 => ?_) (fun h73 => ?_)
    ·
     obtain ⟨y, hy⟩ : ∃ y, d.indices[k]? = some y := ⟨_, List.getElem?_eq_getElem (by omega)⟩
     obtain ⟨bi, oi, ha⟩ := (M.fact (j := 0) rfl).addr (by omega)
     have hy2 := hix y (List.mem_of_getElem? hy)
     refine c_skip (e_then (c_seq (c_block (c_seq (c_region ?_)))))
     refine s_val (r_indexAddrS Try.underlying63 sz5 rfl (ha) rfl (by omega) (by omega) rfl) ?_
     refine s_val (r_load1 (v := .int _ _) Try.underlying5 rfl rfl ((M.fact (j := 0) rfl).cell0 ha hy rfl)) ?_
     refine s_val (r_assign (v := .int _ _) rfl) ?_
     refine s_nil (e_then ?_)
     refine c_drawT (by kernel_rfl) [(.q, 0), (.q, 1), (.q, 2), (.q, 3), (.q, 4), (.q, 5), (.q, 6), (.q, 7), (.fl, 8), (.ch, 9), (.q, 10)] [11] [[], [0], [], [2], [], [4], [4, 5], [2, 3, 4, 5, 6], [2, 3, 4, 5, 6, 7], [0, 1, 2, 3, 4, 5, 6, 7, 8], [0, 1, 2, 3, 4, 5, 6, 7, 8, 9], [0, 1, 2, 3, 4, 5, 6, 7, 8, 9, 10]] (by kernel_rfl) [4] M ?_
     refine w_val rfl wt_none (fun w => (r_fieldAddr (o' := 26) fb61_6 (by decide) rfl rfl)) ?_
     refine w_read (v := .slice _ _ _) rfl wt_none (fun w X G' M => r_load1 Try.underlying59 rfl rfl (M.cell (k := 3) (j := 0) rfl rfl rfl)) ?_
     refine w_val rfl wt_none (fun w => (r_move (v := .int _ _) rfl)) ?_
     first | (refine w_val rfl wt_none (fun w => (r_conv Try.underlying5 Try.underlying3 rfl (w64 (by omega) (by omega)))) ?_) | (refine w_val rfl wt_none (fun w => (r_conv Try.underlying5 Try.underlying3 rfl rfl)) ?_)
     refine w_val rfl wt_none (fun w => (r_fieldAddr (o' := 18) fb38_3 (by decide) rfl rfl)) ?_
     refine w_read (v := .slice _ _ _) rfl wt_none (fun w X G' M => r_load1 Try.underlying34 rfl rfl (M.cell (k := 1) (j := 0) rfl rfl rfl)) ?_
     refine w_val rfl wt_none (fun w => (r_len Try.underlying34 rfl)) ?_
     first | (refine w_val rfl wt_none (fun w => (r_rem rfl rfl (by omega) (Int.tmod_eq_emod_of_nonneg (by omega)))) ?_) | (refine w_val rfl wt_none (fun w => (r_rem rfl rfl (by omega) rfl)) ?_)
     refine w_buildSliceS (cs := [_]) rfl wt_none Try.underlying59 sz3 zr3 rfl rfl (by decide) rfl (ps := [(0, .int _ _)]) (qs := [(0, [_])]) rfl ⟨rfl, rfl, rfl, trivial⟩ rfl ?_
     intro b84
     first | refine w_nf (L' := [_, _, _, _, _, [(_, _)]]) rfl ?_ | skip
     refine w_append 4 rfl wt_none Try.underlying59 sz3 by3 zr3 rfl rfl rfl hO rfl rfl (fun w X M => (SlF.src Try.underlying59 (slF_lit M (k := 5) (j := 0) rfl rfl rfl rfl) rfl)) (by simp only [maxLen]; omega) (by omega) (fun _ => (by repeat (first | exact trivial | refine ⟨.inr rfl, ?_⟩ | refine ⟨.inl rfl, ?_⟩))) (fun _ h => h) ?_
     intro s1 sg1 hO1
     first | refine w_nf (L' := [_, _, _, _, _, [(_, _)]]) rfl ?_ | skip
     refine w_val rfl wt_none (fun w => (r_fieldAddr (o' := 26) fb61_6 (by decide) rfl rfl)) ?_
     refine w_nil ?_
     intro w M
     refine a_storeS (v := .slice _ _ _) (cs' := [_, _, _, _, _, _, _, _, _, _, _, _, _, _, _, _, _, _, _, _, _, _, _, _, _, _, _]) sz59 M rfl rfl rfl (k := 3) (j := 0) rfl rfl rfl rfl rfl rfl ?_
     intro w M
     first | replace M := M.nf (L' := [_, _, _, _, _, [(_, _)]]) rfl | skip
     refine s_nil (e_blk (e_then (c_region ?_)))
     first | (refine s_val (r_add rfl rfl (w64 (by omega) (by omega))) ?_) | (refine s_val (r_add rfl rfl rfl) ?_)
     refine s_val (r_move (v := .int _ _) rfl) ?_
     refine s_nil (e_then ?_)
     exact loop_end (m - 1) (k + 1, s1, sg1) (by repeat (first | exact ag_refl | exact ag_mask rfl ag_refl | refine ag_upd rfl ?_ | refine ag_mask rfl ?_)) ⟨i64succ k, trivial⟩ (by omega) ⟨by omega, by rw [List.take_add_one, hy, List.map_append, List.flatMap_append]; exact hO1, M.only ⟨.inr rfl, .inr rfl, .inr rfl, .inr rfl, .inr rfl, trivial⟩ ⟨rfl, trivial⟩⟩
    ·
     refine c_exit (e_then_exit (e_then_exit (e_blk_here (e_then (c_seq (c_region ?_))))))
     refine a_loadA Try.underlying61 rfl sz61 M rfl (k := 3) (j := 0) rfl rfl rfl ?_
     refine a_storeS (v := .agg _) (cs' := [_, _, _, _, _, _, _, _, _, _, _, _, _, _, _, _, _, _, _, _, _, _, _, _, _, _, _]) sz61 M rfl rfl cells_agg (k := 2) (j := 0) rfl rfl rfl rfl rfl rfl ?_
     intro w M
     first | replace M := M.nf (L' := [_, _, _, _, _]) rfl | skip
     refine s_nil (e_then (c_ret ?_))
     refine ret_run (res_c rfl rfl (run_loadVarN Try.underlying61 rfl sz61 rfl (M.cellsA (k := 2) (j := 0) rfl rfl))) ?_
     have hkk : k = takes (d.kind % 5 % 3) d.indices.length := by omega
     subst hkk
     refine ⟨_, (si, sgi), rfl, ⟨congrArg (fun l : List Value => Value.agg l.toArray) (?_ : _ = drw si (drwOf d x.vs.length x.ss.length x.ps.length)), ?_⟩, (M.lone (L' := [[], [], [], [], sgi]) ⟨.inl rfl, .inl rfl, .inl rfl, .inl rfl, .inr rfl, trivial⟩).flat rfl⟩
     · rw [drwOf, if_neg hcl]
       simp only [drw, List.length_map, List.length_take, Nat.min_eq_left htk.1]
     · rw [drwOf, if_neg hcl]
       simp only [List.length_map, List.length_take, Nat.min_eq_left htk.1]
       exact hO
end Go.Proofs.Ytcjnniigonaapaa
