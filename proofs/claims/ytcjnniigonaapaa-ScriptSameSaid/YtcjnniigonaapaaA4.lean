/-
  WALKS 4: the same programs, draws, scripts.
-/
import Derived.Test.YtcjnniigonaapaaA3
namespace Go.Proofs.Ytcjnniigonaapaa
open Go Go.Az Go.Proofs

theorem eqProgs (s1 s2 : Sl) (p q : List (Sl × Prog)) (w0 : World) (h1 : PsF s1 p w0) (h2 : PsF s2 q w0) :
    Calls Try.prog 18 #[s1.v p.length, s2.v q.length, .func (.func 15) #[] #[]] w0 fun e w' => e = .returned (bo (decide (p.map (·.2) = q.map (·.2)))) ∧ Keep [] w0 w' := by
  have M := St.begin w0 (PsF.nice.and PsF.nice) ⟨h1, h2⟩
  refine calls_of 32 Try.func18 rfl rfl rfl ?_
  refine c_seq (c_region ?_)
  refine s_val (r_assign (v := .bool _) rfl) ?_
  refine s_nil (e_then (c_seq (c_seq (c_region ?_))))
  refine s_val (r_move (v := .slice _ _ _) rfl) ?_
  refine s_val (r_len Try.underlying35 rfl) ?_
  refine s_val (r_move (v := .slice _ _ _) rfl) ?_
  refine s_val (r_len Try.underlying35 rfl) ?_
  refine s_val (r_neq rfl rfl) ?_
  refine s_nil (e_then ?_)
  refine c_if rfl (fun h14 => ?_) (fun h14 => ?_)
  ·
   have hr : decide (p.map (·.2) = q.map (·.2)) = false := decide_eq_false (fun h => h14 (by have := congrArg List.length h; simp at this; rw [this]))
   refine c_seq (c_region ?_)
   refine s_val (r_assign (v := .bool _) rfl) ?_
   refine s_nil (e_then (c_ret (e_then_ret ?_)))
   refine ret_run (res_1 (v := .bool _) rfl rfl) ?_
   exact ⟨by rw [hr], M.keep⟩
  ·
   refine c_skip (e_then (c_seq (c_seq (c_region ?_))))
   refine s_val (r_move (v := .slice _ _ _) rfl) ?_
   refine s_val (r_len Try.underlying35 rfl) ?_
   refine s_val (r_move (v := .int _ _) rfl) ?_
   refine s_nil (e_then (c_block ?_))
   refine c_loopG [6, 7, 8, 9, 17, 18, 19, 20, 21, 22, 23, 24, 25, 26, 27, 28, 29, 30, 31] (Γ := Nat) (vals := fun k => [(17, i64 k)]) (I := fun n k w => n + k = p.length ∧ (p.map (·.2)).take k = (q.map (·.2)).take k ∧ St [] [] w0 w [] [fun w => PsF s1 p w ∧ PsF s2 q w]) p.length 0 ⟨rfl, trivial⟩ ⟨rfl, rfl, M⟩ ?_
   rintro n k e w ⟨hk, ht, M⟩
   refine c_seq (c_region ?_)
   refine s_val (r_lss rfl rfl) ?_
   refine s_nil (e_then (c_seq ?_))
   refine c_if rfl (fun h18 => ?_) (fun h18 => ?_)
   ·
    have htop := (M.fact (j := 0) rfl).1.row.sl.top
    have hkp : k < p.length := by omega
    have hkq : k < q.length := by omega
    obtain ⟨x, hx⟩ : ∃ x, p[k]? = some x := ⟨_, List.getElem?_eq_getElem hkp⟩
    obtain ⟨y, hy⟩ : ∃ y, q[k]? = some y := ⟨_, List.getElem?_eq_getElem hkq⟩
    obtain ⟨b1, o1, ha1⟩ := (M.fact (j := 0) rfl).1.row.addr (by omega)
    obtain ⟨b2, o2, ha2⟩ := (M.fact (j := 0) rfl).2.row.addr (by omega)
    refine c_skip (e_then (c_seq (c_block (c_seq (c_region ?_)))))
    refine s_val (r_move (v := .int _ _) rfl) ?_
    refine s_val (r_indexAddrS Try.underlying35 sz46 rfl (ha1) rfl (by omega) (by omega) rfl) ?_
    refine s_val (r_load1 (v := .slice _ _ _) Try.underlying46 rfl rfl ((M.fact (j := 0) rfl).1.row.cell0 ha1 hx rfl)) ?_
    refine s_val (r_assign (v := .int _ _) rfl) ?_
    refine s_val (r_assign (v := .slice _ _ _) rfl) ?_
    refine s_nil (e_then (c_seq (c_region ?_)))
    refine s_val (r_move (v := .slice _ _ _) rfl) ?_
    refine s_val (r_move (v := .int _ _) rfl) ?_
    refine s_val (r_indexAddrS Try.underlying35 sz46 rfl (ha2) rfl (by omega) (by omega) rfl) ?_
    refine s_val (r_load1 (v := .slice _ _ _) Try.underlying46 rfl rfl ((M.fact (j := 0) rfl).2.row.cell0 ha2 hy rfl)) ?_
    refine s_val (r_assign (v := .slice _ _ _) rfl) ?_
    refine s_nil (e_then (c_seq (c_region ?_)))
    refine s_val (r_move rfl) ?_
    refine s_val (r_move (v := .slice _ _ _) rfl) ?_
    refine s_val (r_move (v := .slice _ _ _) rfl) ?_
    refine s_callP (cv15 rfl rfl) (same1 _ _ _ _ _ ((M.fact (j := 0) rfl).1.each _ (List.mem_of_getElem? hx)) ((M.fact (j := 0) rfl).2.each _ (List.mem_of_getElem? hy))) M ?_
    intro w M
    refine s_val (r_not rfl) ?_
    refine s_nil (e_then ?_)
    refine c_cond rfl (fun h30 => ?_) (fun h30 => ?_)
    ·
     have hr : decide (p.map (·.2) = q.map (·.2)) = false := decide_eq_false (fun h => by
       have h5 := congrArg (·[k]?) h
       simp only [List.getElem?_map, hx, hy, Option.map_some, Option.some.injEq] at h5
       simp [h5] at h30)
     refine c_seq (c_region ?_)
     refine s_val (r_assign (v := .bool _) rfl) ?_
     refine s_nil (e_then (c_ret (e_blk_ret (e_then_ret (e_then_ret (e_blk_ret (e_then_ret ?_)))))))
     refine ret_run (res_1 (v := .bool _) rfl rfl) ?_
     exact ⟨by rw [hr], M.keep⟩
    ·
     refine c_skip (e_blk (e_then (c_region ?_)))
     first | (refine s_val (r_add rfl rfl (w64 (by omega) (by omega))) ?_) | (refine s_val (r_add rfl rfl rfl) ?_)
     refine s_val (r_move (v := .int _ _) rfl) ?_
     refine s_nil (e_then ?_)
     have hxy : x.2 = y.2 := by simpa using h30
     exact loop_end (n - 1) (k + 1) (by repeat (first | exact ag_refl | exact ag_mask rfl ag_refl | refine ag_upd rfl ?_ | refine ag_mask rfl ?_)) ⟨i64succ k, trivial⟩ (by omega) ⟨by omega, by rw [List.take_add_one, List.take_add_one, ht, List.getElem?_map, List.getElem?_map, hx, hy, Option.map_some, Option.map_some, hxy], M⟩
   ·
    have hr : decide (p.map (·.2) = q.map (·.2)) = true := decide_eq_true (by
      rwa [List.take_of_length_le (by rw [List.length_map]; omega), List.take_of_length_le (by rw [List.length_map]; omega)] at ht)
    refine c_exit (e_then_exit (e_then_exit (e_blk_here (e_then (c_seq (c_region ?_))))))
    refine s_val (r_assign (v := .bool _) rfl) ?_
    refine s_nil (e_then (c_ret ?_))
    refine ret_run (res_1 (v := .bool _) rfl rfl) ?_
    exact ⟨by rw [hr], M.keep⟩

theorem eqDraws (s1 s2 : Sl) (p q : List (Sl × Drw)) (w0 : World) (h1 : DsF s1 p w0) (h2 : DsF s2 q w0) :
    Calls Try.prog 19 #[s1.v p.length, s2.v q.length, .func (.func 20) #[] #[]] w0 fun e w' => e = .returned (bo (decide (p.map (·.2) = q.map (·.2)))) ∧ Keep [] w0 w' := by
  have M := St.begin w0 (DsF.nice.and DsF.nice) ⟨h1, h2⟩
  refine calls_of 32 Try.func19 rfl rfl rfl ?_
  refine c_seq (c_region ?_)
  refine s_val (r_assign (v := .bool _) rfl) ?_
  refine s_nil (e_then (c_seq (c_seq (c_region ?_))))
  refine s_val (r_move (v := .slice _ _ _) rfl) ?_
  refine s_val (r_len Try.underlying36 rfl) ?_
  refine s_val (r_move (v := .slice _ _ _) rfl) ?_
  refine s_val (r_len Try.underlying36 rfl) ?_
  refine s_val (r_neq rfl rfl) ?_
  refine s_nil (e_then ?_)
  refine c_if rfl (fun h14 => ?_) (fun h14 => ?_)
  ·
   have hr : decide (p.map (·.2) = q.map (·.2)) = false := decide_eq_false (fun h => h14 (by have := congrArg List.length h; simp at this; rw [this]))
   refine c_seq (c_region ?_)
   refine s_val (r_assign (v := .bool _) rfl) ?_
   refine s_nil (e_then (c_ret (e_then_ret ?_)))
   refine ret_run (res_1 (v := .bool _) rfl rfl) ?_
   exact ⟨by rw [hr], M.keep⟩
  ·
   refine c_skip (e_then (c_seq (c_seq (c_region ?_))))
   refine s_val (r_move (v := .slice _ _ _) rfl) ?_
   refine s_val (r_len Try.underlying36 rfl) ?_
   refine s_val (r_move (v := .int _ _) rfl) ?_
   refine s_nil (e_then (c_block ?_))
   refine c_loopG [6, 7, 8, 9, 17, 18, 19, 20, 21, 22, 23, 24, 25, 26, 27, 28, 29, 30, 31] (Γ := Nat) (vals := fun k => [(17, i64 k)]) (I := fun n k w => n + k = p.length ∧ (p.map (·.2)).take k = (q.map (·.2)).take k ∧ St [] [] w0 w [] [fun w => DsF s1 p w ∧ DsF s2 q w]) p.length 0 ⟨rfl, trivial⟩ ⟨rfl, rfl, M⟩ ?_
   rintro n k e w ⟨hk, ht, M⟩
   refine c_seq (c_region ?_)
   refine s_val (r_lss rfl rfl) ?_
   refine s_nil (e_then (c_seq ?_))
   refine c_if rfl (fun h18 => ?_) (fun h18 => ?_)
   ·
    have htop := (M.fact (j := 0) rfl).1.row.sl.top
    have hkp : k < p.length := by omega
    have hkq : k < q.length := by omega
    obtain ⟨x, hx⟩ : ∃ x, p[k]? = some x := ⟨_, List.getElem?_eq_getElem hkp⟩
    obtain ⟨y, hy⟩ : ∃ y, q[k]? = some y := ⟨_, List.getElem?_eq_getElem hkq⟩
    obtain ⟨b1, o1, ha1⟩ := (M.fact (j := 0) rfl).1.row.addr (by omega)
    obtain ⟨b2, o2, ha2⟩ := (M.fact (j := 0) rfl).2.row.addr (by omega)
    refine c_skip (e_then (c_seq (c_block (c_seq (c_region ?_)))))
    refine s_val (r_move (v := .int _ _) rfl) ?_
    refine s_val (r_indexAddrS Try.underlying36 sz61 rfl (ha1) rfl (by omega) (by omega) rfl) ?_
    refine s_val (r_loadN (cs := encD x) Try.underlying61 rfl sz61 rfl rfl (fun j v hv => (M.fact (j := 0) rfl).1.row.cell ha1 hx hv)) ?_
    refine a_alloc zr61 cells_agg M ?_
    intro b8 w M
    first | replace M := M.nf (L' := [[(_, _)]]) rfl | skip
    refine s_val (r_assign (v := .int _ _) rfl) ?_
    refine a_storeS (v := .agg _) (cs' := [_, _, _, _, _, _, _, _, _, _, _, _, _, _, _, _, _, _, _, _, _, _, _, _, _, _, _]) sz61 M rfl rfl cells_agg (k := 0) (j := 0) rfl rfl rfl rfl rfl rfl ?_
    intro w M
    first | replace M := M.nf (L' := [[(_, _)]]) rfl | skip
    refine s_nil (e_then (c_seq (c_region ?_)))
    refine s_val (r_move (v := .slice _ _ _) rfl) ?_
    refine s_val (r_move (v := .int _ _) rfl) ?_
    refine s_val (r_indexAddrS Try.underlying36 sz61 rfl (ha2) rfl (by omega) (by omega) rfl) ?_
    refine s_val (r_loadN (cs := encD y) Try.underlying61 rfl sz61 rfl rfl (fun j v hv => (M.fact (j := 0) rfl).2.row.cell ha2 hy hv)) ?_
    refine a_alloc zr61 cells_agg M ?_
    intro b9 w M
    first | replace M := M.nf (L' := [[(_, _)], [(_, _)]]) rfl | skip
    refine a_storeS (v := .agg _) (cs' := [_, _, _, _, _, _, _, _, _, _, _, _, _, _, _, _, _, _, _, _, _, _, _, _, _, _, _]) sz61 M rfl rfl cells_agg (k := 1) (j := 0) rfl rfl rfl rfl rfl rfl ?_
    intro w M
    first | replace M := M.nf (L' := [[(_, _)], [(_, _)]]) rfl | skip
    refine s_nil (e_then (c_seq (c_region ?_)))
    refine s_val (r_move rfl) ?_
    refine a_loadA Try.underlying61 rfl sz61 M rfl (k := 0) (j := 0) rfl rfl rfl ?_
    refine a_loadA Try.underlying61 rfl sz61 M rfl (k := 1) (j := 0) rfl rfl rfl ?_
    refine s_callP (cv20 rfl rfl) (drawSame _ _ _ _ _ ((M.fact (j := 0) rfl).1.each _ (List.mem_of_getElem? hx)) ((M.fact (j := 0) rfl).2.each _ (List.mem_of_getElem? hy))) M ?_
    intro w M
    refine s_val (r_not rfl) ?_
    refine s_nil (e_then ?_)
    refine c_cond rfl (fun h30 => ?_) (fun h30 => ?_)
    ·
     have hr : decide (p.map (·.2) = q.map (·.2)) = false := decide_eq_false (fun h => by
       have h5 := congrArg (·[k]?) h
       simp only [List.getElem?_map, hx, hy, Option.map_some, Option.some.injEq] at h5
       simp [h5] at h30)
     refine c_seq (c_region ?_)
     refine s_val (r_assign (v := .bool _) rfl) ?_
     refine s_nil (e_then (c_ret (e_blk_ret (e_then_ret (e_then_ret (e_blk_ret (e_then_ret ?_)))))))
     refine ret_run (res_1 (v := .bool _) rfl rfl) ?_
     exact ⟨by rw [hr], M.keep⟩
    ·
     refine c_skip (e_blk (e_then (c_region ?_)))
     first | (refine s_val (r_add rfl rfl (w64 (by omega) (by omega))) ?_) | (refine s_val (r_add rfl rfl rfl) ?_)
     refine s_val (r_move (v := .int _ _) rfl) ?_
     refine s_nil (e_then ?_)
     have hxy : x.2 = y.2 := by simpa using h30
     exact loop_end (n - 1) (k + 1) (by repeat (first | exact ag_refl | exact ag_mask rfl ag_refl | refine ag_upd rfl ?_ | refine ag_mask rfl ?_)) ⟨i64succ k, trivial⟩ (by omega) ⟨by omega, by rw [List.take_add_one, List.take_add_one, ht, List.getElem?_map, List.getElem?_map, hx, hy, Option.map_some, Option.map_some, hxy], M.only trivial ⟨rfl, trivial⟩⟩
   ·
    have hr : decide (p.map (·.2) = q.map (·.2)) = true := decide_eq_true (by
      rwa [List.take_of_length_le (by rw [List.length_map]; omega), List.take_of_length_le (by rw [List.length_map]; omega)] at ht)
    refine c_exit (e_then_exit (e_then_exit (e_blk_here (e_then (c_seq (c_region ?_))))))
    refine s_val (r_assign (v := .bool _) rfl) ?_
    refine s_nil (e_then (c_ret ?_))
    refine ret_run (res_1 (v := .bool _) rfl rfl) ?_
    exact ⟨by rw [hr], M.keep⟩

theorem same (x y : SV) (w0 : World) (h1 : SVF x w0) (h2 : SVF y w0) :
    Calls Try.prog 7 #[.agg x.cells.toArray, .agg y.cells.toArray] w0 fun e w' => e = .returned (bo (decide (x.scr = y.scr))) ∧ Keep [] w0 w' := by
  have M := St.begin w0 (SVF.nice.and SVF.nice) ⟨h1, h2⟩
  refine calls_of 55 Try.func7 rfl rfl rfl ?_
  refine c_seq (c_region ?_)
  refine a_box (v := .agg _) rfl cells_agg M ?_
  intro b2 w M
  first | replace M := M.nf (L' := [[(_, _)]]) rfl | skip
  refine a_box (v := .agg _) rfl cells_agg M ?_
  intro b3 w M
  first | replace M := M.nf (L' := [[(_, _)], [(_, _)]]) rfl | skip
  refine s_val (r_assign (v := .bool _) rfl) ?_
  refine s_nil (e_then (c_seq (c_region ?_)))
  refine s_val (r_assign rfl) ?_
  refine s_nil (e_then (c_seq (c_region ?_)))
  refine s_val (r_fieldAddr (o' := 0) fb38_0 (by decide) rfl rfl) ?_
  refine a_load1 (v := .int _ _) Try.underlying3 rfl M rfl (k := 0) (j := 0) rfl rfl rfl ?_
  refine s_val (r_fieldAddr (o' := 0) fb38_0 (by decide) rfl rfl) ?_
  refine a_load1 (v := .int _ _) Try.underlying3 rfl M rfl (k := 1) (j := 0) rfl rfl rfl ?_
  refine s_val (r_eql rfl rfl) ?_
  refine s_val (r_move (v := .bool _) rfl) ?_
  refine s_splitD 11 rfl (fun g11 => ?_) (fun g11 => ?_)
  ·
   refine s_unguard (yield_Fr rfl rfl) rfl ?_
   refine s_val (r_fieldAddr (o' := 1) fb38_1 (by decide) rfl rfl) ?_
   refine s_unguard (yield_Fr rfl rfl) rfl ?_
   refine a_load1 (v := .int _ _) Try.underlying3 rfl M rfl (k := 0) (j := 0) rfl rfl rfl ?_
   refine s_unguard (yield_Fr rfl rfl) rfl ?_
   refine s_val (r_fieldAddr (o' := 1) fb38_1 (by decide) rfl rfl) ?_
   refine s_unguard (yield_Fr rfl rfl) rfl ?_
   refine a_load1 (v := .int _ _) Try.underlying3 rfl M rfl (k := 1) (j := 0) rfl rfl rfl ?_
   refine s_unguard (yield_Fr rfl rfl) rfl ?_
   refine s_val (r_eql rfl rfl) ?_
   refine s_val (r_pick (v := .bool _) rfl rfl) ?_
   refine s_val (r_move (v := .bool _) rfl) ?_
   refine s_splitD 18 rfl (fun g18 => ?_) (fun g18 => ?_)
   ·
    refine s_unguard (yield_Fr rfl rfl) rfl ?_
    refine s_val (r_fieldAddr (o' := 2) fb38_2 (by decide) rfl rfl) ?_
    refine s_unguard (yield_Fr rfl rfl) rfl ?_
    refine a_loadN (vs := [_, _, _, _, _, _, _, _, _, _, _, _, _, _, _, _]) Try.underlying33 rfl sz33 M rfl (k := 0) (j := 0) rfl rfl rfl rfl ?_
    refine s_unguard (yield_Fr rfl rfl) rfl ?_
    refine s_val (r_fieldAddr (o' := 2) fb38_2 (by decide) rfl rfl) ?_
    refine s_unguard (yield_Fr rfl rfl) rfl ?_
    refine a_loadN (vs := [_, _, _, _, _, _, _, _, _, _, _, _, _, _, _, _]) Try.underlying33 rfl sz33 M rfl (k := 1) (j := 0) rfl rfl rfl rfl ?_
    refine s_unguard (yield_Fr rfl rfl) rfl ?_
    refine s_val (r_eqlF (xs := [.int _ _, .int _ _, .int _ _, .int _ _, .int _ _, .int _ _, .int _ _, .int _ _, .int _ _, .int _ _, .int _ _, .int _ _, .int _ _, .int _ _, .int _ _, .int _ _]) (ys := [.int _ _, .int _ _, .int _ _, .int _ _, .int _ _, .int _ _, .int _ _, .int _ _, .int _ _, .int _ _, .int _ _, .int _ _, .int _ _, .int _ _, .int _ _, .int _ _]) fe33 rfl eg33 rfl rfl (by kernel_rfl) (by kernel_rfl)) ?_
    refine s_val (r_pick (v := .bool _) rfl rfl) ?_
    refine s_val (r_move (v := .bool _) rfl) ?_
    refine s_split 25 rfl (fun g25 => ?_) (fun g25 => ?_)
    ·
     refine s_unguard (yield_Fr rfl rfl) rfl ?_
     refine s_val (r_fieldAddr (o' := 18) fb38_3 (by decide) rfl rfl) ?_
     refine s_unguard (yield_Fr rfl rfl) rfl ?_
     refine a_load1 (v := .slice _ _ _) Try.underlying34 rfl M rfl (k := 0) (j := 0) rfl rfl rfl ?_
     refine s_unguard (yield_Fr rfl rfl) rfl ?_
     refine s_val (r_fieldAddr (o' := 18) fb38_3 (by decide) rfl rfl) ?_
     refine s_unguard (yield_Fr rfl rfl) rfl ?_
     refine a_load1 (v := .slice _ _ _) Try.underlying34 rfl M rfl (k := 1) (j := 0) rfl rfl rfl ?_
     refine s_unguard (yield_Fr rfl rfl) rfl ?_
     refine s_callP (cl17 rfl) (eqVtx _ _ _ _ _ (M.fact (j := 0) rfl).1.vs (M.fact (j := 0) rfl).2.vs) M ?_
     intro w M
     refine s_val (r_pick (v := .bool _) rfl rfl) ?_
     refine s_val (r_move (v := .bool _) rfl) ?_
     refine s_split 32 rfl (fun g32 => ?_) (fun g32 => ?_)
     ·
      refine s_unguard (yield_Fr rfl rfl) rfl ?_
      refine s_val (r_fieldAddr (o' := 19) fb38_4 (by decide) rfl rfl) ?_
      refine s_unguard (yield_Fr rfl rfl) rfl ?_
      refine a_load1 (v := .slice _ _ _) Try.underlying35 rfl M rfl (k := 0) (j := 0) rfl rfl rfl ?_
      refine s_unguard (yield_Fr rfl rfl) rfl ?_
      refine s_val (r_fieldAddr (o' := 19) fb38_4 (by decide) rfl rfl) ?_
      refine s_unguard (yield_Fr rfl rfl) rfl ?_
      refine a_load1 (v := .slice _ _ _) Try.underlying35 rfl M rfl (k := 1) (j := 0) rfl rfl rfl ?_
      refine s_unguard (yield_Fr rfl rfl) rfl ?_
      refine s_val (r_move rfl) ?_
      refine s_unguard (yield_Fr rfl rfl) rfl ?_
      refine s_callP (cl18 rfl) (eqProgs _ _ _ _ _ (M.fact (j := 0) rfl).1.ss (M.fact (j := 0) rfl).2.ss) M ?_
      intro w M
      refine s_val (r_pick (v := .bool _) rfl rfl) ?_
      refine s_val (r_move (v := .bool _) rfl) ?_
      refine s_split 40 rfl (fun g40 => ?_) (fun g40 => ?_)
      ·
       refine s_unguard (yield_Fr rfl rfl) rfl ?_
       refine s_val (r_fieldAddr (o' := 20) fb38_5 (by decide) rfl rfl) ?_
       refine s_unguard (yield_Fr rfl rfl) rfl ?_
       refine a_load1 (v := .slice _ _ _) Try.underlying35 rfl M rfl (k := 0) (j := 0) rfl rfl rfl ?_
       refine s_unguard (yield_Fr rfl rfl) rfl ?_
       refine s_val (r_fieldAddr (o' := 20) fb38_5 (by decide) rfl rfl) ?_
       refine s_unguard (yield_Fr rfl rfl) rfl ?_
       refine a_load1 (v := .slice _ _ _) Try.underlying35 rfl M rfl (k := 1) (j := 0) rfl rfl rfl ?_
       refine s_unguard (yield_Fr rfl rfl) rfl ?_
       refine s_val (r_move rfl) ?_
       refine s_unguard (yield_Fr rfl rfl) rfl ?_
       refine s_callP (cl18 rfl) (eqProgs _ _ _ _ _ (M.fact (j := 0) rfl).1.ps (M.fact (j := 0) rfl).2.ps) M ?_
       intro w M
       refine s_val (r_pick (v := .bool _) rfl rfl) ?_
       refine s_val (r_move (v := .bool _) rfl) ?_
       refine s_split 48 rfl (fun g48 => ?_) (fun g48 => ?_)
       ·
        refine s_unguard (yield_Fr rfl rfl) rfl ?_
        refine s_val (r_fieldAddr (o' := 21) fb38_6 (by decide) rfl rfl) ?_
        refine s_unguard (yield_Fr rfl rfl) rfl ?_
        refine a_load1 (v := .slice _ _ _) Try.underlying36 rfl M rfl (k := 0) (j := 0) rfl rfl rfl ?_
        refine s_unguard (yield_Fr rfl rfl) rfl ?_
        refine s_val (r_fieldAddr (o' := 21) fb38_6 (by decide) rfl rfl) ?_
        refine s_unguard (yield_Fr rfl rfl) rfl ?_
        refine a_load1 (v := .slice _ _ _) Try.underlying36 rfl M rfl (k := 1) (j := 0) rfl rfl rfl ?_
        refine s_unguard (yield_Fr rfl rfl) rfl ?_
        refine s_callP (cl19 rfl) (eqDraws _ _ _ _ _ (M.fact (j := 0) rfl).1.ds (M.fact (j := 0) rfl).2.ds) M ?_
        intro w M
        refine s_val (r_pick (v := .bool _) rfl rfl) ?_
        refine s_val (r_assign (v := .bool _) rfl) ?_
        refine s_nil (e_then (c_ret ?_))
        refine ret_run (res_1 (v := .bool _) rfl rfl) ?_
        refine ⟨?_, M.keep⟩
        first
          | (refine congrArg _ (congrArg _ (decide_eq_false ?_).symm); intro h; simp only [SV.scr, Scr.mk.injEq] at h; simp_all [eqv_true, eqv_false]; done)
          | (refine congrArg _ (congrArg _ ?_); obtain ⟨_, _, ⟨_, _, _, _⟩, ⟨_, _, _, _⟩, ⟨_, _, _, _⟩, ⟨_, _, _, _⟩, _, _, _, _, _, _, _, _⟩ := x; obtain ⟨_, _, ⟨_, _, _, _⟩, ⟨_, _, _, _⟩, ⟨_, _, _, _⟩, ⟨_, _, _, _⟩, _, _, _, _, _, _, _, _⟩ := y; simp_all [SV.scr, eqv_true, eqv_false])
       ·
        refine s_skip (yield_Fr rfl rfl) rfl ?_
        refine s_skip (yield_Fr rfl rfl) rfl ?_
        refine s_skip (yield_Fr rfl rfl) rfl ?_
        refine s_skip (yield_Fr rfl rfl) rfl ?_
        refine s_skip (yield_Fr rfl rfl) rfl ?_
        refine s_val (r_pick (v := .bool _) rfl rfl) ?_
        refine s_val (r_assign (v := .bool _) rfl) ?_
        refine s_nil (e_then (c_ret ?_))
        refine ret_run (res_1 (v := .bool _) rfl rfl) ?_
        refine ⟨?_, M.keep⟩
        first
          | (refine congrArg _ (congrArg _ (decide_eq_false ?_).symm); intro h; simp only [SV.scr, Scr.mk.injEq] at h; simp_all [eqv_true, eqv_false]; done)
          | (refine congrArg _ (congrArg _ ?_); obtain ⟨_, _, ⟨_, _, _, _⟩, ⟨_, _, _, _⟩, ⟨_, _, _, _⟩, ⟨_, _, _, _⟩, _, _, _, _, _, _, _, _⟩ := x; obtain ⟨_, _, ⟨_, _, _, _⟩, ⟨_, _, _, _⟩, ⟨_, _, _, _⟩, ⟨_, _, _, _⟩, _, _, _, _, _, _, _, _⟩ := y; simp_all [SV.scr, eqv_true, eqv_false])
      ·
       refine s_skip (yield_Fr rfl rfl) rfl ?_
       refine s_skip (yield_Fr rfl rfl) rfl ?_
       refine s_skip (yield_Fr rfl rfl) rfl ?_
       refine s_skip (yield_Fr rfl rfl) rfl ?_
       refine s_skip (yield_Fr rfl rfl) rfl ?_
       refine s_skip (yield_Fr rfl rfl) rfl ?_
       refine s_val (r_pick (v := .bool _) rfl rfl) ?_
       refine s_val (r_move (v := .bool _) rfl) ?_
       refine s_skip (yield_Fr rfl rfl) rfl ?_
       refine s_skip (yield_Fr rfl rfl) rfl ?_
       refine s_skip (yield_Fr rfl rfl) rfl ?_
       refine s_skip (yield_Fr rfl rfl) rfl ?_
       refine s_skip (yield_Fr rfl rfl) rfl ?_
       refine s_val (r_pick (v := .bool _) rfl rfl) ?_
       refine s_val (r_assign (v := .bool _) rfl) ?_
       refine s_nil (e_then (c_ret ?_))
       refine ret_run (res_1 (v := .bool _) rfl rfl) ?_
       refine ⟨?_, M.keep⟩
       first
         | (refine congrArg _ (congrArg _ (decide_eq_false ?_).symm); intro h; simp only [SV.scr, Scr.mk.injEq] at h; simp_all [eqv_true, eqv_false]; done)
         | (refine congrArg _ (congrArg _ ?_); obtain ⟨_, _, ⟨_, _, _, _⟩, ⟨_, _, _, _⟩, ⟨_, _, _, _⟩, ⟨_, _, _, _⟩, _, _, _, _, _, _, _, _⟩ := x; obtain ⟨_, _, ⟨_, _, _, _⟩, ⟨_, _, _, _⟩, ⟨_, _, _, _⟩, ⟨_, _, _, _⟩, _, _, _, _, _, _, _, _⟩ := y; simp_all [SV.scr, eqv_true, eqv_false])
     ·
      refine s_skip (yield_Fr rfl rfl) rfl ?_
      refine s_skip (yield_Fr rfl rfl) rfl ?_
      refine s_skip (yield_Fr rfl rfl) rfl ?_
      refine s_skip (yield_Fr rfl rfl) rfl ?_
      refine s_skip (yield_Fr rfl rfl) rfl ?_
      refine s_skip (yield_Fr rfl rfl) rfl ?_
      refine s_val (r_pick (v := .bool _) rfl rfl) ?_
      refine s_val (r_move (v := .bool _) rfl) ?_
      refine s_skip (yield_Fr rfl rfl) rfl ?_
      refine s_skip (yield_Fr rfl rfl) rfl ?_
      refine s_skip (yield_Fr rfl rfl) rfl ?_
      refine s_skip (yield_Fr rfl rfl) rfl ?_
      refine s_skip (yield_Fr rfl rfl) rfl ?_
      refine s_skip (yield_Fr rfl rfl) rfl ?_
      refine s_val (r_pick (v := .bool _) rfl rfl) ?_
      refine s_val (r_move (v := .bool _) rfl) ?_
      refine s_skip (yield_Fr rfl rfl) rfl ?_
      refine s_skip (yield_Fr rfl rfl) rfl ?_
      refine s_skip (yield_Fr rfl rfl) rfl ?_
      refine s_skip (yield_Fr rfl rfl) rfl ?_
      refine s_skip (yield_Fr rfl rfl) rfl ?_
      refine s_val (r_pick (v := .bool _) rfl rfl) ?_
      refine s_val (r_assign (v := .bool _) rfl) ?_
      refine s_nil (e_then (c_ret ?_))
      refine ret_run (res_1 (v := .bool _) rfl rfl) ?_
      refine ⟨?_, M.keep⟩
      first
        | (refine congrArg _ (congrArg _ (decide_eq_false ?_).symm); intro h; simp only [SV.scr, Scr.mk.injEq] at h; simp_all [eqv_true, eqv_false]; done)
        | (refine congrArg _ (congrArg _ ?_); obtain ⟨_, _, ⟨_, _, _, _⟩, ⟨_, _, _, _⟩, ⟨_, _, _, _⟩, ⟨_, _, _, _⟩, _, _, _, _, _, _, _, _⟩ := x; obtain ⟨_, _, ⟨_, _, _, _⟩, ⟨_, _, _, _⟩, ⟨_, _, _, _⟩, ⟨_, _, _, _⟩, _, _, _, _, _, _, _, _⟩ := y; simp_all [SV.scr, eqv_true, eqv_false])
    ·
     refine s_skip (yield_Fr rfl rfl) rfl ?_
     refine s_skip (yield_Fr rfl rfl) rfl ?_
     refine s_skip (yield_Fr rfl rfl) rfl ?_
     refine s_skip (yield_Fr rfl rfl) rfl ?_
     refine s_skip (yield_Fr rfl rfl) rfl ?_
     refine s_val (r_pick (v := .bool _) rfl rfl) ?_
     refine s_val (r_move (v := .bool _) rfl) ?_
     refine s_skip (yield_Fr rfl rfl) rfl ?_
     refine s_skip (yield_Fr rfl rfl) rfl ?_
     refine s_skip (yield_Fr rfl rfl) rfl ?_
     refine s_skip (yield_Fr rfl rfl) rfl ?_
     refine s_skip (yield_Fr rfl rfl) rfl ?_
     refine s_skip (yield_Fr rfl rfl) rfl ?_
     refine s_val (r_pick (v := .bool _) rfl rfl) ?_
     refine s_val (r_move (v := .bool _) rfl) ?_
     refine s_skip (yield_Fr rfl rfl) rfl ?_
     refine s_skip (yield_Fr rfl rfl) rfl ?_
     refine s_skip (yield_Fr rfl rfl) rfl ?_
     refine s_skip (yield_Fr rfl rfl) rfl ?_
     refine s_skip (yield_Fr rfl rfl) rfl ?_
     refine s_skip (yield_Fr rfl rfl) rfl ?_
     refine s_val (r_pick (v := .bool _) rfl rfl) ?_
     refine s_val (r_move (v := .bool _) rfl) ?_
     refine s_skip (yield_Fr rfl rfl) rfl ?_
     refine s_skip (yield_Fr rfl rfl) rfl ?_
     refine s_skip (yield_Fr rfl rfl) rfl ?_
     refine s_skip (yield_Fr rfl rfl) rfl ?_
     refine s_skip (yield_Fr rfl rfl) rfl ?_
     refine s_val (r_pick (v := .bool _) rfl rfl) ?_
     refine s_val (r_assign (v := .bool _) rfl) ?_
     refine s_nil (e_then (c_ret ?_))
     refine ret_run (res_1 (v := .bool _) rfl rfl) ?_
     refine ⟨?_, M.keep⟩
     first
       | (refine congrArg _ (congrArg _ (decide_eq_false ?_).symm); intro h; simp only [SV.scr, Scr.mk.injEq] at h; simp_all [eqv_true, eqv_false]; done)
       | (refine congrArg _ (congrArg _ ?_); obtain ⟨_, _, ⟨_, _, _, _⟩, ⟨_, _, _, _⟩, ⟨_, _, _, _⟩, ⟨_, _, _, _⟩, _, _, _, _, _, _, _, _⟩ := x; obtain ⟨_, _, ⟨_, _, _, _⟩, ⟨_, _, _, _⟩, ⟨_, _, _, _⟩, ⟨_, _, _, _⟩, _, _, _, _, _, _, _, _⟩ := y; simp_all [SV.scr, eqv_true, eqv_false])
   ·
    refine s_skip (yield_Fr rfl rfl) rfl ?_
    refine s_skip (yield_Fr rfl rfl) rfl ?_
    refine s_skip (yield_Fr rfl rfl) rfl ?_
    refine s_skip (yield_Fr rfl rfl) rfl ?_
    refine s_skip (yield_Fr rfl rfl) rfl ?_
    refine s_val (r_pick (v := .bool _) rfl rfl) ?_
    refine s_val (r_move (v := .bool _) rfl) ?_
    refine s_skip (yield_Fr rfl rfl) rfl ?_
    refine s_skip (yield_Fr rfl rfl) rfl ?_
    refine s_skip (yield_Fr rfl rfl) rfl ?_
    refine s_skip (yield_Fr rfl rfl) rfl ?_
    refine s_skip (yield_Fr rfl rfl) rfl ?_
    refine s_val (r_pick (v := .bool _) rfl rfl) ?_
    refine s_val (r_move (v := .bool _) rfl) ?_
    refine s_skip (yield_Fr rfl rfl) rfl ?_
    refine s_skip (yield_Fr rfl rfl) rfl ?_
    refine s_skip (yield_Fr rfl rfl) rfl ?_
    refine s_skip (yield_Fr rfl rfl) rfl ?_
    refine s_skip (yield_Fr rfl rfl) rfl ?_
    refine s_skip (yield_Fr rfl rfl) rfl ?_
    refine s_val (r_pick (v := .bool _) rfl rfl) ?_
    refine s_val (r_move (v := .bool _) rfl) ?_
    refine s_skip (yield_Fr rfl rfl) rfl ?_
    refine s_skip (yield_Fr rfl rfl) rfl ?_
    refine s_skip (yield_Fr rfl rfl) rfl ?_
    refine s_skip (yield_Fr rfl rfl) rfl ?_
    refine s_skip (yield_Fr rfl rfl) rfl ?_
    refine s_skip (yield_Fr rfl rfl) rfl ?_
    refine s_val (r_pick (v := .bool _) rfl rfl) ?_
    refine s_val (r_move (v := .bool _) rfl) ?_
    refine s_skip (yield_Fr rfl rfl) rfl ?_
    refine s_skip (yield_Fr rfl rfl) rfl ?_
    refine s_skip (yield_Fr rfl rfl) rfl ?_
    refine s_skip (yield_Fr rfl rfl) rfl ?_
    refine s_skip (yield_Fr rfl rfl) rfl ?_
    refine s_val (r_pick (v := .bool _) rfl rfl) ?_
    refine s_val (r_assign (v := .bool _) rfl) ?_
    refine s_nil (e_then (c_ret ?_))
    refine ret_run (res_1 (v := .bool _) rfl rfl) ?_
    refine ⟨?_, M.keep⟩
    first
      | (refine congrArg _ (congrArg _ (decide_eq_false ?_).symm); intro h; simp only [SV.scr, Scr.mk.injEq] at h; simp_all [eqv_true, eqv_false]; done)
      | (refine congrArg _ (congrArg _ ?_); obtain ⟨_, _, ⟨_, _, _, _⟩, ⟨_, _, _, _⟩, ⟨_, _, _, _⟩, ⟨_, _, _, _⟩, _, _, _, _, _, _, _, _⟩ := x; obtain ⟨_, _, ⟨_, _, _, _⟩, ⟨_, _, _, _⟩, ⟨_, _, _, _⟩, ⟨_, _, _, _⟩, _, _, _, _, _, _, _, _⟩ := y; simp_all [SV.scr, eqv_true, eqv_false])
  ·
   refine s_skip (yield_Fr rfl rfl) rfl ?_
   refine s_skip (yield_Fr rfl rfl) rfl ?_
   refine s_skip (yield_Fr rfl rfl) rfl ?_
   refine s_skip (yield_Fr rfl rfl) rfl ?_
   refine s_skip (yield_Fr rfl rfl) rfl ?_
   refine s_val (r_pick (v := .bool _) rfl rfl) ?_
   refine s_val (r_move (v := .bool _) rfl) ?_
   refine s_skip (yield_Fr rfl rfl) rfl ?_
   refine s_skip (yield_Fr rfl rfl) rfl ?_
   refine s_skip (yield_Fr rfl rfl) rfl ?_
   refine s_skip (yield_Fr rfl rfl) rfl ?_
   refine s_skip (yield_Fr rfl rfl) rfl ?_
   refine s_val (r_pick (v := .bool _) rfl rfl) ?_
   refine s_val (r_move (v := .bool _) rfl) ?_
   refine s_skip (yield_Fr rfl rfl) rfl ?_
   refine s_skip (yield_Fr rfl rfl) rfl ?_
   refine s_skip (yield_Fr rfl rfl) rfl ?_
   refine s_skip (yield_Fr rfl rfl) rfl ?_
   refine s_skip (yield_Fr rfl rfl) rfl ?_
   refine s_val (r_pick (v := .bool _) rfl rfl) ?_
   refine s_val (r_move (v := .bool _) rfl) ?_
   refine s_skip (yield_Fr rfl rfl) rfl ?_
   refine s_skip (yield_Fr rfl rfl) rfl ?_
   refine s_skip (yield_Fr rfl rfl) rfl ?_
   refine s_skip (yield_Fr rfl rfl) rfl ?_
   refine s_skip (yield_Fr rfl rfl) rfl ?_
   refine s_skip (yield_Fr rfl rfl) rfl ?_
   refine s_val (r_pick (v := .bool _) rfl rfl) ?_
   refine s_val (r_move (v := .bool _) rfl) ?_
   refine s_skip (yield_Fr rfl rfl) rfl ?_
   refine s_skip (yield_Fr rfl rfl) rfl ?_
   refine s_skip (yield_Fr rfl rfl) rfl ?_
   refine s_skip (yield_Fr rfl rfl) rfl ?_
   refine s_skip (yield_Fr rfl rfl) rfl ?_
   refine s_skip (yield_Fr rfl rfl) rfl ?_
   refine s_val (r_pick (v := .bool _) rfl rfl) ?_
   refine s_val (r_move (v := .bool _) rfl) ?_
   refine s_skip (yield_Fr rfl rfl) rfl ?_
   refine s_skip (yield_Fr rfl rfl) rfl ?_
   refine s_skip (yield_Fr rfl rfl) rfl ?_
   refine s_skip (yield_Fr rfl rfl) rfl ?_
   refine s_skip (yield_Fr rfl rfl) rfl ?_
   refine s_val (r_pick (v := .bool _) rfl rfl) ?_
   refine s_val (r_assign (v := .bool _) rfl) ?_
   refine s_nil (e_then (c_ret ?_))
   refine ret_run (res_1 (v := .bool _) rfl rfl) ?_
   refine ⟨?_, M.keep⟩
   first
     | (refine congrArg _ (congrArg _ (decide_eq_false ?_).symm); intro h; simp only [SV.scr, Scr.mk.injEq] at h; simp_all [eqv_true, eqv_false]; done)
     | (refine congrArg _ (congrArg _ ?_); obtain ⟨_, _, ⟨_, _, _, _⟩, ⟨_, _, _, _⟩, ⟨_, _, _, _⟩, ⟨_, _, _, _⟩, _, _, _, _, _, _, _, _⟩ := x; obtain ⟨_, _, ⟨_, _, _, _⟩, ⟨_, _, _, _⟩, ⟨_, _, _, _⟩, ⟨_, _, _, _⟩, _, _, _, _, _, _, _, _⟩ := y; simp_all [SV.scr, eqv_true, eqv_false])
end Go.Proofs.Ytcjnniigonaapaa
