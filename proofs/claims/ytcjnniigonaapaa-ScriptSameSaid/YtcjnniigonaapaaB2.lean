/-
  WALKS B2: may a script be one?
-/
import Derived.Test.YtcjnniigonaapaaAC
import Derived.Test.YtcjnniigonaapaaB1
namespace Go.Proofs.Ytcjnniigonaapaa
open Go Go.Az Go.Proofs
set_option maxHeartbeats 1000000
theorem sttCheckOf (s : Stt) (w0 : World) :
    Calls Try.prog 61 #[.agg (stt s).toArray] w0 fun e w' => e = .returned (i64 (sttCheck s)) ∧ Keep [] w0 w' := by
  have M := St.nil w0
  refine calls_of 78 Try.func61 rfl rfl rfl ?_
  refine c_seq (c_region ?_)
  refine a_box (v := .agg _) rfl cells_agg M ?_
  intro b1 w M
  first | replace M := M.nf (L' := [[(_, _)]]) rfl | skip
  refine s_val (r_assign (v := .int _ _) rfl) ?_
  refine s_nil (e_then (c_seq (c_region ?_)))
  refine s_val (r_fieldAddr (o' := 11) fb54_11 (by decide) rfl rfl) ?_
  refine a_loadN (vs := [_, _, _, _]) Try.underlying52 rfl sz52 M rfl (k := 0) (j := 0) rfl rfl rfl rfl ?_
  refine a_alloc zr52 cells_agg M ?_
  intro b3 w M
  first | replace M := M.nf (L' := [[(_, _)], [(_, _)]]) rfl | skip
  refine a_storeS (v := .agg _) (cs' := [_, _, _, _]) sz52 M rfl rfl cells_agg (k := 1) (j := 0) rfl rfl rfl rfl rfl rfl ?_
  intro w M
  first | replace M := M.nf (L' := [[(_, _)], [(_, _)]]) rfl | skip
  refine s_nil (e_then (c_seq (c_block (c_seq (c_region ?_)))))
  refine s_val (r_fieldAddr (o' := 0) fb54_0 (by decide) rfl rfl) ?_
  refine a_load1 (v := .int _ _) Try.underlying47 rfl M rfl (k := 0) (j := 0) rfl rfl rfl ?_
  refine s_val (r_geq rfl rfl) ?_
  refine s_val (r_move (v := .bool _) rfl) ?_
  refine s_splitD 10 rfl (fun g10 => ?_) (fun g10 => ?_)
  ·
   refine s_skip (yield_Fr rfl rfl) rfl ?_
   refine s_skip (yield_Fr rfl rfl) rfl ?_
   refine s_skip (yield_Fr rfl rfl) rfl ?_
   refine s_val (r_pick (v := .bool _) rfl rfl) ?_
   refine s_val (r_move (v := .bool _) rfl) ?_
   refine s_skip (yield_Fr rfl rfl) rfl ?_
   refine s_skip (yield_Fr rfl rfl) rfl ?_
   refine s_skip (yield_Fr rfl rfl) rfl ?_
   refine s_val (r_pick (v := .bool _) rfl rfl) ?_
   refine s_val (r_move (v := .bool _) rfl) ?_
   refine s_skip (yield_Fr rfl rfl) rfl ?_
   refine s_skip (yield_Fr rfl rfl) rfl ?_
   refine s_skip (yield_Fr rfl rfl) rfl ?_
   refine s_val (r_pick (v := .bool _) rfl rfl) ?_
   refine s_val (r_move (v := .bool _) rfl) ?_
   refine s_skip (yield_Fr rfl rfl) rfl ?_
   refine s_skip (yield_Fr rfl rfl) rfl ?_
   refine s_skip (yield_Fr rfl rfl) rfl ?_
   refine s_val (r_pick (v := .bool _) rfl rfl) ?_
   refine s_val (r_move (v := .bool _) rfl) ?_
   refine s_skip (yield_Fr rfl rfl) rfl ?_
   refine s_skip (yield_Fr rfl rfl) rfl ?_
   refine s_skip (yield_Fr rfl rfl) rfl ?_
   refine s_val (r_pick (v := .bool _) rfl rfl) ?_
   refine s_val (r_move (v := .bool _) rfl) ?_
   refine s_skip (yield_Fr rfl rfl) rfl ?_
   refine s_skip (yield_Fr rfl rfl) rfl ?_
   refine s_skip (yield_Fr rfl rfl) rfl ?_
   refine s_val (r_pick (v := .bool _) rfl rfl) ?_
   refine s_val (r_move (v := .bool _) rfl) ?_
   refine s_skip (yield_Fr rfl rfl) rfl ?_
   refine s_skip (yield_Fr rfl rfl) rfl ?_
   refine s_skip (yield_Fr rfl rfl) rfl ?_
   refine s_val (r_pick (v := .bool _) rfl rfl) ?_
   refine s_val (r_assign (v := .bool _) rfl) ?_
   refine s_nil (e_then ?_)
   refine c_yes rfl (by decide) ?_
   refine c_seq (c_region ?_)
   have hr : sttCheck s = 13 := if_pos (by omega)
   refine s_val (r_assign (v := .int _ _) rfl) ?_
   refine s_nil (e_then (c_ret (e_blk_ret (e_then_ret ?_))))
   refine ret_run (res_1 (v := .int _ _) rfl rfl) ?_
   exact ⟨congrArg (fun n => Ending.returned (i64 n)) hr.symm, M.keep⟩
  ·
   refine s_unguard (yield_Fr rfl rfl) rfl ?_
   refine s_val (r_fieldAddr (o' := 2) fb54_2 (by decide) rfl rfl) ?_
   refine s_unguard (yield_Fr rfl rfl) rfl ?_
   refine a_load1 (v := .int _ _) Try.underlying47 rfl M rfl (k := 0) (j := 0) rfl rfl rfl ?_
   refine s_unguard (yield_Fr rfl rfl) rfl ?_
   refine s_val (r_geq rfl rfl) ?_
   refine s_val (r_pick (v := .bool _) rfl rfl) ?_
   refine s_val (r_move (v := .bool _) rfl) ?_
   refine s_splitD 15 rfl (fun g15 => ?_) (fun g15 => ?_)
   ·
    refine s_skip (yield_Fr rfl rfl) rfl ?_
    refine s_skip (yield_Fr rfl rfl) rfl ?_
    refine s_skip (yield_Fr rfl rfl) rfl ?_
    refine s_val (r_pick (v := .bool _) rfl rfl) ?_
    refine s_val (r_move (v := .bool _) rfl) ?_
    refine s_skip (yield_Fr rfl rfl) rfl ?_
    refine s_skip (yield_Fr rfl rfl) rfl ?_
    refine s_skip (yield_Fr rfl rfl) rfl ?_
    refine s_val (r_pick (v := .bool _) rfl rfl) ?_
    refine s_val (r_move (v := .bool _) rfl) ?_
    refine s_skip (yield_Fr rfl rfl) rfl ?_
    refine s_skip (yield_Fr rfl rfl) rfl ?_
    refine s_skip (yield_Fr rfl rfl) rfl ?_
    refine s_val (r_pick (v := .bool _) rfl rfl) ?_
    refine s_val (r_move (v := .bool _) rfl) ?_
    refine s_skip (yield_Fr rfl rfl) rfl ?_
    refine s_skip (yield_Fr rfl rfl) rfl ?_
    refine s_skip (yield_Fr rfl rfl) rfl ?_
    refine s_val (r_pick (v := .bool _) rfl rfl) ?_
    refine s_val (r_move (v := .bool _) rfl) ?_
    refine s_skip (yield_Fr rfl rfl) rfl ?_
    refine s_skip (yield_Fr rfl rfl) rfl ?_
    refine s_skip (yield_Fr rfl rfl) rfl ?_
    refine s_val (r_pick (v := .bool _) rfl rfl) ?_
    refine s_val (r_move (v := .bool _) rfl) ?_
    refine s_skip (yield_Fr rfl rfl) rfl ?_
    refine s_skip (yield_Fr rfl rfl) rfl ?_
    refine s_skip (yield_Fr rfl rfl) rfl ?_
    refine s_val (r_pick (v := .bool _) rfl rfl) ?_
    refine s_val (r_assign (v := .bool _) rfl) ?_
    refine s_nil (e_then ?_)
    refine c_yes rfl (by decide) ?_
    refine c_seq (c_region ?_)
    have hr : sttCheck s = 13 := if_pos (by omega)
    refine s_val (r_assign (v := .int _ _) rfl) ?_
    refine s_nil (e_then (c_ret (e_blk_ret (e_then_ret ?_))))
    refine ret_run (res_1 (v := .int _ _) rfl rfl) ?_
    exact ⟨congrArg (fun n => Ending.returned (i64 n)) hr.symm, M.keep⟩
   ·
    refine s_unguard (yield_Fr rfl rfl) rfl ?_
    refine s_val (r_fieldAddr (o' := 5) fb54_5 (by decide) rfl rfl) ?_
    refine s_unguard (yield_Fr rfl rfl) rfl ?_
    refine a_load1 (v := .int _ _) Try.underlying48 rfl M rfl (k := 0) (j := 0) rfl rfl rfl ?_
    refine s_unguard (yield_Fr rfl rfl) rfl ?_
    refine s_val (r_geq rfl rfl) ?_
    refine s_val (r_pick (v := .bool _) rfl rfl) ?_
    refine s_val (r_move (v := .bool _) rfl) ?_
    refine s_splitD 20 rfl (fun g20 => ?_) (fun g20 => ?_)
    ·
     refine s_skip (yield_Fr rfl rfl) rfl ?_
     refine s_skip (yield_Fr rfl rfl) rfl ?_
     refine s_skip (yield_Fr rfl rfl) rfl ?_
     refine s_val (r_pick (v := .bool _) rfl rfl) ?_
     refine s_val (r_move (v := .bool _) rfl) ?_
     refine s_skip (yield_Fr rfl rfl) rfl ?_
     refine s_skip (yield_Fr rfl rfl) rfl ?_
     refine s_skip (yield_Fr rfl rfl) rfl ?_
     refine s_val (r_pick (v := .bool _) rfl rfl) ?_
     refine s_val (r_move (v := .bool _) rfl) ?_
     refine s_skip (yield_Fr rfl rfl) rfl ?_
     refine s_skip (yield_Fr rfl rfl) rfl ?_
     refine s_skip (yield_Fr rfl rfl) rfl ?_
     refine s_val (r_pick (v := .bool _) rfl rfl) ?_
     refine s_val (r_move (v := .bool _) rfl) ?_
     refine s_skip (yield_Fr rfl rfl) rfl ?_
     refine s_skip (yield_Fr rfl rfl) rfl ?_
     refine s_skip (yield_Fr rfl rfl) rfl ?_
     refine s_val (r_pick (v := .bool _) rfl rfl) ?_
     refine s_val (r_move (v := .bool _) rfl) ?_
     refine s_skip (yield_Fr rfl rfl) rfl ?_
     refine s_skip (yield_Fr rfl rfl) rfl ?_
     refine s_skip (yield_Fr rfl rfl) rfl ?_
     refine s_val (r_pick (v := .bool _) rfl rfl) ?_
     refine s_val (r_assign (v := .bool _) rfl) ?_
     refine s_nil (e_then ?_)
     refine c_yes rfl (by decide) ?_
     refine c_seq (c_region ?_)
     have hr : sttCheck s = 13 := if_pos (by omega)
     refine s_val (r_assign (v := .int _ _) rfl) ?_
     refine s_nil (e_then (c_ret (e_blk_ret (e_then_ret ?_))))
     refine ret_run (res_1 (v := .int _ _) rfl rfl) ?_
     exact ⟨congrArg (fun n => Ending.returned (i64 n)) hr.symm, M.keep⟩
    ·
     refine s_unguard (yield_Fr rfl rfl) rfl ?_
     refine s_val (r_fieldAddr (o' := 6) fb54_6 (by decide) rfl rfl) ?_
     refine s_unguard (yield_Fr rfl rfl) rfl ?_
     refine a_load1 (v := .int _ _) Try.underlying48 rfl M rfl (k := 0) (j := 0) rfl rfl rfl ?_
     refine s_unguard (yield_Fr rfl rfl) rfl ?_
     refine s_val (r_geq rfl rfl) ?_
     refine s_val (r_pick (v := .bool _) rfl rfl) ?_
     refine s_val (r_move (v := .bool _) rfl) ?_
     refine s_splitD 25 rfl (fun g25 => ?_) (fun g25 => ?_)
     ·
      refine s_skip (yield_Fr rfl rfl) rfl ?_
      refine s_skip (yield_Fr rfl rfl) rfl ?_
      refine s_skip (yield_Fr rfl rfl) rfl ?_
      refine s_val (r_pick (v := .bool _) rfl rfl) ?_
      refine s_val (r_move (v := .bool _) rfl) ?_
      refine s_skip (yield_Fr rfl rfl) rfl ?_
      refine s_skip (yield_Fr rfl rfl) rfl ?_
      refine s_skip (yield_Fr rfl rfl) rfl ?_
      refine s_val (r_pick (v := .bool _) rfl rfl) ?_
      refine s_val (r_move (v := .bool _) rfl) ?_
      refine s_skip (yield_Fr rfl rfl) rfl ?_
      refine s_skip (yield_Fr rfl rfl) rfl ?_
      refine s_skip (yield_Fr rfl rfl) rfl ?_
      refine s_val (r_pick (v := .bool _) rfl rfl) ?_
      refine s_val (r_move (v := .bool _) rfl) ?_
      refine s_skip (yield_Fr rfl rfl) rfl ?_
      refine s_skip (yield_Fr rfl rfl) rfl ?_
      refine s_skip (yield_Fr rfl rfl) rfl ?_
      refine s_val (r_pick (v := .bool _) rfl rfl) ?_
      refine s_val (r_assign (v := .bool _) rfl) ?_
      refine s_nil (e_then ?_)
      refine c_yes rfl (by decide) ?_
      refine c_seq (c_region ?_)
      have hr : sttCheck s = 13 := if_pos (by omega)
      refine s_val (r_assign (v := .int _ _) rfl) ?_
      refine s_nil (e_then (c_ret (e_blk_ret (e_then_ret ?_))))
      refine ret_run (res_1 (v := .int _ _) rfl rfl) ?_
      exact ⟨congrArg (fun n => Ending.returned (i64 n)) hr.symm, M.keep⟩
     ·
      refine s_unguard (yield_Fr rfl rfl) rfl ?_
      refine s_val (r_fieldAddr (o' := 7) fb54_7 (by decide) rfl rfl) ?_
      refine s_unguard (yield_Fr rfl rfl) rfl ?_
      refine a_load1 (v := .int _ _) Try.underlying48 rfl M rfl (k := 0) (j := 0) rfl rfl rfl ?_
      refine s_unguard (yield_Fr rfl rfl) rfl ?_
      refine s_val (r_geq rfl rfl) ?_
      refine s_val (r_pick (v := .bool _) rfl rfl) ?_
      refine s_val (r_move (v := .bool _) rfl) ?_
      refine s_splitD 30 rfl (fun g30 => ?_) (fun g30 => ?_)
      ·
       refine s_skip (yield_Fr rfl rfl) rfl ?_
       refine s_skip (yield_Fr rfl rfl) rfl ?_
       refine s_skip (yield_Fr rfl rfl) rfl ?_
       refine s_val (r_pick (v := .bool _) rfl rfl) ?_
       refine s_val (r_move (v := .bool _) rfl) ?_
       refine s_skip (yield_Fr rfl rfl) rfl ?_
       refine s_skip (yield_Fr rfl rfl) rfl ?_
       refine s_skip (yield_Fr rfl rfl) rfl ?_
       refine s_val (r_pick (v := .bool _) rfl rfl) ?_
       refine s_val (r_move (v := .bool _) rfl) ?_
       refine s_skip (yield_Fr rfl rfl) rfl ?_
       refine s_skip (yield_Fr rfl rfl) rfl ?_
       refine s_skip (yield_Fr rfl rfl) rfl ?_
       refine s_val (r_pick (v := .bool _) rfl rfl) ?_
       refine s_val (r_assign (v := .bool _) rfl) ?_
       refine s_nil (e_then ?_)
       refine c_yes rfl (by decide) ?_
       refine c_seq (c_region ?_)
       have hr : sttCheck s = 13 := if_pos (by omega)
       refine s_val (r_assign (v := .int _ _) rfl) ?_
       refine s_nil (e_then (c_ret (e_blk_ret (e_then_ret ?_))))
       refine ret_run (res_1 (v := .int _ _) rfl rfl) ?_
       exact ⟨congrArg (fun n => Ending.returned (i64 n)) hr.symm, M.keep⟩
      ·
       refine s_unguard (yield_Fr rfl rfl) rfl ?_
       refine s_val (r_fieldAddr (o' := 8) fb54_8 (by decide) rfl rfl) ?_
       refine s_unguard (yield_Fr rfl rfl) rfl ?_
       refine a_load1 (v := .int _ _) Try.underlying49 rfl M rfl (k := 0) (j := 0) rfl rfl rfl ?_
       refine s_unguard (yield_Fr rfl rfl) rfl ?_
       refine s_val (r_geq rfl rfl) ?_
       refine s_val (r_pick (v := .bool _) rfl rfl) ?_
       refine s_val (r_move (v := .bool _) rfl) ?_
       refine s_splitD 35 rfl (fun g35 => ?_) (fun g35 => ?_)
       ·
        refine s_skip (yield_Fr rfl rfl) rfl ?_
        refine s_skip (yield_Fr rfl rfl) rfl ?_
        refine s_skip (yield_Fr rfl rfl) rfl ?_
        refine s_val (r_pick (v := .bool _) rfl rfl) ?_
        refine s_val (r_move (v := .bool _) rfl) ?_
        refine s_skip (yield_Fr rfl rfl) rfl ?_
        refine s_skip (yield_Fr rfl rfl) rfl ?_
        refine s_skip (yield_Fr rfl rfl) rfl ?_
        refine s_val (r_pick (v := .bool _) rfl rfl) ?_
        refine s_val (r_assign (v := .bool _) rfl) ?_
        refine s_nil (e_then ?_)
        refine c_yes rfl (by decide) ?_
        refine c_seq (c_region ?_)
        have hr : sttCheck s = 13 := if_pos (by omega)
        refine s_val (r_assign (v := .int _ _) rfl) ?_
        refine s_nil (e_then (c_ret (e_blk_ret (e_then_ret ?_))))
        refine ret_run (res_1 (v := .int _ _) rfl rfl) ?_
        exact ⟨congrArg (fun n => Ending.returned (i64 n)) hr.symm, M.keep⟩
       ·
        refine s_unguard (yield_Fr rfl rfl) rfl ?_
        refine s_val (r_fieldAddr (o' := 10) fb54_10 (by decide) rfl rfl) ?_
        refine s_unguard (yield_Fr rfl rfl) rfl ?_
        refine a_load1 (v := .int _ _) Try.underlying50 rfl M rfl (k := 0) (j := 0) rfl rfl rfl ?_
        refine s_unguard (yield_Fr rfl rfl) rfl ?_
        refine s_val (r_geq rfl rfl) ?_
        refine s_val (r_pick (v := .bool _) rfl rfl) ?_
        refine s_val (r_move (v := .bool _) rfl) ?_
        refine s_splitD 40 rfl (fun g40 => ?_) (fun g40 => ?_)
        ·
         refine s_skip (yield_Fr rfl rfl) rfl ?_
         refine s_skip (yield_Fr rfl rfl) rfl ?_
         refine s_skip (yield_Fr rfl rfl) rfl ?_
         refine s_val (r_pick (v := .bool _) rfl rfl) ?_
         refine s_val (r_assign (v := .bool _) rfl) ?_
         refine s_nil (e_then ?_)
         refine c_yes rfl (by decide) ?_
         refine c_seq (c_region ?_)
         have hr : sttCheck s = 13 := if_pos (by omega)
         refine s_val (r_assign (v := .int _ _) rfl) ?_
         refine s_nil (e_then (c_ret (e_blk_ret (e_then_ret ?_))))
         refine ret_run (res_1 (v := .int _ _) rfl rfl) ?_
         exact ⟨congrArg (fun n => Ending.returned (i64 n)) hr.symm, M.keep⟩
        ·
         refine s_unguard (yield_Fr rfl rfl) rfl ?_
         refine s_val (r_fieldAddr (o' := 9) fb54_9 (by decide) rfl rfl) ?_
         refine s_unguard (yield_Fr rfl rfl) rfl ?_
         refine a_load1 (v := .int _ _) Try.underlying5 rfl M rfl (k := 0) (j := 0) rfl rfl rfl ?_
         refine s_unguard (yield_Fr rfl rfl) rfl ?_
         refine s_val (r_gtr rfl rfl) ?_
         refine s_val (r_pick (v := .bool _) rfl rfl) ?_
         refine s_val (r_assign (v := .bool _) rfl) ?_
         refine s_nil (e_then ?_)
         refine c_if rfl (fun h6 => ?_) (fun h6 => ?_)
         ·
          refine c_seq (c_region ?_)
          have hr : sttCheck s = 13 := if_pos (by omega)
          refine s_val (r_assign (v := .int _ _) rfl) ?_
          refine s_nil (e_then (c_ret (e_blk_ret (e_then_ret ?_))))
          refine ret_run (res_1 (v := .int _ _) rfl rfl) ?_
          exact ⟨congrArg (fun n => Ending.returned (i64 n)) hr.symm, M.keep⟩
         ·
          refine c_seq (c_region ?_)
          refine s_val (r_fieldAddr (o' := 0) fb52_0 (by decide) rfl rfl) ?_
          refine a_load1 (v := .int _ _) Try.underlying3 rfl M rfl (k := 1) (j := 0) rfl rfl rfl ?_
          refine s_val (r_lss rfl rfl) ?_
          refine s_val (r_move (v := .bool _) rfl) ?_
          refine s_splitD 49 rfl (fun g49 => ?_) (fun g49 => ?_)
          ·
           refine s_skip (yield_Fr rfl rfl) rfl ?_
           refine s_skip (yield_Fr rfl rfl) rfl ?_
           refine s_skip (yield_Fr rfl rfl) rfl ?_
           refine s_skip (yield_Fr rfl rfl) rfl ?_
           refine s_skip (yield_Fr rfl rfl) rfl ?_
           refine s_val (r_pick (v := .bool _) rfl rfl) ?_
           refine s_val (r_move (v := .bool _) rfl) ?_
           refine s_skip (yield_Fr rfl rfl) rfl ?_
           refine s_skip (yield_Fr rfl rfl) rfl ?_
           refine s_skip (yield_Fr rfl rfl) rfl ?_
           refine s_val (r_pick (v := .bool _) rfl rfl) ?_
           refine s_val (r_move (v := .bool _) rfl) ?_
           refine s_skip (yield_Fr rfl rfl) rfl ?_
           refine s_skip (yield_Fr rfl rfl) rfl ?_
           refine s_skip (yield_Fr rfl rfl) rfl ?_
           refine s_val (r_pick (v := .bool _) rfl rfl) ?_
           refine s_val (r_move (v := .bool _) rfl) ?_
           refine s_skip (yield_Fr rfl rfl) rfl ?_
           refine s_skip (yield_Fr rfl rfl) rfl ?_
           refine s_skip (yield_Fr rfl rfl) rfl ?_
           refine s_skip (yield_Fr rfl rfl) rfl ?_
           refine s_skip (yield_Fr rfl rfl) rfl ?_
           refine s_val (r_pick (v := .bool _) rfl rfl) ?_
           refine s_val (r_move (v := .bool _) rfl) ?_
           refine s_skip (yield_Fr rfl rfl) rfl ?_
           refine s_skip (yield_Fr rfl rfl) rfl ?_
           refine s_skip (yield_Fr rfl rfl) rfl ?_
           refine s_val (r_pick (v := .bool _) rfl rfl) ?_
           refine s_val (r_assign (v := .bool _) rfl) ?_
           refine s_nil (e_then ?_)
           refine c_yes rfl (by decide) ?_
           refine c_seq (c_region ?_)
           have hr : sttCheck s = 2 := by rw [sttCheck, if_neg (by omega), if_pos (by omega)]
           refine s_val (r_assign (v := .int _ _) rfl) ?_
           refine s_nil (e_then (c_ret (e_blk_ret (e_then_ret ?_))))
           refine ret_run (res_1 (v := .int _ _) rfl rfl) ?_
           exact ⟨congrArg (fun n => Ending.returned (i64 n)) hr.symm, M.keep⟩
          ·
           refine s_unguard (yield_Fr rfl rfl) rfl ?_
           refine s_val (r_fieldAddr (o' := 0) fb52_0 (by decide) rfl rfl) ?_
           refine s_unguard (yield_Fr rfl rfl) rfl ?_
           refine a_load1 (v := .int _ _) Try.underlying3 rfl M rfl (k := 1) (j := 0) rfl rfl rfl ?_
           refine s_unguard (yield_Fr rfl rfl) rfl ?_
           refine s_val (r_fieldAddr (o' := 2) fb52_2 (by decide) rfl rfl) ?_
           refine s_unguard (yield_Fr rfl rfl) rfl ?_
           refine a_load1 (v := .int _ _) Try.underlying3 rfl M rfl (k := 1) (j := 0) rfl rfl rfl ?_
           refine s_unguard (yield_Fr rfl rfl) rfl ?_
           refine s_val (r_gtr rfl rfl) ?_
           refine s_val (r_pick (v := .bool _) rfl rfl) ?_
           refine s_val (r_move (v := .bool _) rfl) ?_
           refine s_splitD 56 rfl (fun g56 => ?_) (fun g56 => ?_)
           ·
            refine s_skip (yield_Fr rfl rfl) rfl ?_
            refine s_skip (yield_Fr rfl rfl) rfl ?_
            refine s_skip (yield_Fr rfl rfl) rfl ?_
            refine s_val (r_pick (v := .bool _) rfl rfl) ?_
            refine s_val (r_move (v := .bool _) rfl) ?_
            refine s_skip (yield_Fr rfl rfl) rfl ?_
            refine s_skip (yield_Fr rfl rfl) rfl ?_
            refine s_skip (yield_Fr rfl rfl) rfl ?_
            refine s_val (r_pick (v := .bool _) rfl rfl) ?_
            refine s_val (r_move (v := .bool _) rfl) ?_
            refine s_skip (yield_Fr rfl rfl) rfl ?_
            refine s_skip (yield_Fr rfl rfl) rfl ?_
            refine s_skip (yield_Fr rfl rfl) rfl ?_
            refine s_skip (yield_Fr rfl rfl) rfl ?_
            refine s_skip (yield_Fr rfl rfl) rfl ?_
            refine s_val (r_pick (v := .bool _) rfl rfl) ?_
            refine s_val (r_move (v := .bool _) rfl) ?_
            refine s_skip (yield_Fr rfl rfl) rfl ?_
            refine s_skip (yield_Fr rfl rfl) rfl ?_
            refine s_skip (yield_Fr rfl rfl) rfl ?_
            refine s_val (r_pick (v := .bool _) rfl rfl) ?_
            refine s_val (r_assign (v := .bool _) rfl) ?_
            refine s_nil (e_then ?_)
            refine c_yes rfl (by decide) ?_
            refine c_seq (c_region ?_)
            have hr : sttCheck s = 2 := by rw [sttCheck, if_neg (by omega), if_pos (by omega)]
            refine s_val (r_assign (v := .int _ _) rfl) ?_
            refine s_nil (e_then (c_ret (e_blk_ret (e_then_ret ?_))))
            refine ret_run (res_1 (v := .int _ _) rfl rfl) ?_
            exact ⟨congrArg (fun n => Ending.returned (i64 n)) hr.symm, M.keep⟩
           ·
            refine s_unguard (yield_Fr rfl rfl) rfl ?_
            refine s_val (r_fieldAddr (o' := 2) fb52_2 (by decide) rfl rfl) ?_
            refine s_unguard (yield_Fr rfl rfl) rfl ?_
            refine a_load1 (v := .int _ _) Try.underlying3 rfl M rfl (k := 1) (j := 0) rfl rfl rfl ?_
            refine s_unguard (yield_Fr rfl rfl) rfl ?_
            refine s_val (r_gtr rfl rfl) ?_
            refine s_val (r_pick (v := .bool _) rfl rfl) ?_
            refine s_val (r_move (v := .bool _) rfl) ?_
            refine s_splitD 61 rfl (fun g61 => ?_) (fun g61 => ?_)
            ·
             refine s_skip (yield_Fr rfl rfl) rfl ?_
             refine s_skip (yield_Fr rfl rfl) rfl ?_
             refine s_skip (yield_Fr rfl rfl) rfl ?_
             refine s_val (r_pick (v := .bool _) rfl rfl) ?_
             refine s_val (r_move (v := .bool _) rfl) ?_
             refine s_skip (yield_Fr rfl rfl) rfl ?_
             refine s_skip (yield_Fr rfl rfl) rfl ?_
             refine s_skip (yield_Fr rfl rfl) rfl ?_
             refine s_skip (yield_Fr rfl rfl) rfl ?_
             refine s_skip (yield_Fr rfl rfl) rfl ?_
             refine s_val (r_pick (v := .bool _) rfl rfl) ?_
             refine s_val (r_move (v := .bool _) rfl) ?_
             refine s_skip (yield_Fr rfl rfl) rfl ?_
             refine s_skip (yield_Fr rfl rfl) rfl ?_
             refine s_skip (yield_Fr rfl rfl) rfl ?_
             refine s_val (r_pick (v := .bool _) rfl rfl) ?_
             refine s_val (r_assign (v := .bool _) rfl) ?_
             refine s_nil (e_then ?_)
             refine c_yes rfl (by decide) ?_
             refine c_seq (c_region ?_)
             have hr : sttCheck s = 2 := by rw [sttCheck, if_neg (by omega), if_pos (by omega)]
             refine s_val (r_assign (v := .int _ _) rfl) ?_
             refine s_nil (e_then (c_ret (e_blk_ret (e_then_ret ?_))))
             refine ret_run (res_1 (v := .int _ _) rfl rfl) ?_
             exact ⟨congrArg (fun n => Ending.returned (i64 n)) hr.symm, M.keep⟩
            ·
             refine s_unguard (yield_Fr rfl rfl) rfl ?_
             refine s_val (r_fieldAddr (o' := 1) fb52_1 (by decide) rfl rfl) ?_
             refine s_unguard (yield_Fr rfl rfl) rfl ?_
             refine a_load1 (v := .int _ _) Try.underlying3 rfl M rfl (k := 1) (j := 0) rfl rfl rfl ?_
             refine s_unguard (yield_Fr rfl rfl) rfl ?_
             refine s_val (r_lss rfl rfl) ?_
             refine s_val (r_pick (v := .bool _) rfl rfl) ?_
             refine s_val (r_move (v := .bool _) rfl) ?_
             refine s_splitD 66 rfl (fun g66 => ?_) (fun g66 => ?_)
             ·
              refine s_skip (yield_Fr rfl rfl) rfl ?_
              refine s_skip (yield_Fr rfl rfl) rfl ?_
              refine s_skip (yield_Fr rfl rfl) rfl ?_
              refine s_skip (yield_Fr rfl rfl) rfl ?_
              refine s_skip (yield_Fr rfl rfl) rfl ?_
              refine s_val (r_pick (v := .bool _) rfl rfl) ?_
              refine s_val (r_move (v := .bool _) rfl) ?_
              refine s_skip (yield_Fr rfl rfl) rfl ?_
              refine s_skip (yield_Fr rfl rfl) rfl ?_
              refine s_skip (yield_Fr rfl rfl) rfl ?_
              refine s_val (r_pick (v := .bool _) rfl rfl) ?_
              refine s_val (r_assign (v := .bool _) rfl) ?_
              refine s_nil (e_then ?_)
              refine c_yes rfl (by decide) ?_
              refine c_seq (c_region ?_)
              have hr : sttCheck s = 2 := by rw [sttCheck, if_neg (by omega), if_pos (by omega)]
              refine s_val (r_assign (v := .int _ _) rfl) ?_
              refine s_nil (e_then (c_ret (e_blk_ret (e_then_ret ?_))))
              refine ret_run (res_1 (v := .int _ _) rfl rfl) ?_
              exact ⟨congrArg (fun n => Ending.returned (i64 n)) hr.symm, M.keep⟩
             ·
              refine s_unguard (yield_Fr rfl rfl) rfl ?_
              refine s_val (r_fieldAddr (o' := 1) fb52_1 (by decide) rfl rfl) ?_
              refine s_unguard (yield_Fr rfl rfl) rfl ?_
              refine a_load1 (v := .int _ _) Try.underlying3 rfl M rfl (k := 1) (j := 0) rfl rfl rfl ?_
              refine s_unguard (yield_Fr rfl rfl) rfl ?_
              refine s_val (r_fieldAddr (o' := 3) fb52_3 (by decide) rfl rfl) ?_
              refine s_unguard (yield_Fr rfl rfl) rfl ?_
              refine a_load1 (v := .int _ _) Try.underlying3 rfl M rfl (k := 1) (j := 0) rfl rfl rfl ?_
              refine s_unguard (yield_Fr rfl rfl) rfl ?_
              refine s_val (r_gtr rfl rfl) ?_
              refine s_val (r_pick (v := .bool _) rfl rfl) ?_
              refine s_val (r_move (v := .bool _) rfl) ?_
              refine s_splitD 73 rfl (fun g73 => ?_) (fun g73 => ?_)
              ·
               refine s_skip (yield_Fr rfl rfl) rfl ?_
               refine s_skip (yield_Fr rfl rfl) rfl ?_
               refine s_skip (yield_Fr rfl rfl) rfl ?_
               refine s_val (r_pick (v := .bool _) rfl rfl) ?_
               refine s_val (r_assign (v := .bool _) rfl) ?_
               refine s_nil (e_then ?_)
               refine c_yes rfl (by decide) ?_
               refine c_seq (c_region ?_)
               have hr : sttCheck s = 2 := by rw [sttCheck, if_neg (by omega), if_pos (by omega)]
               refine s_val (r_assign (v := .int _ _) rfl) ?_
               refine s_nil (e_then (c_ret (e_blk_ret (e_then_ret ?_))))
               refine ret_run (res_1 (v := .int _ _) rfl rfl) ?_
               exact ⟨congrArg (fun n => Ending.returned (i64 n)) hr.symm, M.keep⟩
              ·
               refine s_unguard (yield_Fr rfl rfl) rfl ?_
               refine s_val (r_fieldAddr (o' := 3) fb52_3 (by decide) rfl rfl) ?_
               refine s_unguard (yield_Fr rfl rfl) rfl ?_
               refine a_load1 (v := .int _ _) Try.underlying3 rfl M rfl (k := 1) (j := 0) rfl rfl rfl ?_
               refine s_unguard (yield_Fr rfl rfl) rfl ?_
               refine s_val (r_gtr rfl rfl) ?_
               refine s_val (r_pick (v := .bool _) rfl rfl) ?_
               refine s_val (r_assign (v := .bool _) rfl) ?_
               refine s_nil (e_then ?_)
               refine c_if rfl (fun h45 => ?_) (fun h45 => ?_)
               ·
                refine c_seq (c_region ?_)
                have hr : sttCheck s = 2 := by rw [sttCheck, if_neg (by omega), if_pos (by omega)]
                refine s_val (r_assign (v := .int _ _) rfl) ?_
                refine s_nil (e_then (c_ret (e_blk_ret (e_then_ret ?_))))
                refine ret_run (res_1 (v := .int _ _) rfl rfl) ?_
                exact ⟨congrArg (fun n => Ending.returned (i64 n)) hr.symm, M.keep⟩
               ·
                refine c_skip (e_blk (e_then (c_seq (c_region ?_))))
                have hr : sttCheck s = 0 := by rw [sttCheck, if_neg (by omega), if_neg (by omega)]
                refine s_val (r_assign (v := .int _ _) rfl) ?_
                refine s_nil (e_then (c_ret ?_))
                refine ret_run (res_1 (v := .int _ _) rfl rfl) ?_
                exact ⟨congrArg (fun n => Ending.returned (i64 n)) hr.symm, M.keep⟩
theorem meshCheckOf (k : Int) (s : Sl) (l : List Int) (n : Nat) (hn : n = l.length) (nv : Int) (w0 : World) (h : LsF encN 1 s l w0) :
    Calls Try.prog 62 #[u8 k, s.v n, i64 nv] w0 fun e w' => e = .returned (i64 (meshCheck k l nv)) ∧ Keep [] w0 w' := by
  subst hn
  have M := St.begin w0 LsF.nice h
  have htop := h.sl.top
  refine calls_of 53 Try.func62 rfl rfl rfl ?_
  refine c_seq (c_region ?_)
  refine s_val (r_assign (v := .int _ _) rfl) ?_
  refine s_nil (e_then ?_)
  refine c_cutG (Γ := Unit) [6, 9, 10, 11, 12, 13, 14, 15, 16, 17, 18, 19, 20, 21, 22, 23, 24, 25, 26, 27, 28, 29, 30, 31, 32, 33, 34, 35, 36, 37, 38] (fun _ => []) (fun _ w' => meshCheck k l nv = firstE (fun n => if n < 0 ∨ n ≥ nv then 14 else 0) l ∧ w0 = w') ?_ ?_
  ·
   refine c_block (c_seq (c_region ?_))
   refine s_val (r_move (v := .int _ _) rfl) ?_
   refine s_val (r_geq rfl rfl) ?_
   refine s_val (r_assign (v := .bool _) rfl) ?_
   refine s_nil (e_then ?_)
   refine c_if rfl (fun h9 => ?_) (fun h9 => ?_)
   ·
    refine c_seq (c_region ?_)
    have hr : meshCheck k l nv = 5 := if_pos (by omega)
    refine s_val (r_assign (v := .int _ _) rfl) ?_
    refine s_nil (e_then (c_ret (e_blk_ret (e_then_ret ?_))))
    refine ret_run (res_1 (v := .int _ _) rfl rfl) ?_
    exact ⟨congrArg (fun n => Ending.returned (i64 n)) hr.symm, M.keep⟩
   ·
    refine c_seq (c_region ?_)
    refine s_val (r_move (v := .slice _ _ _) rfl) ?_
    refine s_val (r_len Try.underlying59 rfl) ?_
    refine s_val (r_gtr rfl rfl) ?_
    refine s_val (r_assign (v := .bool _) rfl) ?_
    refine s_nil (e_then ?_)
    refine c_if rfl (fun h12 => ?_) (fun h12 => ?_)
    ·
     refine c_seq (c_region ?_)
     have hr : meshCheck k l nv = 7 := by rw [meshCheck, if_neg (by omega), if_pos (by omega)]
     refine s_val (r_assign (v := .int _ _) rfl) ?_
     refine s_nil (e_then (c_ret (e_blk_ret (e_then_ret ?_))))
     refine ret_run (res_1 (v := .int _ _) rfl rfl) ?_
     exact ⟨congrArg (fun n => Ending.returned (i64 n)) hr.symm, M.keep⟩
    ·
     refine c_seq (c_region ?_)
     refine s_val (r_move (v := .int _ _) rfl) ?_
     refine s_val (r_eql rfl rfl) ?_
     refine s_val (r_move (v := .bool _) rfl) ?_
     refine s_splitD 19 rfl (fun g19 => ?_) (fun g19 => ?_)
     ·
      refine s_unguard (yield_Fr rfl rfl) rfl ?_
      refine s_val (r_move (v := .slice _ _ _) rfl) ?_
      refine s_unguard (yield_Fr rfl rfl) rfl ?_
      refine s_val (r_len Try.underlying59 rfl) ?_
      refine s_unguard (yield_Fr rfl rfl) rfl ?_
      first | (refine s_val (r_rem rfl rfl (by omega) (Int.tmod_eq_emod_of_nonneg (by omega))) ?_) | (refine s_val (r_rem rfl rfl (by omega) rfl) ?_)
      refine s_unguard (yield_Fr rfl rfl) rfl ?_
      refine s_val (r_neq rfl rfl) ?_
      refine s_val (r_pick (v := .bool _) rfl rfl) ?_
      refine s_val (r_move (v := .bool _) rfl) ?_
      refine s_splitD 25 rfl (fun g25 => ?_) (fun g25 => ?_)
      ·
       refine s_skip (yield_Fr rfl rfl) rfl ?_
       refine s_skip (yield_Fr rfl rfl) rfl ?_
       refine s_skip (yield_Fr rfl rfl) rfl ?_
       refine s_skipU (yield_U rfl rfl) ?_
       refine s_skipU (yield_U rfl rfl) ?_
       refine s_skipU (yield_U rfl rfl) ?_
       refine s_skipU (yield_U rfl rfl) ?_
       refine s_skipU (yield_U rfl rfl) ?_
       refine s_skipU (yield_U rfl rfl) ?_
       refine s_skipU (yield_U rfl rfl) ?_
       refine s_skipU (yield_U rfl rfl) ?_
       refine s_skip (yield_Fr rfl rfl) rfl ?_
       refine s_val (r_pick (v := .bool _) rfl rfl) ?_
       refine s_val (r_assign (v := .bool _) rfl) ?_
       refine s_nil (e_then ?_)
       refine c_yes rfl (by decide) ?_
       refine c_seq (c_region ?_)
       have hr : meshCheck k l nv = 6 := by rw [meshCheck, if_neg (by omega), if_neg (by omega), if_pos (by omega)]
       refine s_val (r_assign (v := .int _ _) rfl) ?_
       refine s_nil (e_then (c_ret (e_blk_ret (e_then_ret ?_))))
       refine ret_run (res_1 (v := .int _ _) rfl rfl) ?_
       exact ⟨congrArg (fun n => Ending.returned (i64 n)) hr.symm, M.keep⟩
      ·
       refine s_unguard (yield_Fr rfl rfl) rfl ?_
       refine s_val (r_move (v := .int _ _) rfl) ?_
       refine s_unguard (yield_Fr rfl rfl) rfl ?_
       refine s_val (r_neq rfl rfl) ?_
       refine s_unguard (yield_Fr rfl rfl) rfl ?_
       refine s_val (r_move (v := .bool _) rfl) ?_
       refine s_splitD 28 rfl (fun g28 => ?_) (fun g28 => ?_)
       ·
        refine s_unguard (yield_Fr rfl rfl) rfl ?_
        refine s_val (r_move (v := .slice _ _ _) rfl) ?_
        refine s_unguard (yield_Fr rfl rfl) rfl ?_
        refine s_val (r_len Try.underlying59 rfl) ?_
        refine s_unguard (yield_Fr rfl rfl) rfl ?_
        refine s_val (r_eql rfl rfl) ?_
        refine s_unguard (yield_Fr rfl rfl) rfl ?_
        refine s_val (r_move (v := .bool _) rfl) ?_
        refine s_splitD 32 rfl (fun g32 => ?_) (fun g32 => ?_)
        ·
         refine s_skip (yield_Fr rfl rfl) rfl ?_
         refine s_skip (yield_Fr rfl rfl) rfl ?_
         refine s_skip (yield_Fr rfl rfl) rfl ?_
         refine s_unguard (yield_Fr rfl rfl) rfl ?_
         refine s_val (r_pick (v := .bool _) rfl rfl) ?_
         refine s_unguard (yield_Fr rfl rfl) rfl ?_
         refine s_val (r_pick (v := .bool _) rfl rfl) ?_
         refine s_val (r_pick (v := .bool _) rfl rfl) ?_
         refine s_val (r_assign (v := .bool _) rfl) ?_
         refine s_nil (e_then ?_)
         refine c_yes rfl (by decide) ?_
         refine c_seq (c_region ?_)
         have hr : meshCheck k l nv = 6 := by rw [meshCheck, if_neg (by omega), if_neg (by omega), if_pos (by omega)]
         refine s_val (r_assign (v := .int _ _) rfl) ?_
         refine s_nil (e_then (c_ret (e_blk_ret (e_then_ret ?_))))
         refine ret_run (res_1 (v := .int _ _) rfl rfl) ?_
         exact ⟨congrArg (fun n => Ending.returned (i64 n)) hr.symm, M.keep⟩
        ·
         refine s_unguard (yield_Fr rfl rfl) rfl ?_
         refine s_val (r_move (v := .slice _ _ _) rfl) ?_
         refine s_unguard (yield_Fr rfl rfl) rfl ?_
         refine s_val (r_len Try.underlying59 rfl) ?_
         refine s_unguard (yield_Fr rfl rfl) rfl ?_
         refine s_val (r_eql rfl rfl) ?_
         refine s_unguard (yield_Fr rfl rfl) rfl ?_
         refine s_val (r_pick (v := .bool _) rfl rfl) ?_
         refine s_unguard (yield_Fr rfl rfl) rfl ?_
         refine s_val (r_pick (v := .bool _) rfl rfl) ?_
         refine s_val (r_pick (v := .bool _) rfl rfl) ?_
         refine s_val (r_assign (v := .bool _) rfl) ?_
         refine s_nil (e_then ?_)
         refine c_if rfl (fun h16 => ?_) (fun h16 => ?_)
         ·
          refine c_seq (c_region ?_)
          have hr : meshCheck k l nv = 6 := by rw [meshCheck, if_neg (by omega), if_neg (by omega), if_pos (by omega)]
          refine s_val (r_assign (v := .int _ _) rfl) ?_
          refine s_nil (e_then (c_ret (e_blk_ret (e_then_ret ?_))))
          refine ret_run (res_1 (v := .int _ _) rfl rfl) ?_
          exact ⟨congrArg (fun n => Ending.returned (i64 n)) hr.symm, M.keep⟩
         ·
          refine c_skip (e_blk (e_then ?_))
          exact cut_end () (by repeat (first | exact ag_refl | exact ag_mask rfl ag_refl | refine ag_upd rfl ?_ | refine ag_mask rfl ?_)) trivial ⟨by rw [meshCheck, if_neg (by omega), if_neg (by omega), if_neg (by omega)], rfl⟩
       ·
        refine s_skip (yield_Fr rfl rfl) rfl ?_
        refine s_skip (yield_Fr rfl rfl) rfl ?_
        refine s_skip (yield_Fr rfl rfl) rfl ?_
        refine s_skip (yield_Fr rfl rfl) rfl ?_
        refine s_skipU (yield_U rfl rfl) ?_
        refine s_skipU (yield_U rfl rfl) ?_
        refine s_skipU (yield_U rfl rfl) ?_
        refine s_skip (yield_Fr rfl rfl) rfl ?_
        refine s_unguard (yield_Fr rfl rfl) rfl ?_
        refine s_val (r_pick (v := .bool _) rfl rfl) ?_
        refine s_val (r_pick (v := .bool _) rfl rfl) ?_
        refine s_val (r_assign (v := .bool _) rfl) ?_
        refine s_nil (e_then ?_)
        refine c_no rfl (by decide) ?_
        refine c_skip (e_blk (e_then ?_))
        exact cut_end () (by repeat (first | exact ag_refl | exact ag_mask rfl ag_refl | refine ag_upd rfl ?_ | refine ag_mask rfl ?_)) trivial ⟨by rw [meshCheck, if_neg (by omega), if_neg (by omega), if_neg (by omega)], rfl⟩
     ·
      refine s_skip (yield_Fr rfl rfl) rfl ?_
      refine s_skip (yield_Fr rfl rfl) rfl ?_
      refine s_skip (yield_Fr rfl rfl) rfl ?_
      refine s_skip (yield_Fr rfl rfl) rfl ?_
      refine s_val (r_pick (v := .bool _) rfl rfl) ?_
      refine s_val (r_move (v := .bool _) rfl) ?_
      refine s_unguard (yield_Fr rfl rfl) rfl ?_
      refine s_val (r_move (v := .int _ _) rfl) ?_
      refine s_unguard (yield_Fr rfl rfl) rfl ?_
      refine s_val (r_neq rfl rfl) ?_
      refine s_unguard (yield_Fr rfl rfl) rfl ?_
      refine s_val (r_move (v := .bool _) rfl) ?_
      refine s_splitD 28 rfl (fun g28 => ?_) (fun g28 => ?_)
      ·
       refine s_unguard (yield_Fr rfl rfl) rfl ?_
       refine s_val (r_move (v := .slice _ _ _) rfl) ?_
       refine s_unguard (yield_Fr rfl rfl) rfl ?_
       refine s_val (r_len Try.underlying59 rfl) ?_
       refine s_unguard (yield_Fr rfl rfl) rfl ?_
       refine s_val (r_eql rfl rfl) ?_
       refine s_unguard (yield_Fr rfl rfl) rfl ?_
       refine s_val (r_move (v := .bool _) rfl) ?_
       refine s_splitD 32 rfl (fun g32 => ?_) (fun g32 => ?_)
       ·
        refine s_skip (yield_Fr rfl rfl) rfl ?_
        refine s_skip (yield_Fr rfl rfl) rfl ?_
        refine s_skip (yield_Fr rfl rfl) rfl ?_
        refine s_unguard (yield_Fr rfl rfl) rfl ?_
        refine s_val (r_pick (v := .bool _) rfl rfl) ?_
        refine s_unguard (yield_Fr rfl rfl) rfl ?_
        refine s_val (r_pick (v := .bool _) rfl rfl) ?_
        refine s_val (r_pick (v := .bool _) rfl rfl) ?_
        refine s_val (r_assign (v := .bool _) rfl) ?_
        refine s_nil (e_then ?_)
        refine c_yes rfl (by decide) ?_
        refine c_seq (c_region ?_)
        have hr : meshCheck k l nv = 6 := by rw [meshCheck, if_neg (by omega), if_neg (by omega), if_pos (by omega)]
        refine s_val (r_assign (v := .int _ _) rfl) ?_
        refine s_nil (e_then (c_ret (e_blk_ret (e_then_ret ?_))))
        refine ret_run (res_1 (v := .int _ _) rfl rfl) ?_
        exact ⟨congrArg (fun n => Ending.returned (i64 n)) hr.symm, M.keep⟩
       ·
        refine s_unguard (yield_Fr rfl rfl) rfl ?_
        refine s_val (r_move (v := .slice _ _ _) rfl) ?_
        refine s_unguard (yield_Fr rfl rfl) rfl ?_
        refine s_val (r_len Try.underlying59 rfl) ?_
        refine s_unguard (yield_Fr rfl rfl) rfl ?_
        refine s_val (r_eql rfl rfl) ?_
        refine s_unguard (yield_Fr rfl rfl) rfl ?_
        refine s_val (r_pick (v := .bool _) rfl rfl) ?_
        refine s_unguard (yield_Fr rfl rfl) rfl ?_
        refine s_val (r_pick (v := .bool _) rfl rfl) ?_
        refine s_val (r_pick (v := .bool _) rfl rfl) ?_
        refine s_val (r_assign (v := .bool _) rfl) ?_
        refine s_nil (e_then ?_)
        refine c_if rfl (fun h16 => ?_) (fun h16 => ?_)
        ·
         refine c_seq (c_region ?_)
         have hr : meshCheck k l nv = 6 := by rw [meshCheck, if_neg (by omega), if_neg (by omega), if_pos (by omega)]
         refine s_val (r_assign (v := .int _ _) rfl) ?_
         refine s_nil (e_then (c_ret (e_blk_ret (e_then_ret ?_))))
         refine ret_run (res_1 (v := .int _ _) rfl rfl) ?_
         exact ⟨congrArg (fun n => Ending.returned (i64 n)) hr.symm, M.keep⟩
        ·
         refine c_skip (e_blk (e_then ?_))
         exact cut_end () (by repeat (first | exact ag_refl | exact ag_mask rfl ag_refl | refine ag_upd rfl ?_ | refine ag_mask rfl ?_)) trivial ⟨by rw [meshCheck, if_neg (by omega), if_neg (by omega), if_neg (by omega)], rfl⟩
      ·
       refine s_skip (yield_Fr rfl rfl) rfl ?_
       refine s_skip (yield_Fr rfl rfl) rfl ?_
       refine s_skip (yield_Fr rfl rfl) rfl ?_
       refine s_skip (yield_Fr rfl rfl) rfl ?_
       refine s_skipU (yield_U rfl rfl) ?_
       refine s_skipU (yield_U rfl rfl) ?_
       refine s_skipU (yield_U rfl rfl) ?_
       refine s_skip (yield_Fr rfl rfl) rfl ?_
       refine s_unguard (yield_Fr rfl rfl) rfl ?_
       refine s_val (r_pick (v := .bool _) rfl rfl) ?_
       refine s_val (r_pick (v := .bool _) rfl rfl) ?_
       refine s_val (r_assign (v := .bool _) rfl) ?_
       refine s_nil (e_then ?_)
       refine c_no rfl (by decide) ?_
       refine c_skip (e_blk (e_then ?_))
       exact cut_end () (by repeat (first | exact ag_refl | exact ag_mask rfl ag_refl | refine ag_upd rfl ?_ | refine ag_mask rfl ?_)) trivial ⟨by rw [meshCheck, if_neg (by omega), if_neg (by omega), if_neg (by omega)], rfl⟩
  rintro γ e w' ⟨hm, rfl⟩
  refine c_seq (c_seq (c_region ?_))
  refine s_val (r_move (v := .slice _ _ _) rfl) ?_
  refine s_val (r_len Try.underlying59 rfl) ?_
  refine s_val (r_move (v := .int _ _) rfl) ?_
  refine s_nil (e_then (c_block ?_))
  refine c_loopG [6, 8, 41, 42, 43, 44, 45, 46, 47, 48, 49, 50, 51, 52] (Γ := Nat) (vals := fun k => [(41, i64 k)]) (I := fun m k w => m + k = l.length ∧ firstE (fun n => if n < 0 ∨ n ≥ nv then 14 else 0) (l.drop k) = firstE (fun n => if n < 0 ∨ n ≥ nv then 14 else 0) l ∧ St [] [] w0 w [] [LsF encN 1 s l]) l.length 0 ⟨rfl, trivial⟩ ⟨rfl, rfl, M⟩ ?_
  rintro m j e w ⟨hj, hf, M⟩
  refine c_seq (c_region ?_)
  refine s_val (r_lss rfl rfl) ?_
  refine s_nil (e_then (c_seq ?_))
  refine c_if rfl (fun h42 => ?_) (fun h42 => ?_)
  ·
   obtain ⟨x, hx⟩ : ∃ x, l[j]? = some x := ⟨_, List.getElem?_eq_getElem (by omega)⟩
   obtain ⟨b1, o1, ha⟩ := (M.fact (j := 0) rfl).addr (by omega)
   rw [firstE_step hx] at hf
   refine c_skip (e_then (c_seq (c_block (c_seq (c_region ?_)))))
   refine s_val (r_indexAddrS Try.underlying59 sz3 rfl (ha) rfl (by omega) (by omega) rfl) ?_
   refine s_val (r_load1 (v := .int _ _) Try.underlying3 rfl rfl ((M.fact (j := 0) rfl).cell0 ha hx rfl)) ?_
   refine s_val (r_assign (v := .int _ _) rfl) ?_
   refine s_nil (e_then (c_seq (c_region ?_)))
   refine s_val (r_move (v := .int _ _) rfl) ?_
   refine s_val (r_lss rfl rfl) ?_
   refine s_val (r_move (v := .bool _) rfl) ?_
   refine s_splitD 47 rfl (fun g47 => ?_) (fun g47 => ?_)
   ·
    refine s_skip (yield_Fr rfl rfl) rfl ?_
    refine s_skip (yield_Fr rfl rfl) rfl ?_
    refine s_skip (yield_Fr rfl rfl) rfl ?_
    refine s_val (r_pick (v := .bool _) rfl rfl) ?_
    refine s_nil (e_then ?_)
    refine c_yes rfl (by decide) ?_
    refine c_seq (c_region ?_)
    have hr : meshCheck k l nv = 14 := by rw [hm, ← hf, if_pos (show x < 0 ∨ x ≥ nv by omega), if_pos (by decide)]
    refine s_val (r_assign (v := .int _ _) rfl) ?_
    refine s_nil (e_then (c_ret (e_blk_ret (e_then_ret (e_then_ret (e_blk_ret (e_then_ret ?_)))))))
    refine ret_run (res_1 (v := .int _ _) rfl rfl) ?_
    exact ⟨congrArg (fun n => Ending.returned (i64 n)) hr.symm, M.keep⟩
   ·
    refine s_unguard (yield_Fr rfl rfl) rfl ?_
    refine s_val (r_move (v := .int _ _) rfl) ?_
    refine s_unguard (yield_Fr rfl rfl) rfl ?_
    refine s_val (r_move (v := .int _ _) rfl) ?_
    refine s_unguard (yield_Fr rfl rfl) rfl ?_
    refine s_val (r_geq rfl rfl) ?_
    refine s_val (r_pick (v := .bool _) rfl rfl) ?_
    refine s_nil (e_then ?_)
    refine c_if rfl (fun h51 => ?_) (fun h51 => ?_)
    ·
     refine c_seq (c_region ?_)
     have hr : meshCheck k l nv = 14 := by rw [hm, ← hf, if_pos (show x < 0 ∨ x ≥ nv by omega), if_pos (by decide)]
     refine s_val (r_assign (v := .int _ _) rfl) ?_
     refine s_nil (e_then (c_ret (e_blk_ret (e_then_ret (e_then_ret (e_blk_ret (e_then_ret ?_)))))))
     refine ret_run (res_1 (v := .int _ _) rfl rfl) ?_
     exact ⟨congrArg (fun n => Ending.returned (i64 n)) hr.symm, M.keep⟩
    ·
     refine c_skip (e_blk (e_then (c_region ?_)))
     first | (refine s_val (r_add rfl rfl (w64 (by omega) (by omega))) ?_) | (refine s_val (r_add rfl rfl rfl) ?_)
     refine s_val (r_move (v := .int _ _) rfl) ?_
     refine s_nil (e_then ?_)
     rw [if_neg (show ¬ (x < 0 ∨ x ≥ nv) by omega), if_neg (by decide)] at hf
     exact loop_end (m - 1) (j + 1) (by repeat (first | exact ag_refl | exact ag_mask rfl ag_refl | refine ag_upd rfl ?_ | refine ag_mask rfl ?_)) ⟨i64succ j, trivial⟩ (by omega) ⟨by omega, hf, M⟩
  ·
   rw [firstE_done (by omega)] at hf
   refine c_exit (e_then_exit (e_then_exit (e_blk_here (e_then (c_seq (c_region ?_))))))
   have hr : meshCheck k l nv = 0 := by rw [hm, ← hf]
   refine s_val (r_assign (v := .int _ _) rfl) ?_
   refine s_nil (e_then (c_ret ?_))
   refine ret_run (res_1 (v := .int _ _) rfl rfl) ?_
   exact ⟨congrArg (fun n => Ending.returned (i64 n)) hr.symm, M.keep⟩
theorem drwCheckOf (x : SV) (s : Sl) (d : Drw) (hv : x.vs.length ≤ 1000000) (hs : x.ss.length ≤ 1000000) (hp : x.ps.length ≤ 1000000) (w0 : World) (h : LsF encN 1 s d.indices w0) :
    Calls Try.prog 47 #[.agg x.cells.toArray, .agg (drw s d).toArray] w0 fun e w' => e = .returned (i64 (drwCheck x.vs.length x.ss.length x.ps.length d)) ∧ Keep [] w0 w' := by
  have M := St.begin w0 LsF.nice h
  refine calls_of 62 Try.func47 rfl rfl rfl ?_
  refine c_seq (c_region ?_)
  refine a_box (v := .agg _) rfl cells_agg M ?_
  intro b2 w M
  first | replace M := M.nf (L' := [[(_, _)]]) rfl | skip
  refine a_box (v := .agg _) rfl cells_agg M ?_
  intro b3 w M
  first | replace M := M.nf (L' := [[(_, _)], [(_, _)]]) rfl | skip
  refine s_val (r_assign (v := .int _ _) rfl) ?_
  refine s_nil (e_then (c_seq (c_seq (c_region ?_))))
  refine s_val (r_fieldAddr (o' := 0) fb61_0 (by decide) rfl rfl) ?_
  refine a_loadN (vs := [_, _, _, _, _, _, _, _, _, _, _, _, _, _, _]) Try.underlying54 rfl sz54 M rfl (k := 1) (j := 0) rfl rfl rfl rfl ?_
  refine s_callP (cl61 rfl) (sttCheckOf d.st _) M ?_
  intro w M
  refine s_val (r_assign (v := .int _ _) rfl) ?_
  refine s_nil (e_then (c_seq (c_region ?_)))
  refine s_val (r_move (v := .int _ _) rfl) ?_
  refine s_val (r_neq rfl rfl) ?_
  refine s_nil (e_then ?_)
  refine c_if rfl (fun h10 => ?_) (fun h10 => ?_)
  ·
   have hr : drwCheck x.vs.length x.ss.length x.ps.length d = sttCheck d.st := if_pos h10
   refine c_seq (c_region ?_)
   refine s_val (r_move (v := .int _ _) rfl) ?_
   refine s_val (r_assign (v := .int _ _) rfl) ?_
   refine s_nil (e_then (c_ret (e_then_ret ?_)))
   refine ret_run (res_1 (v := .int _ _) rfl rfl) ?_
   exact ⟨congrArg (fun n => Ending.returned (i64 n)) hr.symm, M.keep⟩
  ·
   have hd : ∀ {r : Int}, (if d.clears = true then (if d.cdepth < 0 ∨ d.cdepth > 65535 ∨ d.wanted > 7 then 2 else 0) else if d.vertex < 0 ∨ d.vertex ≥ x.ss.length ∨ d.fragment < 0 ∨ d.fragment ≥ x.ps.length then 9 else meshCheck d.kind d.indices x.vs.length) = r → drwCheck x.vs.length x.ss.length x.ps.length d = r := fun h => by rw [drwCheck, if_neg h10, h]
   refine c_skip (e_then (c_seq (c_seq (c_region ?_))))
   refine s_val (r_fieldAddr (o' := 15) fb61_1 (by decide) rfl rfl) ?_
   refine a_load1 (v := .bool _) Try.underlying4 rfl M rfl (k := 1) (j := 0) rfl rfl rfl ?_
   refine s_nil (e_then ?_)
   refine c_cond rfl (fun h13 => ?_) (fun h13 => ?_)
   ·
    refine c_seq (c_seq (c_region ?_))
    refine s_val (r_fieldAddr (o' := 16) fb61_2 (by decide) rfl rfl) ?_
    refine s_val (r_fieldAddr (o' := 20) fb57_1 (by decide) rfl rfl) ?_
    refine a_load1 (v := .int _ _) Try.underlying3 rfl M rfl (k := 1) (j := 0) rfl rfl rfl ?_
    refine s_val (r_lss rfl rfl) ?_
    refine s_val (r_move (v := .bool _) rfl) ?_
    refine s_splitD 18 rfl (fun g18 => ?_) (fun g18 => ?_)
    ·
     refine s_skip (yield_Fr rfl rfl) rfl ?_
     refine s_skip (yield_Fr rfl rfl) rfl ?_
     refine s_skip (yield_Fr rfl rfl) rfl ?_
     refine s_skip (yield_Fr rfl rfl) rfl ?_
     refine s_val (r_pick (v := .bool _) rfl rfl) ?_
     refine s_val (r_move (v := .bool _) rfl) ?_
     refine s_skip (yield_Fr rfl rfl) rfl ?_
     refine s_skip (yield_Fr rfl rfl) rfl ?_
     refine s_skip (yield_Fr rfl rfl) rfl ?_
     refine s_skip (yield_Fr rfl rfl) rfl ?_
     refine s_val (r_pick (v := .bool _) rfl rfl) ?_
     refine s_nil (e_then ?_)
     refine c_yes rfl (by decide) ?_
     refine c_seq (c_region ?_)
     have hr := hd (by rw [if_pos h13, if_pos (by omega)])
     refine s_val (r_assign (v := .int _ _) rfl) ?_
     refine s_nil (e_then (c_ret (e_then_ret (e_then_ret ?_))))
     refine ret_run (res_1 (v := .int _ _) rfl rfl) ?_
     exact ⟨congrArg (fun n => Ending.returned (i64 n)) hr.symm, M.keep⟩
    ·
     refine s_unguard (yield_Fr rfl rfl) rfl ?_
     refine s_val (r_fieldAddr (o' := 16) fb61_2 (by decide) rfl rfl) ?_
     refine s_unguard (yield_Fr rfl rfl) rfl ?_
     refine s_val (r_fieldAddr (o' := 20) fb57_1 (by decide) rfl rfl) ?_
     refine s_unguard (yield_Fr rfl rfl) rfl ?_
     refine a_load1 (v := .int _ _) Try.underlying3 rfl M rfl (k := 1) (j := 0) rfl rfl rfl ?_
     refine s_unguard (yield_Fr rfl rfl) rfl ?_
     refine s_val (r_gtr rfl rfl) ?_
     refine s_val (r_pick (v := .bool _) rfl rfl) ?_
     refine s_val (r_move (v := .bool _) rfl) ?_
     refine s_splitD 24 rfl (fun g24 => ?_) (fun g24 => ?_)
     ·
      refine s_skip (yield_Fr rfl rfl) rfl ?_
      refine s_skip (yield_Fr rfl rfl) rfl ?_
      refine s_skip (yield_Fr rfl rfl) rfl ?_
      refine s_skip (yield_Fr rfl rfl) rfl ?_
      refine s_val (r_pick (v := .bool _) rfl rfl) ?_
      refine s_nil (e_then ?_)
      refine c_yes rfl (by decide) ?_
      refine c_seq (c_region ?_)
      have hr := hd (by rw [if_pos h13, if_pos (by omega)])
      refine s_val (r_assign (v := .int _ _) rfl) ?_
      refine s_nil (e_then (c_ret (e_then_ret (e_then_ret ?_))))
      refine ret_run (res_1 (v := .int _ _) rfl rfl) ?_
      exact ⟨congrArg (fun n => Ending.returned (i64 n)) hr.symm, M.keep⟩
     ·
      refine s_unguard (yield_Fr rfl rfl) rfl ?_
      refine s_val (r_fieldAddr (o' := 16) fb61_2 (by decide) rfl rfl) ?_
      refine s_unguard (yield_Fr rfl rfl) rfl ?_
      refine s_val (r_fieldAddr (o' := 22) fb57_3 (by decide) rfl rfl) ?_
      refine s_unguard (yield_Fr rfl rfl) rfl ?_
      refine a_load1 (v := .int _ _) Try.underlying5 rfl M rfl (k := 1) (j := 0) rfl rfl rfl ?_
      refine s_unguard (yield_Fr rfl rfl) rfl ?_
      refine s_val (r_gtr rfl rfl) ?_
      refine s_val (r_pick (v := .bool _) rfl rfl) ?_
      refine s_nil (e_then ?_)
      refine c_if rfl (fun h29 => ?_) (fun h29 => ?_)
      ·
       refine c_seq (c_region ?_)
       have hr := hd (by rw [if_pos h13, if_pos (by omega)])
       refine s_val (r_assign (v := .int _ _) rfl) ?_
       refine s_nil (e_then (c_ret (e_then_ret (e_then_ret ?_))))
       refine ret_run (res_1 (v := .int _ _) rfl rfl) ?_
       exact ⟨congrArg (fun n => Ending.returned (i64 n)) hr.symm, M.keep⟩
      ·
       refine c_skip (e_then (c_seq (c_region ?_)))
       have hr := hd (by rw [if_pos h13, if_neg (by omega)])
       refine s_val (r_assign (v := .int _ _) rfl) ?_
       refine s_nil (e_then (c_ret (e_then_ret ?_)))
       refine ret_run (res_1 (v := .int _ _) rfl rfl) ?_
       exact ⟨congrArg (fun n => Ending.returned (i64 n)) hr.symm, M.keep⟩
   ·
    refine c_skip (e_then (c_seq (c_seq (c_region ?_))))
    refine s_val (r_fieldAddr (o' := 23) fb61_3 (by decide) rfl rfl) ?_
    refine a_load1 (v := .int _ _) Try.underlying3 rfl M rfl (k := 1) (j := 0) rfl rfl rfl ?_
    refine s_val (r_lss rfl rfl) ?_
    refine s_val (r_move (v := .bool _) rfl) ?_
    refine s_splitD 33 rfl (fun g33 => ?_) (fun g33 => ?_)
    ·
     refine s_skip (yield_Fr rfl rfl) rfl ?_
     refine s_skip (yield_Fr rfl rfl) rfl ?_
     refine s_skip (yield_Fr rfl rfl) rfl ?_
     refine s_skip (yield_Fr rfl rfl) rfl ?_
     refine s_skip (yield_Fr rfl rfl) rfl ?_
     refine s_skip (yield_Fr rfl rfl) rfl ?_
     refine s_val (r_pick (v := .bool _) rfl rfl) ?_
     refine s_val (r_move (v := .bool _) rfl) ?_
     refine s_skip (yield_Fr rfl rfl) rfl ?_
     refine s_skip (yield_Fr rfl rfl) rfl ?_
     refine s_skip (yield_Fr rfl rfl) rfl ?_
     refine s_val (r_pick (v := .bool _) rfl rfl) ?_
     refine s_val (r_move (v := .bool _) rfl) ?_
     refine s_skip (yield_Fr rfl rfl) rfl ?_
     refine s_skip (yield_Fr rfl rfl) rfl ?_
     refine s_skip (yield_Fr rfl rfl) rfl ?_
     refine s_skip (yield_Fr rfl rfl) rfl ?_
     refine s_skip (yield_Fr rfl rfl) rfl ?_
     refine s_skip (yield_Fr rfl rfl) rfl ?_
     refine s_val (r_pick (v := .bool _) rfl rfl) ?_
     refine s_nil (e_then ?_)
     refine c_yes rfl (by decide) ?_
     refine c_seq (c_region ?_)
     have hr := hd (by rw [if_neg (by rw [h13]; decide), if_pos (by omega)])
     refine s_val (r_assign (v := .int _ _) rfl) ?_
     refine s_nil (e_then (c_ret (e_then_ret ?_)))
     refine ret_run (res_1 (v := .int _ _) rfl rfl) ?_
     exact ⟨congrArg (fun n => Ending.returned (i64 n)) hr.symm, M.keep⟩
    ·
     refine s_unguard (yield_Fr rfl rfl) rfl ?_
     refine s_val (r_fieldAddr (o' := 23) fb61_3 (by decide) rfl rfl) ?_
     refine s_unguard (yield_Fr rfl rfl) rfl ?_
     refine a_load1 (v := .int _ _) Try.underlying3 rfl M rfl (k := 1) (j := 0) rfl rfl rfl ?_
     refine s_unguard (yield_Fr rfl rfl) rfl ?_
     refine s_val (r_fieldAddr (o' := 19) fb38_4 (by decide) rfl rfl) ?_
     refine s_unguard (yield_Fr rfl rfl) rfl ?_
     refine a_load1 (v := .slice _ _ _) Try.underlying35 rfl M rfl (k := 0) (j := 0) rfl rfl rfl ?_
     refine s_unguard (yield_Fr rfl rfl) rfl ?_
     refine s_val (r_len Try.underlying35 rfl) ?_
     refine s_unguard (yield_Fr rfl rfl) rfl ?_
     refine s_val (r_geq rfl rfl) ?_
     refine s_val (r_pick (v := .bool _) rfl rfl) ?_
     refine s_val (r_move (v := .bool _) rfl) ?_
     refine s_splitD 41 rfl (fun g41 => ?_) (fun g41 => ?_)
     ·
      refine s_skip (yield_Fr rfl rfl) rfl ?_
      refine s_skip (yield_Fr rfl rfl) rfl ?_
      refine s_skip (yield_Fr rfl rfl) rfl ?_
      refine s_val (r_pick (v := .bool _) rfl rfl) ?_
      refine s_val (r_move (v := .bool _) rfl) ?_
      refine s_skip (yield_Fr rfl rfl) rfl ?_
      refine s_skip (yield_Fr rfl rfl) rfl ?_
      refine s_skip (yield_Fr rfl rfl) rfl ?_
      refine s_skip (yield_Fr rfl rfl) rfl ?_
      refine s_skip (yield_Fr rfl rfl) rfl ?_
      refine s_skip (yield_Fr rfl rfl) rfl ?_
      refine s_val (r_pick (v := .bool _) rfl rfl) ?_
      refine s_nil (e_then ?_)
      refine c_yes rfl (by decide) ?_
      refine c_seq (c_region ?_)
      have hr := hd (by rw [if_neg (by rw [h13]; decide), if_pos (by omega)])
      refine s_val (r_assign (v := .int _ _) rfl) ?_
      refine s_nil (e_then (c_ret (e_then_ret ?_)))
      refine ret_run (res_1 (v := .int _ _) rfl rfl) ?_
      exact ⟨congrArg (fun n => Ending.returned (i64 n)) hr.symm, M.keep⟩
     ·
      refine s_unguard (yield_Fr rfl rfl) rfl ?_
      refine s_val (r_fieldAddr (o' := 24) fb61_4 (by decide) rfl rfl) ?_
      refine s_unguard (yield_Fr rfl rfl) rfl ?_
      refine a_load1 (v := .int _ _) Try.underlying3 rfl M rfl (k := 1) (j := 0) rfl rfl rfl ?_
      refine s_unguard (yield_Fr rfl rfl) rfl ?_
      refine s_val (r_lss rfl rfl) ?_
      refine s_val (r_pick (v := .bool _) rfl rfl) ?_
      refine s_val (r_move (v := .bool _) rfl) ?_
      refine s_splitD 46 rfl (fun g46 => ?_) (fun g46 => ?_)
      ·
       refine s_skip (yield_Fr rfl rfl) rfl ?_
       refine s_skip (yield_Fr rfl rfl) rfl ?_
       refine s_skip (yield_Fr rfl rfl) rfl ?_
       refine s_skip (yield_Fr rfl rfl) rfl ?_
       refine s_skip (yield_Fr rfl rfl) rfl ?_
       refine s_skip (yield_Fr rfl rfl) rfl ?_
       refine s_val (r_pick (v := .bool _) rfl rfl) ?_
       refine s_nil (e_then ?_)
       refine c_yes rfl (by decide) ?_
       refine c_seq (c_region ?_)
       have hr := hd (by rw [if_neg (by rw [h13]; decide), if_pos (by omega)])
       refine s_val (r_assign (v := .int _ _) rfl) ?_
       refine s_nil (e_then (c_ret (e_then_ret ?_)))
       refine ret_run (res_1 (v := .int _ _) rfl rfl) ?_
       exact ⟨congrArg (fun n => Ending.returned (i64 n)) hr.symm, M.keep⟩
      ·
       refine s_unguard (yield_Fr rfl rfl) rfl ?_
       refine s_val (r_fieldAddr (o' := 24) fb61_4 (by decide) rfl rfl) ?_
       refine s_unguard (yield_Fr rfl rfl) rfl ?_
       refine a_load1 (v := .int _ _) Try.underlying3 rfl M rfl (k := 1) (j := 0) rfl rfl rfl ?_
       refine s_unguard (yield_Fr rfl rfl) rfl ?_
       refine s_val (r_fieldAddr (o' := 20) fb38_5 (by decide) rfl rfl) ?_
       refine s_unguard (yield_Fr rfl rfl) rfl ?_
       refine a_load1 (v := .slice _ _ _) Try.underlying35 rfl M rfl (k := 0) (j := 0) rfl rfl rfl ?_
       refine s_unguard (yield_Fr rfl rfl) rfl ?_
       refine s_val (r_len Try.underlying35 rfl) ?_
       refine s_unguard (yield_Fr rfl rfl) rfl ?_
       refine s_val (r_geq rfl rfl) ?_
       refine s_val (r_pick (v := .bool _) rfl rfl) ?_
       refine s_nil (e_then ?_)
       refine c_if rfl (fun h53 => ?_) (fun h53 => ?_)
       ·
        refine c_seq (c_region ?_)
        have hr := hd (by rw [if_neg (by rw [h13]; decide), if_pos (by omega)])
        refine s_val (r_assign (v := .int _ _) rfl) ?_
        refine s_nil (e_then (c_ret (e_then_ret ?_)))
        refine ret_run (res_1 (v := .int _ _) rfl rfl) ?_
        exact ⟨congrArg (fun n => Ending.returned (i64 n)) hr.symm, M.keep⟩
       ·
        refine c_skip (e_then (c_seq (c_region ?_)))
        have hr := hd (by rw [if_neg (by rw [h13]; decide), if_neg (by omega)])
        refine s_val (r_fieldAddr (o' := 25) fb61_5 (by decide) rfl rfl) ?_
        refine a_load1 (v := .int _ _) Try.underlying58 rfl M rfl (k := 1) (j := 0) rfl rfl rfl ?_
        refine s_val (r_fieldAddr (o' := 26) fb61_6 (by decide) rfl rfl) ?_
        refine a_load1 (v := .slice _ _ _) Try.underlying59 rfl M rfl (k := 1) (j := 0) rfl rfl rfl ?_
        refine s_val (r_fieldAddr (o' := 18) fb38_3 (by decide) rfl rfl) ?_
        refine a_load1 (v := .slice _ _ _) Try.underlying34 rfl M rfl (k := 0) (j := 0) rfl rfl rfl ?_
        refine s_val (r_len Try.underlying34 rfl) ?_
        refine s_callP (cl62 rfl) (meshCheckOf d.kind s d.indices _ rfl _ _ (M.fact (j := 0) rfl)) M ?_
        intro w M
        refine s_val (r_assign (v := .int _ _) rfl) ?_
        refine s_nil (e_then (c_ret ?_))
        refine ret_run (res_1 (v := .int _ _) rfl rfl) ?_
        exact ⟨congrArg (fun n => Ending.returned (i64 n)) hr.symm, M.keep⟩
theorem orE_ne {a b : Int} (h : a ≠ 0) : orE a b = a := if_pos h
theorem orE_0 {b : Int} : orE 0 b = b := rfl
theorem v4_inj {a b : V4} (h : v4 a = v4 b) : a = b := by
  cases a; cases b; simp at h; simp [h]
theorem eqv_v4 {a b : V4} : eqv (v4 a) (v4 b) = decide (a = b) := by
  by_cases h : a = b
  · subst h; rw [eqv_true.2 rfl]; simp
  · rw [eqv_false.2 (fun e => h (v4_inj e))]; simp [h]
structure ScrWf (x : SV) : Prop where
  ss : ∀ p ∈ x.ss, Prog.wf p.2
  ps : ∀ p ∈ x.ps, Prog.wf p.2

theorem scrCheckOf (x : SV) (hx : ScrWf x) (w0 : World) (h : SVF x w0) :
    Calls Try.prog 27 #[.agg x.cells.toArray] w0 fun e w' => e = .returned (i64 (scrCheck x.scr)) ∧ Keep [] w0 w' := by
  have M := St.begin w0 SVF.nice h
  have e1 : x.scr.ss.length = x.ss.length := by simp [SV.scr]
  have e2 : x.scr.ps.length = x.ps.length := by simp [SV.scr]
  have e3 : x.scr.ds.length = x.ds.length := by simp [SV.scr]
  have e4 : x.scr.vs = x.vs := rfl
  have e5 : x.scr.w = x.w := rfl
  have e6 : x.scr.h = x.h := rfl
  refine calls_of 130 Try.func27 rfl rfl rfl ?_
  refine c_seq (c_region ?_)
  refine a_box (v := .agg _) rfl cells_agg M ?_
  intro b1 w M
  first | replace M := M.nf (L' := [[(_, _)]]) rfl | skip
  refine s_val (r_assign (v := .int _ _) rfl) ?_
  refine s_nil (e_then ?_)
  refine c_cutG (Γ := Unit) [2, 16, 17, 18, 19, 20, 21, 22, 23, 24, 25, 26, 27, 28, 29, 30, 31, 32, 33, 34, 35, 36, 37, 38, 39, 40, 41, 42, 43, 44, 45, 46, 47, 48, 49, 50, 51, 52, 53, 54, 55, 56, 57] (fun _ => []) (fun _ w' => (scrCheck x.scr = orE (firstE rowCheck [x.m0, x.m1, x.m2, x.m3]) (orE (firstE vtxCheck x.vs) (orE (firstE (progCheck · false) (x.ss.map (·.2))) (orE (firstE (progCheck · true) (x.ps.map (·.2))) (firstE (drwCheck x.vs.length x.ss.length x.ps.length) (x.ds.map (·.2)))))) ∧ x.vs.length ≤ 64 ∧ x.ss.length ≤ 4 ∧ x.ps.length ≤ 4 ∧ x.ds.length ≤ 32) ∧ w' = w) ?_ ?_
  ·
   refine c_block (c_seq (c_region ?_))
   refine s_val (r_fieldAddr (o' := 0) fb38_0 (by decide) rfl rfl) ?_
   refine a_load1 (v := .int _ _) Try.underlying3 rfl M rfl (k := 0) (j := 0) rfl rfl rfl ?_
   refine s_val (r_lss rfl rfl) ?_
   refine s_val (r_move (v := .bool _) rfl) ?_
   refine s_splitD 20 rfl (fun g20 => ?_) (fun g20 => ?_)
   ·
    refine s_skip (yield_Fr rfl rfl) rfl ?_
    refine s_skip (yield_Fr rfl rfl) rfl ?_
    refine s_skip (yield_Fr rfl rfl) rfl ?_
    refine s_val (r_pick (v := .bool _) rfl rfl) ?_
    refine s_val (r_move (v := .bool _) rfl) ?_
    refine s_skip (yield_Fr rfl rfl) rfl ?_
    refine s_skip (yield_Fr rfl rfl) rfl ?_
    refine s_skip (yield_Fr rfl rfl) rfl ?_
    refine s_val (r_pick (v := .bool _) rfl rfl) ?_
    refine s_val (r_move (v := .bool _) rfl) ?_
    refine s_skip (yield_Fr rfl rfl) rfl ?_
    refine s_skip (yield_Fr rfl rfl) rfl ?_
    refine s_skip (yield_Fr rfl rfl) rfl ?_
    refine s_val (r_pick (v := .bool _) rfl rfl) ?_
    refine s_val (r_assign (v := .bool _) rfl) ?_
    refine s_nil (e_then ?_)
    refine c_yes rfl (by decide) ?_
    refine c_seq (c_region ?_)
    have hr : scrCheck x.scr = 6 := if_pos (by omega)
    refine s_val (r_assign (v := .int _ _) rfl) ?_
    refine s_nil (e_then (c_ret (e_blk_ret (e_then_ret ?_))))
    refine ret_run (res_1 (v := .int _ _) rfl rfl) ?_
    exact ⟨congrArg (fun n => Ending.returned (i64 n)) hr.symm, M.keep⟩
   ·
    refine s_unguard (yield_Fr rfl rfl) rfl ?_
    refine s_val (r_fieldAddr (o' := 0) fb38_0 (by decide) rfl rfl) ?_
    refine s_unguard (yield_Fr rfl rfl) rfl ?_
    refine a_load1 (v := .int _ _) Try.underlying3 rfl M rfl (k := 0) (j := 0) rfl rfl rfl ?_
    refine s_unguard (yield_Fr rfl rfl) rfl ?_
    refine s_val (r_gtr rfl rfl) ?_
    refine s_val (r_pick (v := .bool _) rfl rfl) ?_
    refine s_val (r_move (v := .bool _) rfl) ?_
    refine s_splitD 25 rfl (fun g25 => ?_) (fun g25 => ?_)
    ·
     refine s_skip (yield_Fr rfl rfl) rfl ?_
     refine s_skip (yield_Fr rfl rfl) rfl ?_
     refine s_skip (yield_Fr rfl rfl) rfl ?_
     refine s_val (r_pick (v := .bool _) rfl rfl) ?_
     refine s_val (r_move (v := .bool _) rfl) ?_
     refine s_skip (yield_Fr rfl rfl) rfl ?_
     refine s_skip (yield_Fr rfl rfl) rfl ?_
     refine s_skip (yield_Fr rfl rfl) rfl ?_
     refine s_val (r_pick (v := .bool _) rfl rfl) ?_
     refine s_val (r_assign (v := .bool _) rfl) ?_
     refine s_nil (e_then ?_)
     refine c_yes rfl (by decide) ?_
     refine c_seq (c_region ?_)
     have hr : scrCheck x.scr = 6 := if_pos (by omega)
     refine s_val (r_assign (v := .int _ _) rfl) ?_
     refine s_nil (e_then (c_ret (e_blk_ret (e_then_ret ?_))))
     refine ret_run (res_1 (v := .int _ _) rfl rfl) ?_
     exact ⟨congrArg (fun n => Ending.returned (i64 n)) hr.symm, M.keep⟩
    ·
     refine s_unguard (yield_Fr rfl rfl) rfl ?_
     refine s_val (r_fieldAddr (o' := 1) fb38_1 (by decide) rfl rfl) ?_
     refine s_unguard (yield_Fr rfl rfl) rfl ?_
     refine a_load1 (v := .int _ _) Try.underlying3 rfl M rfl (k := 0) (j := 0) rfl rfl rfl ?_
     refine s_unguard (yield_Fr rfl rfl) rfl ?_
     refine s_val (r_lss rfl rfl) ?_
     refine s_val (r_pick (v := .bool _) rfl rfl) ?_
     refine s_val (r_move (v := .bool _) rfl) ?_
     refine s_splitD 30 rfl (fun g30 => ?_) (fun g30 => ?_)
     ·
      refine s_skip (yield_Fr rfl rfl) rfl ?_
      refine s_skip (yield_Fr rfl rfl) rfl ?_
      refine s_skip (yield_Fr rfl rfl) rfl ?_
      refine s_val (r_pick (v := .bool _) rfl rfl) ?_
      refine s_val (r_assign (v := .bool _) rfl) ?_
      refine s_nil (e_then ?_)
      refine c_yes rfl (by decide) ?_
      refine c_seq (c_region ?_)
      have hr : scrCheck x.scr = 6 := if_pos (by omega)
      refine s_val (r_assign (v := .int _ _) rfl) ?_
      refine s_nil (e_then (c_ret (e_blk_ret (e_then_ret ?_))))
      refine ret_run (res_1 (v := .int _ _) rfl rfl) ?_
      exact ⟨congrArg (fun n => Ending.returned (i64 n)) hr.symm, M.keep⟩
     ·
      refine s_unguard (yield_Fr rfl rfl) rfl ?_
      refine s_val (r_fieldAddr (o' := 1) fb38_1 (by decide) rfl rfl) ?_
      refine s_unguard (yield_Fr rfl rfl) rfl ?_
      refine a_load1 (v := .int _ _) Try.underlying3 rfl M rfl (k := 0) (j := 0) rfl rfl rfl ?_
      refine s_unguard (yield_Fr rfl rfl) rfl ?_
      refine s_val (r_gtr rfl rfl) ?_
      refine s_val (r_pick (v := .bool _) rfl rfl) ?_
      refine s_val (r_assign (v := .bool _) rfl) ?_
      refine s_nil (e_then ?_)
      refine c_if rfl (fun h16 => ?_) (fun h16 => ?_)
      ·
       refine c_seq (c_region ?_)
       have hr : scrCheck x.scr = 6 := if_pos (by omega)
       refine s_val (r_assign (v := .int _ _) rfl) ?_
       refine s_nil (e_then (c_ret (e_blk_ret (e_then_ret ?_))))
       refine ret_run (res_1 (v := .int _ _) rfl rfl) ?_
       exact ⟨congrArg (fun n => Ending.returned (i64 n)) hr.symm, M.keep⟩
      ·
       refine c_seq (c_region ?_)
       refine s_val (r_fieldAddr (o' := 18) fb38_3 (by decide) rfl rfl) ?_
       refine a_load1 (v := .slice _ _ _) Try.underlying34 rfl M rfl (k := 0) (j := 0) rfl rfl rfl ?_
       refine s_val (r_len Try.underlying34 rfl) ?_
       refine s_val (r_gtr rfl rfl) ?_
       refine s_val (r_move (v := .bool _) rfl) ?_
       refine s_splitD 40 rfl (fun g40 => ?_) (fun g40 => ?_)
       ·
        refine s_skip (yield_Fr rfl rfl) rfl ?_
        refine s_skip (yield_Fr rfl rfl) rfl ?_
        refine s_skip (yield_Fr rfl rfl) rfl ?_
        refine s_skip (yield_Fr rfl rfl) rfl ?_
        refine s_val (r_pick (v := .bool _) rfl rfl) ?_
        refine s_val (r_move (v := .bool _) rfl) ?_
        refine s_skip (yield_Fr rfl rfl) rfl ?_
        refine s_skip (yield_Fr rfl rfl) rfl ?_
        refine s_skip (yield_Fr rfl rfl) rfl ?_
        refine s_skip (yield_Fr rfl rfl) rfl ?_
        refine s_val (r_pick (v := .bool _) rfl rfl) ?_
        refine s_val (r_move (v := .bool _) rfl) ?_
        refine s_skip (yield_Fr rfl rfl) rfl ?_
        refine s_skip (yield_Fr rfl rfl) rfl ?_
        refine s_skip (yield_Fr rfl rfl) rfl ?_
        refine s_skip (yield_Fr rfl rfl) rfl ?_
        refine s_val (r_pick (v := .bool _) rfl rfl) ?_
        refine s_val (r_assign (v := .bool _) rfl) ?_
        refine s_nil (e_then ?_)
        refine c_yes rfl (by decide) ?_
        refine c_seq (c_region ?_)
        have hr : scrCheck x.scr = 7 := by rw [scrCheck, if_neg (by omega), if_pos (by rw [e4]; omega)]
        refine s_val (r_assign (v := .int _ _) rfl) ?_
        refine s_nil (e_then (c_ret (e_blk_ret (e_then_ret ?_))))
        refine ret_run (res_1 (v := .int _ _) rfl rfl) ?_
        exact ⟨congrArg (fun n => Ending.returned (i64 n)) hr.symm, M.keep⟩
       ·
        refine s_unguard (yield_Fr rfl rfl) rfl ?_
        refine s_val (r_fieldAddr (o' := 19) fb38_4 (by decide) rfl rfl) ?_
        refine s_unguard (yield_Fr rfl rfl) rfl ?_
        refine a_load1 (v := .slice _ _ _) Try.underlying35 rfl M rfl (k := 0) (j := 0) rfl rfl rfl ?_
        refine s_unguard (yield_Fr rfl rfl) rfl ?_
        refine s_val (r_len Try.underlying35 rfl) ?_
        refine s_unguard (yield_Fr rfl rfl) rfl ?_
        refine s_val (r_gtr rfl rfl) ?_
        refine s_val (r_pick (v := .bool _) rfl rfl) ?_
        refine s_val (r_move (v := .bool _) rfl) ?_
        refine s_splitD 46 rfl (fun g46 => ?_) (fun g46 => ?_)
        ·
         refine s_skip (yield_Fr rfl rfl) rfl ?_
         refine s_skip (yield_Fr rfl rfl) rfl ?_
         refine s_skip (yield_Fr rfl rfl) rfl ?_
         refine s_skip (yield_Fr rfl rfl) rfl ?_
         refine s_val (r_pick (v := .bool _) rfl rfl) ?_
         refine s_val (r_move (v := .bool _) rfl) ?_
         refine s_skip (yield_Fr rfl rfl) rfl ?_
         refine s_skip (yield_Fr rfl rfl) rfl ?_
         refine s_skip (yield_Fr rfl rfl) rfl ?_
         refine s_skip (yield_Fr rfl rfl) rfl ?_
         refine s_val (r_pick (v := .bool _) rfl rfl) ?_
         refine s_val (r_assign (v := .bool _) rfl) ?_
         refine s_nil (e_then ?_)
         refine c_yes rfl (by decide) ?_
         refine c_seq (c_region ?_)
         have hr : scrCheck x.scr = 7 := by rw [scrCheck, if_neg (by omega), if_pos (by rw [e4]; omega)]
         refine s_val (r_assign (v := .int _ _) rfl) ?_
         refine s_nil (e_then (c_ret (e_blk_ret (e_then_ret ?_))))
         refine ret_run (res_1 (v := .int _ _) rfl rfl) ?_
         exact ⟨congrArg (fun n => Ending.returned (i64 n)) hr.symm, M.keep⟩
        ·
         refine s_unguard (yield_Fr rfl rfl) rfl ?_
         refine s_val (r_fieldAddr (o' := 20) fb38_5 (by decide) rfl rfl) ?_
         refine s_unguard (yield_Fr rfl rfl) rfl ?_
         refine a_load1 (v := .slice _ _ _) Try.underlying35 rfl M rfl (k := 0) (j := 0) rfl rfl rfl ?_
         refine s_unguard (yield_Fr rfl rfl) rfl ?_
         refine s_val (r_len Try.underlying35 rfl) ?_
         refine s_unguard (yield_Fr rfl rfl) rfl ?_
         refine s_val (r_gtr rfl rfl) ?_
         refine s_val (r_pick (v := .bool _) rfl rfl) ?_
         refine s_val (r_move (v := .bool _) rfl) ?_
         refine s_splitD 52 rfl (fun g52 => ?_) (fun g52 => ?_)
         ·
          refine s_skip (yield_Fr rfl rfl) rfl ?_
          refine s_skip (yield_Fr rfl rfl) rfl ?_
          refine s_skip (yield_Fr rfl rfl) rfl ?_
          refine s_skip (yield_Fr rfl rfl) rfl ?_
          refine s_val (r_pick (v := .bool _) rfl rfl) ?_
          refine s_val (r_assign (v := .bool _) rfl) ?_
          refine s_nil (e_then ?_)
          refine c_yes rfl (by decide) ?_
          refine c_seq (c_region ?_)
          have hr : scrCheck x.scr = 7 := by rw [scrCheck, if_neg (by omega), if_pos (by rw [e4]; omega)]
          refine s_val (r_assign (v := .int _ _) rfl) ?_
          refine s_nil (e_then (c_ret (e_blk_ret (e_then_ret ?_))))
          refine ret_run (res_1 (v := .int _ _) rfl rfl) ?_
          exact ⟨congrArg (fun n => Ending.returned (i64 n)) hr.symm, M.keep⟩
         ·
          refine s_unguard (yield_Fr rfl rfl) rfl ?_
          refine s_val (r_fieldAddr (o' := 21) fb38_6 (by decide) rfl rfl) ?_
          refine s_unguard (yield_Fr rfl rfl) rfl ?_
          refine a_load1 (v := .slice _ _ _) Try.underlying36 rfl M rfl (k := 0) (j := 0) rfl rfl rfl ?_
          refine s_unguard (yield_Fr rfl rfl) rfl ?_
          refine s_val (r_len Try.underlying36 rfl) ?_
          refine s_unguard (yield_Fr rfl rfl) rfl ?_
          refine s_val (r_gtr rfl rfl) ?_
          refine s_val (r_pick (v := .bool _) rfl rfl) ?_
          refine s_val (r_assign (v := .bool _) rfl) ?_
          refine s_nil (e_then ?_)
          refine c_if rfl (fun h35 => ?_) (fun h35 => ?_)
          ·
           refine c_seq (c_region ?_)
           have hr : scrCheck x.scr = 7 := by rw [scrCheck, if_neg (by omega), if_pos (by rw [e4]; omega)]
           refine s_val (r_assign (v := .int _ _) rfl) ?_
           refine s_nil (e_then (c_ret (e_blk_ret (e_then_ret ?_))))
           refine ret_run (res_1 (v := .int _ _) rfl rfl) ?_
           exact ⟨congrArg (fun n => Ending.returned (i64 n)) hr.symm, M.keep⟩
          ·
           refine c_skip (e_blk (e_then ?_))
           exact cut_end () (by repeat (first | exact ag_refl | exact ag_mask rfl ag_refl | refine ag_upd rfl ?_ | refine ag_mask rfl ?_)) trivial ⟨⟨by rw [scrCheck, if_neg (by omega), if_neg (by rw [e4]; omega), e1, e2]; rfl, by omega⟩, rfl⟩
  rintro γ e w' ⟨⟨hS, l1, l2, l3, l4⟩, rfl⟩
  refine c_seq (c_seq (c_region ?_))
  refine s_val (r_fieldAddr (o' := 2) fb38_2 (by decide) rfl rfl) ?_
  refine a_loadN (vs := [_, _, _, _, _, _, _, _, _, _, _, _, _, _, _, _]) Try.underlying33 rfl sz33 M rfl (k := 0) (j := 0) rfl rfl rfl rfl ?_
  refine s_val (r_move (v := .int _ _) rfl) ?_
  refine s_nil (e_then (c_block ?_))
  refine c_loopG [2, 4, 60, 61, 62, 63, 64, 65, 66, 67] (Γ := Nat) (vals := fun k => [(60, i64 k)]) (I := fun m k w => m + k = 4 ∧ firstE rowCheck ([x.m0, x.m1, x.m2, x.m3].drop k) = firstE rowCheck [x.m0, x.m1, x.m2, x.m3] ∧ St [] [] w0 w [[(b1, C x.cells 38)]] [SVF x]) 4 0 ⟨rfl, trivial⟩ ⟨rfl, rfl, M⟩ ?_
  rintro m k e w ⟨hk, hf, M⟩
  refine c_seq (c_region ?_)
  refine s_val (r_lss rfl rfl) ?_
  refine s_nil (e_then (c_seq ?_))
  refine c_if rfl (fun h61 => ?_) (fun h61 => ?_)
  ·
   obtain ⟨y, hy⟩ : ∃ y, [x.m0, x.m1, x.m2, x.m3][k]? = some y := ⟨_, List.getElem?_eq_getElem (show k < 4 by omega)⟩
   rw [firstE_step hy] at hf
   refine c_skip (e_then (c_seq (c_block (c_seq (c_region ?_)))))
   refine s_val (r_indexN (vs := v4 y) Try.underlying33 Try.underlying31 rfl sz31 rfl rfl (by omega) (by omega) (by rcases (by omega : k = 0 ∨ k = 1 ∨ k = 2 ∨ k = 3) with rfl | rfl | rfl | rfl <;> (simp at hy; subst hy; rfl))) ?_
   refine a_alloc zr31 cells_agg M ?_
   intro b4 w M
   first | replace M := M.nf (L' := [_, [(_, _)]]) rfl | skip
   refine a_storeS (v := .agg _) (cs' := [_, _, _, _]) sz31 M rfl rfl cells_agg (k := 1) (j := 0) rfl rfl rfl rfl rfl rfl ?_
   intro w M
   first | replace M := M.nf (L' := [_, [(_, _)]]) rfl | skip
   refine s_nil (e_then (c_seq ?_))
   refine c_drawK (by kernel_rfl) [(.q, 1), (.ch, 2), (.q, 0), (.q, 3)] [[], [], [1], [0, 1, 2]] (by kernel_rfl) [] M ?_
   refine w_read rfl wt_none (fun w X G' M => r_loadN Try.underlying31 rfl sz31 rfl rfl (M.cellsA (k := 1) (j := 0) rfl rfl)) ?_
   refine w_callP rfl wt_none (fun w => cl45 rfl) (fun w X M => vecWithin y 2147483647 (by omega) (by omega) _) (by repeat (first | exact trivial | refine ⟨.inr rfl, ?_⟩ | refine ⟨.inl rfl, ?_⟩)) (fun _ h => h) ?_
   refine w_read rfl wt_none (fun w X G' M => r_loadN Try.underlying31 rfl sz31 rfl rfl (M.cellsA (k := 1) (j := 0) rfl rfl)) ?_
   refine w_val rfl wt_none (fun w => (r_neqF (xs := [.int _ _, .int _ _, .int _ _, .int _ _]) (ys := [.int _ _, .int _ _, .int _ _, .int _ _]) fe31 rfl eg31 rfl rfl (by kernel_rfl) (by kernel_rfl))) ?_
   refine w_nil ?_
   intro w M
   refine e_then ?_
   refine c_cond rfl (fun h66 => ?_) (fun h66 => ?_)
   ·
    have hne : rowCheck y = 2 := if_pos (by rw [eqv_v4] at h66; simpa using h66)
    have hr : scrCheck x.scr = 2 := by rw [hS, ← hf, hne, if_pos (by decide)]; rfl
    refine c_seq (c_region ?_)
    refine s_val (r_assign (v := .int _ _) rfl) ?_
    refine s_nil (e_then (c_ret (e_blk_ret (e_then_ret (e_then_ret (e_blk_ret (e_then_ret ?_)))))))
    refine ret_run (res_1 (v := .int _ _) rfl rfl) ?_
    exact ⟨congrArg (fun n => Ending.returned (i64 n)) hr.symm, M.keep⟩
   ·
    have hne : rowCheck y = 0 := if_neg (by rw [eqv_v4] at h66; simpa using h66)
    refine c_skip (e_blk (e_then (c_region ?_)))
    first | (refine s_val (r_add rfl rfl (w64 (by omega) (by omega))) ?_) | (refine s_val (r_add rfl rfl rfl) ?_)
    refine s_val (r_move (v := .int _ _) rfl) ?_
    refine s_nil (e_then ?_)
    rw [hne, if_neg (by decide)] at hf
    exact loop_end (m - 1) (k + 1) (by repeat (first | exact ag_refl | exact ag_mask rfl ag_refl | refine ag_upd rfl ?_ | refine ag_mask rfl ?_)) ⟨i64succ k, trivial⟩ (by omega) ⟨by omega, hf, M.picks [0] rfl rfl⟩
  ·
   rw [firstE_done (show 4 ≤ k by omega)] at hf
   rw [← hf, orE_0] at hS
   refine c_exit (e_then_exit (e_then_exit (e_blk_here (e_then (c_seq (c_seq (c_region ?_)))))))
   refine s_val (r_fieldAddr (o' := 18) fb38_3 (by decide) rfl rfl) ?_
   refine a_load1 (v := .slice _ _ _) Try.underlying34 rfl M rfl (k := 0) (j := 0) rfl rfl rfl ?_
   refine s_val (r_len Try.underlying34 rfl) ?_
   refine s_val (r_move (v := .int _ _) rfl) ?_
   refine s_nil (e_then (c_block ?_))
   refine c_loopG [2, 6, 71, 72, 73, 74, 75, 76, 77, 78, 79, 80, 81, 82, 83, 84, 85, 86, 87, 88, 89] (Γ := Nat) (vals := fun k => [(71, i64 k)]) (I := fun m k w => m + k = x.vs.length ∧ firstE vtxCheck (x.vs.drop k) = firstE vtxCheck x.vs ∧ St [] [] w0 w [[(b1, C x.cells 38)]] [SVF x]) x.vs.length 0 ⟨rfl, trivial⟩ ⟨rfl, rfl, M⟩ ?_
   rintro m k e w ⟨hk, hf, M⟩
   refine c_seq (c_region ?_)
   refine s_val (r_lss rfl rfl) ?_
   refine s_nil (e_then (c_seq ?_))
   refine c_if rfl (fun h72 => ?_) (fun h72 => ?_)
   ·
    obtain ⟨y, hy⟩ : ∃ y, x.vs[k]? = some y := ⟨_, List.getElem?_eq_getElem (by omega)⟩
    obtain ⟨bi, oi, ha⟩ := (M.fact (j := 0) rfl).vs.addr (by omega)
    rw [firstE_step hy] at hf
    refine c_skip (e_then (c_seq (c_block (c_seq (c_region ?_)))))
    refine s_val (r_indexAddrS Try.underlying34 sz41 rfl (ha) rfl (by omega) (by omega) rfl) ?_
    refine s_val (r_loadN (cs := vtx y) Try.underlying41 rfl sz41 rfl rfl (fun j v hv => (M.fact (j := 0) rfl).vs.cell ha hy hv)) ?_
    refine a_alloc zr41 cells_agg M ?_
    intro b6 w M
    first | replace M := M.nf (L' := [_, [(_, _)]]) rfl | skip
    refine a_storeS (v := .agg _) (cs' := [_, _, _, _, _, _, _, _]) sz41 M rfl rfl cells_agg (k := 1) (j := 0) rfl rfl rfl rfl rfl rfl ?_
    intro w M
    first | replace M := M.nf (L' := [_, [(_, _)]]) rfl | skip
    refine s_nil (e_then (c_seq ?_))
    refine c_drawK (by kernel_rfl) [(.q, 2), (.q, 3), (.ch, 4), (.q, 0), (.q, 1), (.q, 5), (.q, 6), (.q, 9), (.q, 10), (.ch, 11), (.q, 7), (.q, 8), (.q, 12), (.q, 13)] [[], [0], [], [2], [2, 3], [0, 1, 2, 3, 4], [0, 1, 2, 3, 4, 5], [0, 1, 2, 3, 4, 5, 6], [0, 1, 2, 3, 4, 5, 6, 7], [0, 1, 2, 3, 4, 5, 6], [0, 1, 2, 3, 4, 5, 6, 9], [0, 1, 2, 3, 4, 5, 6, 9, 10], [0, 1, 2, 3, 4, 5, 6, 7, 8, 9, 10, 11], [0, 1, 2, 3, 4, 5, 6, 7, 8, 9, 10, 11, 12]] (by kernel_rfl) [] M ?_
    refine w_val rfl wt_none (fun w => (r_fieldAddr (o' := 0) fb41_0 (by decide) rfl rfl)) ?_
    refine w_read rfl wt_none (fun w X G' M => r_loadN (cs := [_, _, _, _]) Try.underlying31 rfl sz31 rfl rfl (M.cells (n := 4) (k := 1) (j := 0) rfl rfl rfl)) ?_
    refine w_callP rfl wt_none (fun w => cl45 rfl) (fun w X M => vecWithin y.place 4194304 (by omega) (by omega) _) (by repeat (first | exact trivial | refine ⟨.inr rfl, ?_⟩ | refine ⟨.inl rfl, ?_⟩)) (fun _ h => h) ?_
    refine w_val rfl wt_none (fun w => (r_fieldAddr (o' := 0) fb41_0 (by decide) rfl rfl)) ?_
    refine w_read rfl wt_none (fun w X G' M => r_loadN (cs := [_, _, _, _]) Try.underlying31 rfl sz31 rfl rfl (M.cells (n := 4) (k := 1) (j := 0) rfl rfl rfl)) ?_
    refine w_val rfl wt_none (fun w => (r_neqF (xs := [.int _ _, .int _ _, .int _ _, .int _ _]) (ys := [.int _ _, .int _ _, .int _ _, .int _ _]) fe31 rfl eg31 rfl rfl (by kernel_rfl) (by kernel_rfl))) ?_
    refine w_val rfl wt_none (fun w => (r_move (v := .bool _) rfl)) ?_
    refine w_split 81 rfl (fun g81 => ?_) (fun g81 => ?_)
    ·
     refine w_skip rfl (wt_no rfl rfl rfl) ?_
     refine w_skip rfl (wt_no rfl rfl rfl) ?_
     refine w_skip rfl (wt_no rfl rfl rfl) ?_
     refine w_skip rfl (wt_no rfl rfl rfl) ?_
     refine w_skip rfl (wt_no rfl rfl rfl) ?_
     refine w_skip rfl (wt_no rfl rfl rfl) ?_
     refine w_val rfl wt_none (fun w => (r_pick (v := .bool _) rfl rfl)) ?_
     refine w_nil ?_
     intro w M
     refine e_then ?_
     refine c_yes rfl (by decide) ?_
     refine c_seq (c_region ?_)
     have hne : vtxCheck y = 2 := if_pos (by
       first
         | (left; have q := g81; rw [eqv_v4] at q; simpa using q; done)
         | (right; have q := h88; rw [eqv_v4] at q; simpa using q; done))
     have hr : scrCheck x.scr = 2 := by rw [hS, ← hf, hne, if_pos (by decide)]; rfl
     refine s_val (r_assign (v := .int _ _) rfl) ?_
     refine s_nil (e_then (c_ret (e_blk_ret (e_then_ret (e_then_ret (e_blk_ret (e_then_ret ?_)))))))
     refine ret_run (res_1 (v := .int _ _) rfl rfl) ?_
     exact ⟨congrArg (fun n => Ending.returned (i64 n)) hr.symm, M.keep⟩
    ·
     refine w_val rfl (wt_yes rfl rfl rfl) (fun w => (r_fieldAddr (o' := 4) fb41_1 (by decide) rfl rfl)) ?_
     refine w_read rfl (wt_yes rfl rfl rfl) (fun w X G' M => r_loadN (cs := [_, _, _, _]) Try.underlying31 rfl sz31 rfl rfl (M.cells (n := 4) (k := 1) (j := 0) rfl rfl rfl)) ?_
     refine w_callP rfl (wt_yes rfl rfl rfl) (fun w => cl45 rfl) (fun w X M => vecWithin y.colour 4194304 (by omega) (by omega) _) (by repeat (first | exact trivial | refine ⟨.inr rfl, ?_⟩ | refine ⟨.inl rfl, ?_⟩)) (fun _ h => h) ?_
     refine w_val rfl (wt_yes rfl rfl rfl) (fun w => (r_fieldAddr (o' := 4) fb41_1 (by decide) rfl rfl)) ?_
     refine w_read rfl (wt_yes rfl rfl rfl) (fun w X G' M => r_loadN (cs := [_, _, _, _]) Try.underlying31 rfl sz31 rfl rfl (M.cells (n := 4) (k := 1) (j := 0) rfl rfl rfl)) ?_
     refine w_val rfl (wt_yes rfl rfl rfl) (fun w => (r_neqF (xs := [.int _ _, .int _ _, .int _ _, .int _ _]) (ys := [.int _ _, .int _ _, .int _ _, .int _ _]) fe31 rfl eg31 rfl rfl (by kernel_rfl) (by kernel_rfl))) ?_
     refine w_val rfl wt_none (fun w => (r_pick (v := .bool _) rfl rfl)) ?_
     refine w_nil ?_
     intro w M
     refine e_then ?_
     refine c_cond rfl (fun h88 => ?_) (fun h88 => ?_)
     ·
      refine c_seq (c_region ?_)
      have hne : vtxCheck y = 2 := if_pos (by
        first
          | (left; have q := g81; rw [eqv_v4] at q; simpa using q; done)
          | (right; have q := h88; rw [eqv_v4] at q; simpa using q; done))
      have hr : scrCheck x.scr = 2 := by rw [hS, ← hf, hne, if_pos (by decide)]; rfl
      refine s_val (r_assign (v := .int _ _) rfl) ?_
      refine s_nil (e_then (c_ret (e_blk_ret (e_then_ret (e_then_ret (e_blk_ret (e_then_ret ?_)))))))
      refine ret_run (res_1 (v := .int _ _) rfl rfl) ?_
      exact ⟨congrArg (fun n => Ending.returned (i64 n)) hr.symm, M.keep⟩
     ·
      refine c_skip (e_blk (e_then (c_region ?_)))
      first | (refine s_val (r_add rfl rfl (w64 (by omega) (by omega))) ?_) | (refine s_val (r_add rfl rfl rfl) ?_)
      refine s_val (r_move (v := .int _ _) rfl) ?_
      refine s_nil (e_then ?_)
      have hne : vtxCheck y = 0 := if_neg (by
        have q1 := g81
        have q2 := h88
        rw [eqv_v4] at q1 q2
        simp at q1 q2
        rintro (h | h)
        · exact h q1
        · exact h q2)
      rw [hne, if_neg (by decide)] at hf
      exact loop_end (m - 1) (k + 1) (by repeat (first | exact ag_refl | exact ag_mask rfl ag_refl | refine ag_upd rfl ?_ | refine ag_mask rfl ?_)) ⟨i64succ k, trivial⟩ (by omega) ⟨by omega, hf, M.picks [0] rfl rfl⟩
   ·
    rw [firstE_done (by omega)] at hf
    rw [← hf, orE_0] at hS
    refine c_exit (e_then_exit (e_then_exit (e_blk_here (e_then (c_seq (c_seq (c_region ?_)))))))
    refine s_val (r_fieldAddr (o' := 19) fb38_4 (by decide) rfl rfl) ?_
    refine a_load1 (v := .slice _ _ _) Try.underlying35 rfl M rfl (k := 0) (j := 0) rfl rfl rfl ?_
    refine s_val (r_len Try.underlying35 rfl) ?_
    refine s_val (r_move (v := .int _ _) rfl) ?_
    refine s_nil (e_then (c_block ?_))
    refine c_loopG [2, 8, 9, 93, 94, 95, 96, 97, 98, 99, 100, 101, 102] (Γ := Nat) (vals := fun k => [(93, i64 k)]) (I := fun m k w => m + k = x.ss.length ∧ firstE (progCheck · false) ((x.ss.map (·.2)).drop k) = firstE (progCheck · false) (x.ss.map (·.2)) ∧ St [] [] w0 w [[(b1, C x.cells 38)]] [SVF x]) x.ss.length 0 ⟨rfl, trivial⟩ ⟨rfl, rfl, M⟩ ?_
    rintro m k e w ⟨hk, hf, M⟩
    refine c_seq (c_region ?_)
    refine s_val (r_lss rfl rfl) ?_
    refine s_nil (e_then (c_seq ?_))
    refine c_if rfl (fun h94 => ?_) (fun h94 => ?_)
    ·
     obtain ⟨y, hy⟩ : ∃ y, x.ss[k]? = some y := ⟨_, List.getElem?_eq_getElem (by omega)⟩
     obtain ⟨bi, oi, ha⟩ := (M.fact (j := 0) rfl).ss.row.addr (by omega)
     rw [firstE_step (x := y.2) (by rw [List.getElem?_map, hy]; rfl)] at hf
     refine c_skip (e_then (c_seq (c_block (c_seq (c_region ?_)))))
     refine s_val (r_indexAddrS Try.underlying35 sz46 rfl (ha) rfl (by omega) (by omega) rfl) ?_
     refine s_val (r_load1 (v := .slice _ _ _) Try.underlying46 rfl rfl ((M.fact (j := 0) rfl).ss.row.cell0 ha hy rfl)) ?_
     refine s_val (r_assign (v := .slice _ _ _) rfl) ?_
     refine s_nil (e_then (c_seq (c_region ?_)))
     refine s_val (r_move (v := .slice _ _ _) rfl) ?_
     refine s_callP (cl46 rfl) (progCheckN _ y.2 (hx.ss y (List.mem_of_getElem? hy)) _ rfl _ _ ((M.fact (j := 0) rfl).ss.each y (List.mem_of_getElem? hy))) M ?_
     intro w M
     refine s_val (r_assign (v := .int _ _) rfl) ?_
     refine s_nil (e_then (c_seq (c_region ?_)))
     refine s_val (r_move (v := .int _ _) rfl) ?_
     refine s_val (r_neq rfl rfl) ?_
     refine s_nil (e_then ?_)
     refine c_if rfl (fun h100 => ?_) (fun h100 => ?_)
     ·
      have hr : scrCheck x.scr = progCheck y.2 false := by rw [hS, ← hf, if_pos h100, orE_ne h100]
      refine c_seq (c_region ?_)
      refine s_val (r_move (v := .int _ _) rfl) ?_
      refine s_val (r_assign (v := .int _ _) rfl) ?_
      refine s_nil (e_then (c_ret (e_blk_ret (e_then_ret (e_then_ret (e_blk_ret (e_then_ret ?_)))))))
      refine ret_run (res_1 (v := .int _ _) rfl rfl) ?_
      exact ⟨congrArg (fun n => Ending.returned (i64 n)) hr.symm, M.keep⟩
     ·
      refine c_skip (e_blk (e_then (c_region ?_)))
      first | (refine s_val (r_add rfl rfl (w64 (by omega) (by omega))) ?_) | (refine s_val (r_add rfl rfl rfl) ?_)
      refine s_val (r_move (v := .int _ _) rfl) ?_
      refine s_nil (e_then ?_)
      rw [if_neg h100] at hf
      exact loop_end (m - 1) (k + 1) (by repeat (first | exact ag_refl | exact ag_mask rfl ag_refl | refine ag_upd rfl ?_ | refine ag_mask rfl ?_)) ⟨i64succ k, trivial⟩ (by omega) ⟨by omega, hf, M⟩
    ·
     rw [firstE_done (by rw [List.length_map]; omega)] at hf
     rw [← hf, orE_0] at hS
     refine c_exit (e_then_exit (e_then_exit (e_blk_here (e_then (c_seq (c_seq (c_region ?_)))))))
     refine s_val (r_fieldAddr (o' := 20) fb38_5 (by decide) rfl rfl) ?_
     refine a_load1 (v := .slice _ _ _) Try.underlying35 rfl M rfl (k := 0) (j := 0) rfl rfl rfl ?_
     refine s_val (r_len Try.underlying35 rfl) ?_
     refine s_val (r_move (v := .int _ _) rfl) ?_
     refine s_nil (e_then (c_block ?_))
     refine c_loopG [2, 11, 12, 106, 107, 108, 109, 110, 111, 112, 113, 114, 115] (Γ := Nat) (vals := fun k => [(106, i64 k)]) (I := fun m k w => m + k = x.ps.length ∧ firstE (progCheck · true) ((x.ps.map (·.2)).drop k) = firstE (progCheck · true) (x.ps.map (·.2)) ∧ St [] [] w0 w [[(b1, C x.cells 38)]] [SVF x]) x.ps.length 0 ⟨rfl, trivial⟩ ⟨rfl, rfl, M⟩ ?_
     rintro m k e w ⟨hk, hf, M⟩
     refine c_seq (c_region ?_)
     refine s_val (r_lss rfl rfl) ?_
     refine s_nil (e_then (c_seq ?_))
     refine c_if rfl (fun h107 => ?_) (fun h107 => ?_)
     ·
      obtain ⟨y, hy⟩ : ∃ y, x.ps[k]? = some y := ⟨_, List.getElem?_eq_getElem (by omega)⟩
      obtain ⟨bi, oi, ha⟩ := (M.fact (j := 0) rfl).ps.row.addr (by omega)
      rw [firstE_step (x := y.2) (by rw [List.getElem?_map, hy]; rfl)] at hf
      refine c_skip (e_then (c_seq (c_block (c_seq (c_region ?_)))))
      refine s_val (r_indexAddrS Try.underlying35 sz46 rfl (ha) rfl (by omega) (by omega) rfl) ?_
      refine s_val (r_load1 (v := .slice _ _ _) Try.underlying46 rfl rfl ((M.fact (j := 0) rfl).ps.row.cell0 ha hy rfl)) ?_
      refine s_val (r_assign (v := .slice _ _ _) rfl) ?_
      refine s_nil (e_then (c_seq (c_region ?_)))
      refine s_val (r_move (v := .slice _ _ _) rfl) ?_
      refine s_callP (cl46 rfl) (progCheckN _ y.2 (hx.ps y (List.mem_of_getElem? hy)) _ rfl _ _ ((M.fact (j := 0) rfl).ps.each y (List.mem_of_getElem? hy))) M ?_
      intro w M
      refine s_val (r_assign (v := .int _ _) rfl) ?_
      refine s_nil (e_then (c_seq (c_region ?_)))
      refine s_val (r_move (v := .int _ _) rfl) ?_
      refine s_val (r_neq rfl rfl) ?_
      refine s_nil (e_then ?_)
      refine c_if rfl (fun h113 => ?_) (fun h113 => ?_)
      ·
       have hr : scrCheck x.scr = progCheck y.2 true := by rw [hS, ← hf, if_pos h113, orE_ne h113]
       refine c_seq (c_region ?_)
       refine s_val (r_move (v := .int _ _) rfl) ?_
       refine s_val (r_assign (v := .int _ _) rfl) ?_
       refine s_nil (e_then (c_ret (e_blk_ret (e_then_ret (e_then_ret (e_blk_ret (e_then_ret ?_)))))))
       refine ret_run (res_1 (v := .int _ _) rfl rfl) ?_
       exact ⟨congrArg (fun n => Ending.returned (i64 n)) hr.symm, M.keep⟩
      ·
       refine c_skip (e_blk (e_then (c_region ?_)))
       first | (refine s_val (r_add rfl rfl (w64 (by omega) (by omega))) ?_) | (refine s_val (r_add rfl rfl rfl) ?_)
       refine s_val (r_move (v := .int _ _) rfl) ?_
       refine s_nil (e_then ?_)
       rw [if_neg h113] at hf
       exact loop_end (m - 1) (k + 1) (by repeat (first | exact ag_refl | exact ag_mask rfl ag_refl | refine ag_upd rfl ?_ | refine ag_mask rfl ?_)) ⟨i64succ k, trivial⟩ (by omega) ⟨by omega, hf, M⟩
     ·
      rw [firstE_done (by rw [List.length_map]; omega)] at hf
      rw [← hf, orE_0] at hS
      refine c_exit (e_then_exit (e_then_exit (e_blk_here (e_then (c_seq (c_seq (c_region ?_)))))))
      refine s_val (r_fieldAddr (o' := 21) fb38_6 (by decide) rfl rfl) ?_
      refine a_load1 (v := .slice _ _ _) Try.underlying36 rfl M rfl (k := 0) (j := 0) rfl rfl rfl ?_
      refine s_val (r_len Try.underlying36 rfl) ?_
      refine s_val (r_move (v := .int _ _) rfl) ?_
      refine s_nil (e_then (c_block ?_))
      refine c_loopG [2, 14, 15, 119, 120, 121, 122, 123, 124, 125, 126, 127, 128, 129] (Γ := Nat) (vals := fun k => [(119, i64 k)]) (I := fun m k w => m + k = x.ds.length ∧ firstE (drwCheck x.vs.length x.ss.length x.ps.length) ((x.ds.map (·.2)).drop k) = firstE (drwCheck x.vs.length x.ss.length x.ps.length) (x.ds.map (·.2)) ∧ St [] [] w0 w [[(b1, C x.cells 38)]] [SVF x]) x.ds.length 0 ⟨rfl, trivial⟩ ⟨rfl, rfl, M⟩ ?_
      rintro m k e w ⟨hk, hf, M⟩
      refine c_seq (c_region ?_)
      refine s_val (r_lss rfl rfl) ?_
      refine s_nil (e_then (c_seq ?_))
      refine c_if rfl (fun h120 => ?_) (fun h120 => ?_)
      ·
       obtain ⟨y, hy⟩ : ∃ y, x.ds[k]? = some y := ⟨_, List.getElem?_eq_getElem (by omega)⟩
       obtain ⟨bi, oi, ha⟩ := (M.fact (j := 0) rfl).ds.row.addr (by omega)
       rw [firstE_step (x := y.2) (by rw [List.getElem?_map, hy]; rfl)] at hf
       refine c_skip (e_then (c_seq (c_block (c_seq (c_region ?_)))))
       refine s_val (r_indexAddrS Try.underlying36 sz61 rfl (ha) rfl (by omega) (by omega) rfl) ?_
       refine s_val (r_loadN (cs := encD y) Try.underlying61 rfl sz61 rfl rfl (fun j v hv => (M.fact (j := 0) rfl).ds.row.cell ha hy hv)) ?_
       refine a_alloc zr61 cells_agg M ?_
       intro b14 w M
       first | replace M := M.nf (L' := [_, [(_, _)]]) rfl | skip
       refine a_storeS (v := .agg _) (cs' := [_, _, _, _, _, _, _, _, _, _, _, _, _, _, _, _, _, _, _, _, _, _, _, _, _, _, _]) sz61 M rfl rfl cells_agg (k := 1) (j := 0) rfl rfl rfl rfl rfl rfl ?_
       intro w M
       first | replace M := M.nf (L' := [_, [(_, _)]]) rfl | skip
       refine s_nil (e_then (c_seq (c_region ?_)))
       refine a_loadA Try.underlying38 rfl sz38 M rfl (k := 0) (j := 0) rfl rfl rfl ?_
       refine a_loadA Try.underlying61 rfl sz61 M rfl (k := 1) (j := 0) rfl rfl rfl ?_
       refine s_callP (cl47 rfl) (drwCheckOf x y.1 y.2 (by omega) (by omega) (by omega) _ ((M.fact (j := 0) rfl).ds.each y (List.mem_of_getElem? hy))) M ?_
       intro w M
       refine s_val (r_assign (v := .int _ _) rfl) ?_
       refine s_nil (e_then (c_seq (c_region ?_)))
       refine s_val (r_move (v := .int _ _) rfl) ?_
       refine s_val (r_neq rfl rfl) ?_
       refine s_nil (e_then ?_)
       refine c_if rfl (fun h127 => ?_) (fun h127 => ?_)
       ·
        have hr : scrCheck x.scr = drwCheck x.vs.length x.ss.length x.ps.length y.2 := by rw [hS, ← hf, if_pos h127]
        refine c_seq (c_region ?_)
        refine s_val (r_move (v := .int _ _) rfl) ?_
        refine s_val (r_assign (v := .int _ _) rfl) ?_
        refine s_nil (e_then (c_ret (e_blk_ret (e_then_ret (e_then_ret (e_blk_ret (e_then_ret ?_)))))))
        refine ret_run (res_1 (v := .int _ _) rfl rfl) ?_
        exact ⟨congrArg (fun n => Ending.returned (i64 n)) hr.symm, M.keep⟩
       ·
        refine c_skip (e_blk (e_then (c_region ?_)))
        first | (refine s_val (r_add rfl rfl (w64 (by omega) (by omega))) ?_) | (refine s_val (r_add rfl rfl rfl) ?_)
        refine s_val (r_move (v := .int _ _) rfl) ?_
        refine s_nil (e_then ?_)
        rw [if_neg h127] at hf
        exact loop_end (m - 1) (k + 1) (by repeat (first | exact ag_refl | exact ag_mask rfl ag_refl | refine ag_upd rfl ?_ | refine ag_mask rfl ?_)) ⟨i64succ k, trivial⟩ (by omega) ⟨by omega, hf, M.picks [0] rfl rfl⟩
      ·
       rw [firstE_done (by rw [List.length_map]; omega)] at hf
       have hr : scrCheck x.scr = 0 := by rw [hS, ← hf]
       refine c_exit (e_then_exit (e_then_exit (e_blk_here (e_then (c_seq (c_region ?_))))))
       refine s_val (r_assign (v := .int _ _) rfl) ?_
       refine s_nil (e_then (c_ret ?_))
       refine ret_run (res_1 (v := .int _ _) rfl rfl) ?_
       exact ⟨congrArg (fun n => Ending.returned (i64 n)) hr.symm, M.keep⟩
end Go.Proofs.Ytcjnniigonaapaa
