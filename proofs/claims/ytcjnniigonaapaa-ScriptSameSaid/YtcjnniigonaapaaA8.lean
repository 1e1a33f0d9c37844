/-
  WALKS 8: the law's states, vertices, draws.
-/
import Derived.Test.YtcjnniigonaapaaA7
namespace Go.Proofs.Ytcjnniigonaapaa
open Go Go.Az Go.Proofs
set_option maxHeartbeats 4000000
abbrev sstt (x : SStt) : List Value := [u8 x.depth, u8 x.stencil, u8 x.ref, u8 x.mask, u8 x.fail, u8 x.hidden, u8 x.pass, u8 x.blend, u8 x.channels, u8 x.cull, bo x.write, bo x.easy, u8 x.b0, u8 x.b1, u8 x.b2, u8 x.b3]
abbrev svtx (x : SVtx) : List Value := [i16 x.x, i16 x.y, i16 x.z, i16 x.w, u8 x.c0, u8 x.c1, u8 x.c2, u8 x.c3, bo x.far]

theorem stateOf (x : SStt) (hx : x.wf) (w0 : World) :
    Calls Try.prog 43 #[.agg (sstt x).toArray] w0 fun e w' => e = .returned (.agg (stt (sttOf x)).toArray) ∧ Keep [] w0 w' := by
  obtain ⟨⟨⟨d1, d2⟩, ⟨s1, s2⟩, ⟨r1, r2⟩, ⟨m1, m2⟩, ⟨f1, f2⟩, ⟨h1, h2⟩, ⟨p1, p2⟩, ⟨l1, l2⟩, ⟨c1, c2⟩, ⟨u1, u2⟩⟩, ⟨b01, b02⟩, ⟨b11, b12⟩, ⟨b21, b22⟩, ⟨b31, b32⟩⟩ := hx
  have M := St.nil w0
  refine calls_of 84 Try.func43 rfl rfl rfl ?_
  refine c_seq (c_region ?_)
  refine a_box (v := .agg _) rfl cells_agg M ?_
  intro b1 w M
  first | replace M := M.nf (L' := [[(_, _)]]) rfl | skip
  refine a_alloc zr54 cells_agg M ?_
  intro b2 w M
  first | replace M := M.nf (L' := [[(_, _)], [(_, _)]]) rfl | skip
  refine s_nil (e_then (c_seq (c_region ?_)))
  refine s_val (r_fieldAddr (o' := 0) fb73_0 (by decide) rfl rfl) ?_
  refine a_load1 (v := .int _ _) Try.underlying5 rfl M rfl (k := 0) (j := 0) rfl rfl rfl ?_
  first | (refine s_val (r_rem rfl rfl (by omega) (Int.tmod_eq_emod_of_nonneg (by omega))) ?_) | (refine s_val (r_rem rfl rfl (by omega) rfl) ?_)
  refine s_val (r_fieldAddr (o' := 10) fb73_10 (by decide) rfl rfl) ?_
  refine a_load1 (v := .bool _) Try.underlying4 rfl M rfl (k := 0) (j := 0) rfl rfl rfl ?_
  refine s_val (r_fieldAddr (o' := 1) fb73_1 (by decide) rfl rfl) ?_
  refine a_load1 (v := .int _ _) Try.underlying5 rfl M rfl (k := 0) (j := 0) rfl rfl rfl ?_
  first | (refine s_val (r_rem rfl rfl (by omega) (Int.tmod_eq_emod_of_nonneg (by omega))) ?_) | (refine s_val (r_rem rfl rfl (by omega) rfl) ?_)
  refine s_val (r_fieldAddr (o' := 2) fb73_2 (by decide) rfl rfl) ?_
  refine a_load1 (v := .int _ _) Try.underlying5 rfl M rfl (k := 0) (j := 0) rfl rfl rfl ?_
  refine s_val (r_fieldAddr (o' := 3) fb73_3 (by decide) rfl rfl) ?_
  refine a_load1 (v := .int _ _) Try.underlying5 rfl M rfl (k := 0) (j := 0) rfl rfl rfl ?_
  refine s_val (r_fieldAddr (o' := 4) fb73_4 (by decide) rfl rfl) ?_
  refine a_load1 (v := .int _ _) Try.underlying5 rfl M rfl (k := 0) (j := 0) rfl rfl rfl ?_
  first | (refine s_val (r_rem rfl rfl (by omega) (Int.tmod_eq_emod_of_nonneg (by omega))) ?_) | (refine s_val (r_rem rfl rfl (by omega) rfl) ?_)
  refine s_val (r_fieldAddr (o' := 5) fb73_5 (by decide) rfl rfl) ?_
  refine a_load1 (v := .int _ _) Try.underlying5 rfl M rfl (k := 0) (j := 0) rfl rfl rfl ?_
  first | (refine s_val (r_rem rfl rfl (by omega) (Int.tmod_eq_emod_of_nonneg (by omega))) ?_) | (refine s_val (r_rem rfl rfl (by omega) rfl) ?_)
  refine s_val (r_fieldAddr (o' := 6) fb73_6 (by decide) rfl rfl) ?_
  refine a_load1 (v := .int _ _) Try.underlying5 rfl M rfl (k := 0) (j := 0) rfl rfl rfl ?_
  first | (refine s_val (r_rem rfl rfl (by omega) (Int.tmod_eq_emod_of_nonneg (by omega))) ?_) | (refine s_val (r_rem rfl rfl (by omega) rfl) ?_)
  refine s_val (r_fieldAddr (o' := 7) fb73_7 (by decide) rfl rfl) ?_
  refine a_load1 (v := .int _ _) Try.underlying5 rfl M rfl (k := 0) (j := 0) rfl rfl rfl ?_
  first | (refine s_val (r_rem rfl rfl (by omega) (Int.tmod_eq_emod_of_nonneg (by omega))) ?_) | (refine s_val (r_rem rfl rfl (by omega) rfl) ?_)
  refine s_val (r_fieldAddr (o' := 8) fb73_8 (by decide) rfl rfl) ?_
  refine a_load1 (v := .int _ _) Try.underlying5 rfl M rfl (k := 0) (j := 0) rfl rfl rfl ?_
  first | (refine s_val (r_rem rfl rfl (by omega) (Int.tmod_eq_emod_of_nonneg (by omega))) ?_) | (refine s_val (r_rem rfl rfl (by omega) rfl) ?_)
  refine s_val (r_fieldAddr (o' := 9) fb73_9 (by decide) rfl rfl) ?_
  refine a_load1 (v := .int _ _) Try.underlying5 rfl M rfl (k := 0) (j := 0) rfl rfl rfl ?_
  first | (refine s_val (r_rem rfl rfl (by omega) (Int.tmod_eq_emod_of_nonneg (by omega))) ?_) | (refine s_val (r_rem rfl rfl (by omega) rfl) ?_)
  refine s_val (r_buildS (cs := [_, _, _, _]) zr52 cells_agg pl52 (ps := [(2, .int _ _), (3, .int _ _)]) (qs := [(2, [_]), (3, [_])]) rfl ⟨rfl, rfl, rfl, rfl, rfl, rfl, trivial⟩ rfl) ?_
  refine s_val (r_buildS (cs := [_, _, _, _, _, _, _, _, _, _, _, _, _, _, _]) zr54 cells_agg pl54 (ps := [(0, .int _ _), (1, .bool _), (2, .int _ _), (3, .int _ _), (4, .int _ _), (5, .int _ _), (6, .int _ _), (7, .int _ _), (8, .int _ _), (9, .int _ _), (10, .int _ _), (11, .agg _)]) (qs := [(0, [_]), (1, [_]), (2, [_]), (3, [_]), (4, [_]), (5, [_]), (6, [_]), (7, [_]), (8, [_]), (9, [_]), (10, [_]), (11, [_, _, _, _])]) rfl ⟨rfl, rfl, rfl, rfl, rfl, rfl, rfl, rfl, rfl, rfl, rfl, rfl, rfl, rfl, rfl, rfl, rfl, rfl, rfl, rfl, rfl, rfl, rfl, rfl, rfl, rfl, rfl, rfl, rfl, rfl, rfl, rfl, rfl, cells_agg, rfl, rfl, trivial⟩ rfl) ?_
  refine a_alloc zr54 cells_agg M ?_
  intro b3 w M
  first | replace M := M.nf (L' := [[(_, _)], [(_, _)], [(_, _)]]) rfl | skip
  refine a_storeS (v := .agg _) (cs' := [_, _, _, _, _, _, _, _, _, _, _, _, _, _, _]) sz54 M rfl rfl cells_agg (k := 2) (j := 0) rfl rfl rfl rfl rfl rfl ?_
  intro w M
  first | replace M := M.nf (L' := [[(_, _)], [(_, _)], [(_, _)]]) rfl | skip
  refine s_nil (e_then (c_seq (c_seq (c_region ?_))))
  refine s_val (r_fieldAddr (o' := 11) fb73_11 (by decide) rfl rfl) ?_
  refine a_load1 (v := .bool _) Try.underlying4 rfl M rfl (k := 0) (j := 0) rfl rfl rfl ?_
  refine s_nil (e_then ?_)
  refine c_cond rfl (fun h38 => ?_) (fun h38 => ?_)
  ·
   refine c_region ?_
   refine s_val (r_fieldAddr (o' := 2) fb54_2 (by decide) rfl rfl) ?_
   refine a_storeS (v := .int _ _) (cs' := [_, _, _, _, _, _, _, _, _, _, _, _, _, _, _]) sz47 M rfl rfl rfl (k := 2) (j := 0) rfl rfl rfl rfl rfl rfl ?_
   intro w M
   first | replace M := M.nf (L' := [[(_, _)], [(_, _)], [(_, _)]]) rfl | skip
   refine s_val (r_fieldAddr (o' := 6) fb54_6 (by decide) rfl rfl) ?_
   refine a_storeS (v := .int _ _) (cs' := [_, _, _, _, _, _, _, _, _, _, _, _, _, _, _]) sz48 M rfl rfl rfl (k := 2) (j := 0) rfl rfl rfl rfl rfl rfl ?_
   intro w M
   first | replace M := M.nf (L' := [[(_, _)], [(_, _)], [(_, _)]]) rfl | skip
   refine s_val (r_fieldAddr (o' := 7) fb54_7 (by decide) rfl rfl) ?_
   refine a_storeS (v := .int _ _) (cs' := [_, _, _, _, _, _, _, _, _, _, _, _, _, _, _]) sz48 M rfl rfl rfl (k := 2) (j := 0) rfl rfl rfl rfl rfl rfl ?_
   intro w M
   first | replace M := M.nf (L' := [[(_, _)], [(_, _)], [(_, _)]]) rfl | skip
   refine s_val (r_fieldAddr (o' := 8) fb54_8 (by decide) rfl rfl) ?_
   refine a_storeS (v := .int _ _) (cs' := [_, _, _, _, _, _, _, _, _, _, _, _, _, _, _]) sz49 M rfl rfl rfl (k := 2) (j := 0) rfl rfl rfl rfl rfl rfl ?_
   intro w M
   first | replace M := M.nf (L' := [[(_, _)], [(_, _)], [(_, _)]]) rfl | skip
   refine s_val (r_fieldAddr (o' := 9) fb54_9 (by decide) rfl rfl) ?_
   refine a_storeS (v := .int _ _) (cs' := [_, _, _, _, _, _, _, _, _, _, _, _, _, _, _]) sz5 M rfl rfl rfl (k := 2) (j := 0) rfl rfl rfl rfl rfl rfl ?_
   intro w M
   first | replace M := M.nf (L' := [[(_, _)], [(_, _)], [(_, _)]]) rfl | skip
   refine s_nil (e_then (c_seq (c_seq (c_region ?_))))
   refine s_val (r_fieldAddr (o' := 12) fb73_12 (by decide) rfl rfl) ?_
   refine s_val (r_indexAddrA (o' := 12) Try.underlying55 sz5 rfl rfl (by omega) (by omega) rfl) ?_
   refine a_load1 (v := .int _ _) Try.underlying5 rfl M rfl (k := 0) (j := 0) rfl rfl rfl ?_
   first | (refine s_val (r_rem rfl rfl (by omega) (Int.tmod_eq_emod_of_nonneg (by omega))) ?_) | (refine s_val (r_rem rfl rfl (by omega) rfl) ?_)
   refine s_val (r_eql rfl rfl) ?_
   refine s_nil (e_then ?_)
   refine c_if rfl (fun h48 => ?_) (fun h48 => ?_)
   ·
    refine c_seq (c_region ?_)
    refine s_val (r_fieldAddr (o' := 12) fb73_12 (by decide) rfl rfl) ?_
    refine s_val (r_indexAddrA (o' := 12) Try.underlying55 sz5 rfl rfl (by omega) (by omega) rfl) ?_
    refine a_load1 (v := .int _ _) Try.underlying5 rfl M rfl (k := 0) (j := 0) rfl rfl rfl ?_
    first | (refine s_val (r_quo rfl rfl (by omega) (q8 (by omega) (by omega) (by omega))) ?_) | (refine s_val (r_quo rfl rfl (by omega) rfl) ?_)
    first | (refine s_val (r_rem rfl rfl (by omega) (Int.tmod_eq_emod_of_nonneg (by omega))) ?_) | (refine s_val (r_rem rfl rfl (by omega) rfl) ?_)
    first | (refine s_val (r_conv Try.underlying5 Try.underlying3 rfl (w64 (by omega) (by omega))) ?_) | (refine s_val (r_conv Try.underlying5 Try.underlying3 rfl rfl) ?_)
    refine s_val (r_fieldAddr (o' := 12) fb73_12 (by decide) rfl rfl) ?_
    refine s_val (r_indexAddrA (o' := 13) Try.underlying55 sz5 rfl rfl (by omega) (by omega) rfl) ?_
    refine a_load1 (v := .int _ _) Try.underlying5 rfl M rfl (k := 0) (j := 0) rfl rfl rfl ?_
    first | (refine s_val (r_rem rfl rfl (by omega) (Int.tmod_eq_emod_of_nonneg (by omega))) ?_) | (refine s_val (r_rem rfl rfl (by omega) rfl) ?_)
    first | (refine s_val (r_conv Try.underlying5 Try.underlying3 rfl (w64 (by omega) (by omega))) ?_) | (refine s_val (r_conv Try.underlying5 Try.underlying3 rfl rfl) ?_)
    refine s_val (r_buildAS (cs := [_, _, _, _]) zr30 cells_agg Try.underlying30 sz3 (ps := [(0, .int _ _), (1, .int _ _), (2, .int _ _), (3, .int _ _)]) (qs := [(0, [_]), (1, [_]), (2, [_]), (3, [_])]) rfl ⟨rfl, rfl, rfl, rfl, rfl, rfl, rfl, rfl, rfl, rfl, rfl, rfl, trivial⟩ rfl) ?_
    refine a_alloc zr30 cells_agg M ?_
    intro b4 w M
    first | replace M := M.nf (L' := [[(_, _)], [(_, _)], [(_, _)], [(_, _)]]) rfl | skip
    refine a_storeS (v := .agg _) (cs' := [_, _, _, _]) sz30 M rfl rfl cells_agg (k := 3) (j := 0) rfl rfl rfl rfl rfl rfl ?_
    intro w M
    first | replace M := M.nf (L' := [[(_, _)], [(_, _)], [(_, _)], [(_, _)]]) rfl | skip
    refine s_nil (e_then (c_region ?_))
    refine s_val (r_indexAddrA (o' := 0) Try.underlying30 sz3 rfl rfl (by omega) (by omega) rfl) ?_
    refine a_load1 (v := .int _ _) Try.underlying3 rfl M rfl (k := 3) (j := 0) rfl rfl rfl ?_
    refine s_val (r_indexAddrA (o' := 1) Try.underlying30 sz3 rfl rfl (by omega) (by omega) rfl) ?_
    refine a_load1 (v := .int _ _) Try.underlying3 rfl M rfl (k := 3) (j := 0) rfl rfl rfl ?_
    refine s_val (r_indexAddrA (o' := 0) Try.underlying30 sz3 rfl rfl (by omega) (by omega) rfl) ?_
    refine a_load1 (v := .int _ _) Try.underlying3 rfl M rfl (k := 3) (j := 0) rfl rfl rfl ?_
    refine s_val (r_fieldAddr (o' := 12) fb73_12 (by decide) rfl rfl) ?_
    refine s_val (r_indexAddrA (o' := 14) Try.underlying55 sz5 rfl rfl (by omega) (by omega) rfl) ?_
    refine a_load1 (v := .int _ _) Try.underlying5 rfl M rfl (k := 0) (j := 0) rfl rfl rfl ?_
    first | (refine s_val (r_rem rfl rfl (by omega) (Int.tmod_eq_emod_of_nonneg (by omega))) ?_) | (refine s_val (r_rem rfl rfl (by omega) rfl) ?_)
    first | (refine s_val (r_conv Try.underlying5 Try.underlying3 rfl (w64 (by omega) (by omega))) ?_) | (refine s_val (r_conv Try.underlying5 Try.underlying3 rfl rfl) ?_)
    first | (refine s_val (r_add rfl rfl (w64 (by omega) (by omega))) ?_) | (refine s_val (r_add rfl rfl rfl) ?_)
    refine s_val (r_indexAddrA (o' := 1) Try.underlying30 sz3 rfl rfl (by omega) (by omega) rfl) ?_
    refine a_load1 (v := .int _ _) Try.underlying3 rfl M rfl (k := 3) (j := 0) rfl rfl rfl ?_
    refine s_val (r_fieldAddr (o' := 12) fb73_12 (by decide) rfl rfl) ?_
    refine s_val (r_indexAddrA (o' := 15) Try.underlying55 sz5 rfl rfl (by omega) (by omega) rfl) ?_
    refine a_load1 (v := .int _ _) Try.underlying5 rfl M rfl (k := 0) (j := 0) rfl rfl rfl ?_
    first | (refine s_val (r_rem rfl rfl (by omega) (Int.tmod_eq_emod_of_nonneg (by omega))) ?_) | (refine s_val (r_rem rfl rfl (by omega) rfl) ?_)
    first | (refine s_val (r_conv Try.underlying5 Try.underlying3 rfl (w64 (by omega) (by omega))) ?_) | (refine s_val (r_conv Try.underlying5 Try.underlying3 rfl rfl) ?_)
    first | (refine s_val (r_add rfl rfl (w64 (by omega) (by omega))) ?_) | (refine s_val (r_add rfl rfl rfl) ?_)
    refine s_val (r_buildS (cs := [_, _, _, _]) zr52 cells_agg pl52 (ps := [(0, .int _ _), (1, .int _ _), (2, .int _ _), (3, .int _ _)]) (qs := [(0, [_]), (1, [_]), (2, [_]), (3, [_])]) rfl ⟨rfl, rfl, rfl, rfl, rfl, rfl, rfl, rfl, rfl, rfl, rfl, rfl, trivial⟩ rfl) ?_
    refine s_val (r_fieldAddr (o' := 11) fb54_11 (by decide) rfl rfl) ?_
    refine a_storeS (v := .agg _) (cs' := [_, _, _, _, _, _, _, _, _, _, _, _, _, _, _]) sz52 M rfl rfl cells_agg (k := 2) (j := 0) rfl rfl rfl rfl rfl rfl ?_
    intro w M
    first | replace M := M.nf (L' := [[(_, _)], [(_, _)], [(_, _)], [(_, _)]]) rfl | skip
    refine s_nil (e_then (c_seq (c_region ?_)))
    refine a_loadA Try.underlying54 rfl sz54 M rfl (k := 2) (j := 0) rfl rfl rfl ?_
    refine a_storeS (v := .agg _) (cs' := [_, _, _, _, _, _, _, _, _, _, _, _, _, _, _]) sz54 M rfl rfl cells_agg (k := 1) (j := 0) rfl rfl rfl rfl rfl rfl ?_
    intro w M
    first | replace M := M.nf (L' := [[(_, _)], [(_, _)], [(_, _)], [(_, _)]]) rfl | skip
    refine s_nil (e_then (c_ret ?_))
    refine ret_run (res_c rfl rfl (run_loadVarN Try.underlying54 rfl sz54 rfl (M.cellsA (k := 1) (j := 0) rfl rfl))) ?_
    refine ⟨congrArg (fun l : List Value => Ending.returned (.agg l.toArray)) (?_ : _ = stt (sttOf x)), M.keep⟩
    simp only [stt, sttOf, h38, h48, if_true, Bool.false_eq_true, if_false]
    try rfl
   ·
    refine c_skip (e_then (c_seq (c_region ?_)))
    refine a_loadA Try.underlying54 rfl sz54 M rfl (k := 2) (j := 0) rfl rfl rfl ?_
    refine a_storeS (v := .agg _) (cs' := [_, _, _, _, _, _, _, _, _, _, _, _, _, _, _]) sz54 M rfl rfl cells_agg (k := 1) (j := 0) rfl rfl rfl rfl rfl rfl ?_
    intro w M
    first | replace M := M.nf (L' := [[(_, _)], [(_, _)], [(_, _)]]) rfl | skip
    refine s_nil (e_then (c_ret ?_))
    refine ret_run (res_c rfl rfl (run_loadVarN Try.underlying54 rfl sz54 rfl (M.cellsA (k := 1) (j := 0) rfl rfl))) ?_
    refine ⟨congrArg (fun l : List Value => Ending.returned (.agg l.toArray)) (?_ : _ = stt (sttOf x)), M.keep⟩
    simp only [stt, sttOf, h38, h48, if_true, Bool.false_eq_true, if_false]
    try rfl
  ·
   refine c_skip (e_then (c_seq (c_seq (c_region ?_))))
   refine s_val (r_fieldAddr (o' := 12) fb73_12 (by decide) rfl rfl) ?_
   refine s_val (r_indexAddrA (o' := 12) Try.underlying55 sz5 rfl rfl (by omega) (by omega) rfl) ?_
   refine a_load1 (v := .int _ _) Try.underlying5 rfl M rfl (k := 0) (j := 0) rfl rfl rfl ?_
   first | (refine s_val (r_rem rfl rfl (by omega) (Int.tmod_eq_emod_of_nonneg (by omega))) ?_) | (refine s_val (r_rem rfl rfl (by omega) rfl) ?_)
   refine s_val (r_eql rfl rfl) ?_
   refine s_nil (e_then ?_)
   refine c_if rfl (fun h48 => ?_) (fun h48 => ?_)
   ·
    refine c_seq (c_region ?_)
    refine s_val (r_fieldAddr (o' := 12) fb73_12 (by decide) rfl rfl) ?_
    refine s_val (r_indexAddrA (o' := 12) Try.underlying55 sz5 rfl rfl (by omega) (by omega) rfl) ?_
    refine a_load1 (v := .int _ _) Try.underlying5 rfl M rfl (k := 0) (j := 0) rfl rfl rfl ?_
    first | (refine s_val (r_quo rfl rfl (by omega) (q8 (by omega) (by omega) (by omega))) ?_) | (refine s_val (r_quo rfl rfl (by omega) rfl) ?_)
    first | (refine s_val (r_rem rfl rfl (by omega) (Int.tmod_eq_emod_of_nonneg (by omega))) ?_) | (refine s_val (r_rem rfl rfl (by omega) rfl) ?_)
    first | (refine s_val (r_conv Try.underlying5 Try.underlying3 rfl (w64 (by omega) (by omega))) ?_) | (refine s_val (r_conv Try.underlying5 Try.underlying3 rfl rfl) ?_)
    refine s_val (r_fieldAddr (o' := 12) fb73_12 (by decide) rfl rfl) ?_
    refine s_val (r_indexAddrA (o' := 13) Try.underlying55 sz5 rfl rfl (by omega) (by omega) rfl) ?_
    refine a_load1 (v := .int _ _) Try.underlying5 rfl M rfl (k := 0) (j := 0) rfl rfl rfl ?_
    first | (refine s_val (r_rem rfl rfl (by omega) (Int.tmod_eq_emod_of_nonneg (by omega))) ?_) | (refine s_val (r_rem rfl rfl (by omega) rfl) ?_)
    first | (refine s_val (r_conv Try.underlying5 Try.underlying3 rfl (w64 (by omega) (by omega))) ?_) | (refine s_val (r_conv Try.underlying5 Try.underlying3 rfl rfl) ?_)
    refine s_val (r_buildAS (cs := [_, _, _, _]) zr30 cells_agg Try.underlying30 sz3 (ps := [(0, .int _ _), (1, .int _ _), (2, .int _ _), (3, .int _ _)]) (qs := [(0, [_]), (1, [_]), (2, [_]), (3, [_])]) rfl ⟨rfl, rfl, rfl, rfl, rfl, rfl, rfl, rfl, rfl, rfl, rfl, rfl, trivial⟩ rfl) ?_
    refine a_alloc zr30 cells_agg M ?_
    intro b4 w M
    first | replace M := M.nf (L' := [[(_, _)], [(_, _)], [(_, _)], [(_, _)]]) rfl | skip
    refine a_storeS (v := .agg _) (cs' := [_, _, _, _]) sz30 M rfl rfl cells_agg (k := 3) (j := 0) rfl rfl rfl rfl rfl rfl ?_
    intro w M
    first | replace M := M.nf (L' := [[(_, _)], [(_, _)], [(_, _)], [(_, _)]]) rfl | skip
    refine s_nil (e_then (c_region ?_))
    refine s_val (r_indexAddrA (o' := 0) Try.underlying30 sz3 rfl rfl (by omega) (by omega) rfl) ?_
    refine a_load1 (v := .int _ _) Try.underlying3 rfl M rfl (k := 3) (j := 0) rfl rfl rfl ?_
    refine s_val (r_indexAddrA (o' := 1) Try.underlying30 sz3 rfl rfl (by omega) (by omega) rfl) ?_
    refine a_load1 (v := .int _ _) Try.underlying3 rfl M rfl (k := 3) (j := 0) rfl rfl rfl ?_
    refine s_val (r_indexAddrA (o' := 0) Try.underlying30 sz3 rfl rfl (by omega) (by omega) rfl) ?_
    refine a_load1 (v := .int _ _) Try.underlying3 rfl M rfl (k := 3) (j := 0) rfl rfl rfl ?_
    refine s_val (r_fieldAddr (o' := 12) fb73_12 (by decide) rfl rfl) ?_
    refine s_val (r_indexAddrA (o' := 14) Try.underlying55 sz5 rfl rfl (by omega) (by omega) rfl) ?_
    refine a_load1 (v := .int _ _) Try.underlying5 rfl M rfl (k := 0) (j := 0) rfl rfl rfl ?_
    first | (refine s_val (r_rem rfl rfl (by omega) (Int.tmod_eq_emod_of_nonneg (by omega))) ?_) | (refine s_val (r_rem rfl rfl (by omega) rfl) ?_)
    first | (refine s_val (r_conv Try.underlying5 Try.underlying3 rfl (w64 (by omega) (by omega))) ?_) | (refine s_val (r_conv Try.underlying5 Try.underlying3 rfl rfl) ?_)
    first | (refine s_val (r_add rfl rfl (w64 (by omega) (by omega))) ?_) | (refine s_val (r_add rfl rfl rfl) ?_)
    refine s_val (r_indexAddrA (o' := 1) Try.underlying30 sz3 rfl rfl (by omega) (by omega) rfl) ?_
    refine a_load1 (v := .int _ _) Try.underlying3 rfl M rfl (k := 3) (j := 0) rfl rfl rfl ?_
    refine s_val (r_fieldAddr (o' := 12) fb73_12 (by decide) rfl rfl) ?_
    refine s_val (r_indexAddrA (o' := 15) Try.underlying55 sz5 rfl rfl (by omega) (by omega) rfl) ?_
    refine a_load1 (v := .int _ _) Try.underlying5 rfl M rfl (k := 0) (j := 0) rfl rfl rfl ?_
    first | (refine s_val (r_rem rfl rfl (by omega) (Int.tmod_eq_emod_of_nonneg (by omega))) ?_) | (refine s_val (r_rem rfl rfl (by omega) rfl) ?_)
    first | (refine s_val (r_conv Try.underlying5 Try.underlying3 rfl (w64 (by omega) (by omega))) ?_) | (refine s_val (r_conv Try.underlying5 Try.underlying3 rfl rfl) ?_)
    first | (refine s_val (r_add rfl rfl (w64 (by omega) (by omega))) ?_) | (refine s_val (r_add rfl rfl rfl) ?_)
    refine s_val (r_buildS (cs := [_, _, _, _]) zr52 cells_agg pl52 (ps := [(0, .int _ _), (1, .int _ _), (2, .int _ _), (3, .int _ _)]) (qs := [(0, [_]), (1, [_]), (2, [_]), (3, [_])]) rfl ⟨rfl, rfl, rfl, rfl, rfl, rfl, rfl, rfl, rfl, rfl, rfl, rfl, trivial⟩ rfl) ?_
    refine s_val (r_fieldAddr (o' := 11) fb54_11 (by decide) rfl rfl) ?_
    refine a_storeS (v := .agg _) (cs' := [_, _, _, _, _, _, _, _, _, _, _, _, _, _, _]) sz52 M rfl rfl cells_agg (k := 2) (j := 0) rfl rfl rfl rfl rfl rfl ?_
    intro w M
    first | replace M := M.nf (L' := [[(_, _)], [(_, _)], [(_, _)], [(_, _)]]) rfl | skip
    refine s_nil (e_then (c_seq (c_region ?_)))
    refine a_loadA Try.underlying54 rfl sz54 M rfl (k := 2) (j := 0) rfl rfl rfl ?_
    refine a_storeS (v := .agg _) (cs' := [_, _, _, _, _, _, _, _, _, _, _, _, _, _, _]) sz54 M rfl rfl cells_agg (k := 1) (j := 0) rfl rfl rfl rfl rfl rfl ?_
    intro w M
    first | replace M := M.nf (L' := [[(_, _)], [(_, _)], [(_, _)], [(_, _)]]) rfl | skip
    refine s_nil (e_then (c_ret ?_))
    refine ret_run (res_c rfl rfl (run_loadVarN Try.underlying54 rfl sz54 rfl (M.cellsA (k := 1) (j := 0) rfl rfl))) ?_
    refine ⟨congrArg (fun l : List Value => Ending.returned (.agg l.toArray)) (?_ : _ = stt (sttOf x)), M.keep⟩
    simp only [stt, sttOf, h38, h48, if_true, Bool.false_eq_true, if_false]
    try rfl
   ·
    refine c_skip (e_then (c_seq (c_region ?_)))
    refine a_loadA Try.underlying54 rfl sz54 M rfl (k := 2) (j := 0) rfl rfl rfl ?_
    refine a_storeS (v := .agg _) (cs' := [_, _, _, _, _, _, _, _, _, _, _, _, _, _, _]) sz54 M rfl rfl cells_agg (k := 1) (j := 0) rfl rfl rfl rfl rfl rfl ?_
    intro w M
    first | replace M := M.nf (L' := [[(_, _)], [(_, _)], [(_, _)]]) rfl | skip
    refine s_nil (e_then (c_ret ?_))
    refine ret_run (res_c rfl rfl (run_loadVarN Try.underlying54 rfl sz54 rfl (M.cellsA (k := 1) (j := 0) rfl rfl))) ?_
    refine ⟨congrArg (fun l : List Value => Ending.returned (.agg l.toArray)) (?_ : _ = stt (sttOf x)), M.keep⟩
    simp only [stt, sttOf, h38, h48, if_true, Bool.false_eq_true, if_false]
    try rfl

theorem vertexOf (x : SVtx) (hx : x.wf) (w0 : World) :
    Calls Try.prog 12 #[.agg (svtx x).toArray] w0 fun e w' => e = .returned (.agg (vtx (vtxOf x)).toArray) ∧ Keep [] w0 w' := by
  obtain ⟨⟨⟨x1, x2⟩, ⟨y1, y2⟩, ⟨z1, z2⟩, ⟨w1, w2⟩⟩, ⟨a1, a2⟩, ⟨b1, b2⟩, ⟨c1, c2⟩, ⟨d1, d2⟩⟩ := hx
  have M := St.nil w0
  refine calls_of 47 Try.func12 rfl rfl rfl ?_
  refine c_seq (c_region ?_)
  refine a_box (v := .agg _) rfl cells_agg M ?_
  intro b1 w M
  first | replace M := M.nf (L' := [[(_, _)]]) rfl | skip
  refine a_alloc zr41 cells_agg M ?_
  intro b2 w M
  first | replace M := M.nf (L' := [[(_, _)], [(_, _)]]) rfl | skip
  refine s_nil (e_then (c_seq (c_region ?_)))
  refine s_val (r_fieldAddr (o' := 3) fb79_3 (by decide) rfl rfl) ?_
  refine a_load1 (v := .int _ _) Try.underlying22 rfl M rfl (k := 0) (j := 0) rfl rfl rfl ?_
  first | (refine s_val (r_conv Try.underlying22 Try.underlying3 rfl (w64 (by omega) (by omega))) ?_) | (refine s_val (r_conv Try.underlying22 Try.underlying3 rfl rfl) ?_)
  first | (refine s_val (r_add rfl rfl (w64 (by omega) (by omega))) ?_) | (refine s_val (r_add rfl rfl rfl) ?_)
  refine s_val (r_assign (v := .int _ _) rfl) ?_
  refine s_nil (e_then (c_seq (c_seq (c_region ?_))))
  refine s_val (r_fieldAddr (o' := 8) fb79_5 (by decide) rfl rfl) ?_
  refine a_load1 (v := .bool _) Try.underlying4 rfl M rfl (k := 0) (j := 0) rfl rfl rfl ?_
  refine s_nil (e_then ?_)
  refine c_cond rfl (fun h12 => ?_) (fun h12 => ?_)
  ·
   refine c_region ?_
   refine s_val (r_fieldAddr (o' := 3) fb79_3 (by decide) rfl rfl) ?_
   refine a_load1 (v := .int _ _) Try.underlying22 rfl M rfl (k := 0) (j := 0) rfl rfl rfl ?_
   first | (refine s_val (r_conv Try.underlying22 Try.underlying3 rfl (w64 (by omega) (by omega))) ?_) | (refine s_val (r_conv Try.underlying22 Try.underlying3 rfl rfl) ?_)
   first | (refine s_val (r_mul rfl rfl (w64 (by omega) (by omega))) ?_) | (refine s_val (r_mul rfl rfl rfl) ?_)
   refine s_val (r_assign (v := .int _ _) rfl) ?_
   refine s_nil (e_then (c_seq (c_region ?_)))
   refine s_val (r_fieldAddr (o' := 0) fb79_0 (by decide) rfl rfl) ?_
   refine a_load1 (v := .int _ _) Try.underlying22 rfl M rfl (k := 0) (j := 0) rfl rfl rfl ?_
   first | (refine s_val (r_conv Try.underlying22 Try.underlying3 rfl (w64 (by omega) (by omega))) ?_) | (refine s_val (r_conv Try.underlying22 Try.underlying3 rfl rfl) ?_)
   first | (refine s_val (r_mul rfl rfl (w64 (by omega) (by omega))) ?_) | (refine s_val (r_mul rfl rfl rfl) ?_)
   refine s_val (r_fieldAddr (o' := 1) fb79_1 (by decide) rfl rfl) ?_
   refine a_load1 (v := .int _ _) Try.underlying22 rfl M rfl (k := 0) (j := 0) rfl rfl rfl ?_
   first | (refine s_val (r_conv Try.underlying22 Try.underlying3 rfl (w64 (by omega) (by omega))) ?_) | (refine s_val (r_conv Try.underlying22 Try.underlying3 rfl rfl) ?_)
   first | (refine s_val (r_mul rfl rfl (w64 (by omega) (by omega))) ?_) | (refine s_val (r_mul rfl rfl rfl) ?_)
   refine s_val (r_fieldAddr (o' := 2) fb79_2 (by decide) rfl rfl) ?_
   refine a_load1 (v := .int _ _) Try.underlying22 rfl M rfl (k := 0) (j := 0) rfl rfl rfl ?_
   first | (refine s_val (r_conv Try.underlying22 Try.underlying3 rfl (w64 (by omega) (by omega))) ?_) | (refine s_val (r_conv Try.underlying22 Try.underlying3 rfl rfl) ?_)
   first | (refine s_val (r_mul rfl rfl (w64 (by omega) (by omega))) ?_) | (refine s_val (r_mul rfl rfl rfl) ?_)
   refine s_val (r_max2 rfl rfl) ?_
   refine s_val (r_move (v := .int _ _) rfl) ?_
   refine s_val (r_buildAS (cs := [_, _, _, _]) zr31 cells_agg Try.underlying31 sz3 (ps := [(0, .int _ _), (1, .int _ _), (2, .int _ _), (3, .int _ _)]) (qs := [(0, [_]), (1, [_]), (2, [_]), (3, [_])]) rfl ⟨rfl, rfl, rfl, rfl, rfl, rfl, rfl, rfl, rfl, rfl, rfl, rfl, trivial⟩ rfl) ?_
   refine s_val (r_buildS (cs := [_, _, _, _, _, _, _, _]) zr41 cells_agg pl41 (ps := [(0, .agg _)]) (qs := [(0, [_, _, _, _])]) rfl ⟨cells_agg, rfl, rfl, trivial⟩ rfl) ?_
   refine a_alloc zr41 cells_agg M ?_
   intro b4 w M
   first | replace M := M.nf (L' := [[(_, _)], [(_, _)], [(_, _)]]) rfl | skip
   refine a_storeS (v := .agg _) (cs' := [_, _, _, _, _, _, _, _]) sz41 M rfl rfl cells_agg (k := 2) (j := 0) rfl rfl rfl rfl rfl rfl ?_
   intro w M
   first | replace M := M.nf (L' := [[(_, _)], [(_, _)], [(_, _)]]) rfl | skip
   refine s_nil (e_then (c_seq (c_seq (c_region ?_))))
   refine s_val (r_fieldAddr (o' := 4) fb79_4 (by decide) rfl rfl) ?_
   refine a_loadN (vs := [_, _, _, _]) Try.underlying55 rfl sz55 M rfl (k := 0) (j := 0) rfl rfl rfl rfl ?_
   refine s_val (r_move (v := .int _ _) rfl) ?_
   refine s_nil (e_then (c_block ?_))
   refine c_rounds 5 ?_
   refine c_round (c_seq (c_region ?_))
   refine s_val (r_lss rfl rfl) ?_
   refine s_nil (e_then (c_seq ?_))
   refine c_yes rfl (by decide) ?_
   refine c_skip (e_then (c_seq (c_block (c_seq (c_region ?_)))))
   refine s_val (r_move (v := .int _ _) rfl) ?_
   refine s_val (r_index1 Try.underlying55 Try.underlying5 rfl sz5 rfl rfl (by omega) (by omega) rfl) ?_
   refine s_val (r_assign (v := .int _ _) rfl) ?_
   refine s_val (r_assign (v := .int _ _) rfl) ?_
   refine s_nil (e_then (c_region ?_))
   refine s_val (r_move (v := .int _ _) rfl) ?_
   refine s_val (r_move (v := .int _ _) rfl) ?_
   first | (refine s_val (r_conv Try.underlying5 Try.underlying3 rfl (w64 (by omega) (by omega))) ?_) | (refine s_val (r_conv Try.underlying5 Try.underlying3 rfl rfl) ?_)
   first | (refine s_val (r_mul rfl rfl (w64 (by omega) (by omega))) ?_) | (refine s_val (r_mul rfl rfl rfl) ?_)
   refine s_val (r_fieldAddr (o' := 4) fb41_1 (by decide) rfl rfl) ?_
   refine s_val (r_indexAddrA (o' := 4) Try.underlying31 sz3 rfl rfl (by omega) (by omega) rfl) ?_
   refine a_storeS (v := .int _ _) (cs' := [_, _, _, _, _, _, _, _]) sz3 M rfl rfl rfl (k := 2) (j := 0) rfl rfl rfl rfl rfl rfl ?_
   intro w M
   first | replace M := M.nf (L' := [[(_, _)], [(_, _)], [(_, _)]]) rfl | skip
   refine s_nil (e_blk (e_then (c_region ?_)))
   refine s_val (r_add (n := 1) rfl rfl (by decide)) ?_
   refine s_val (r_move (v := .int _ _) rfl) ?_
   refine s_nil (e_then (c_round (c_seq (c_region ?_))))
   refine s_val (r_lss rfl rfl) ?_
   refine s_nil (e_then (c_seq ?_))
   refine c_yes rfl (by decide) ?_
   refine c_skip (e_then (c_seq (c_block (c_seq (c_region ?_)))))
   refine s_val (r_move (v := .int _ _) rfl) ?_
   refine s_val (r_index1 Try.underlying55 Try.underlying5 rfl sz5 rfl rfl (by omega) (by omega) rfl) ?_
   refine s_val (r_assign (v := .int _ _) rfl) ?_
   refine s_val (r_assign (v := .int _ _) rfl) ?_
   refine s_nil (e_then (c_region ?_))
   refine s_val (r_move (v := .int _ _) rfl) ?_
   refine s_val (r_move (v := .int _ _) rfl) ?_
   first | (refine s_val (r_conv Try.underlying5 Try.underlying3 rfl (w64 (by omega) (by omega))) ?_) | (refine s_val (r_conv Try.underlying5 Try.underlying3 rfl rfl) ?_)
   first | (refine s_val (r_mul rfl rfl (w64 (by omega) (by omega))) ?_) | (refine s_val (r_mul rfl rfl rfl) ?_)
   refine s_val (r_fieldAddr (o' := 4) fb41_1 (by decide) rfl rfl) ?_
   refine s_val (r_indexAddrA (o' := 5) Try.underlying31 sz3 rfl rfl (by omega) (by omega) rfl) ?_
   refine a_storeS (v := .int _ _) (cs' := [_, _, _, _, _, _, _, _]) sz3 M rfl rfl rfl (k := 2) (j := 0) rfl rfl rfl rfl rfl rfl ?_
   intro w M
   first | replace M := M.nf (L' := [[(_, _)], [(_, _)], [(_, _)]]) rfl | skip
   refine s_nil (e_blk (e_then (c_region ?_)))
   refine s_val (r_add (n := 2) rfl rfl (by decide)) ?_
   refine s_val (r_move (v := .int _ _) rfl) ?_
   refine s_nil (e_then (c_round (c_seq (c_region ?_))))
   refine s_val (r_lss rfl rfl) ?_
   refine s_nil (e_then (c_seq ?_))
   refine c_yes rfl (by decide) ?_
   refine c_skip (e_then (c_seq (c_block (c_seq (c_region ?_)))))
   refine s_val (r_move (v := .int _ _) rfl) ?_
   refine s_val (r_index1 Try.underlying55 Try.underlying5 rfl sz5 rfl rfl (by omega) (by omega) rfl) ?_
   refine s_val (r_assign (v := .int _ _) rfl) ?_
   refine s_val (r_assign (v := .int _ _) rfl) ?_
   refine s_nil (e_then (c_region ?_))
   refine s_val (r_move (v := .int _ _) rfl) ?_
   refine s_val (r_move (v := .int _ _) rfl) ?_
   first | (refine s_val (r_conv Try.underlying5 Try.underlying3 rfl (w64 (by omega) (by omega))) ?_) | (refine s_val (r_conv Try.underlying5 Try.underlying3 rfl rfl) ?_)
   first | (refine s_val (r_mul rfl rfl (w64 (by omega) (by omega))) ?_) | (refine s_val (r_mul rfl rfl rfl) ?_)
   refine s_val (r_fieldAddr (o' := 4) fb41_1 (by decide) rfl rfl) ?_
   refine s_val (r_indexAddrA (o' := 6) Try.underlying31 sz3 rfl rfl (by omega) (by omega) rfl) ?_
   refine a_storeS (v := .int _ _) (cs' := [_, _, _, _, _, _, _, _]) sz3 M rfl rfl rfl (k := 2) (j := 0) rfl rfl rfl rfl rfl rfl ?_
   intro w M
   first | replace M := M.nf (L' := [[(_, _)], [(_, _)], [(_, _)]]) rfl | skip
   refine s_nil (e_blk (e_then (c_region ?_)))
   refine s_val (r_add (n := 3) rfl rfl (by decide)) ?_
   refine s_val (r_move (v := .int _ _) rfl) ?_
   refine s_nil (e_then (c_round (c_seq (c_region ?_))))
   refine s_val (r_lss rfl rfl) ?_
   refine s_nil (e_then (c_seq ?_))
   refine c_yes rfl (by decide) ?_
   refine c_skip (e_then (c_seq (c_block (c_seq (c_region ?_)))))
   refine s_val (r_move (v := .int _ _) rfl) ?_
   refine s_val (r_index1 Try.underlying55 Try.underlying5 rfl sz5 rfl rfl (by omega) (by omega) rfl) ?_
   refine s_val (r_assign (v := .int _ _) rfl) ?_
   refine s_val (r_assign (v := .int _ _) rfl) ?_
   refine s_nil (e_then (c_region ?_))
   refine s_val (r_move (v := .int _ _) rfl) ?_
   refine s_val (r_move (v := .int _ _) rfl) ?_
   first | (refine s_val (r_conv Try.underlying5 Try.underlying3 rfl (w64 (by omega) (by omega))) ?_) | (refine s_val (r_conv Try.underlying5 Try.underlying3 rfl rfl) ?_)
   first | (refine s_val (r_mul rfl rfl (w64 (by omega) (by omega))) ?_) | (refine s_val (r_mul rfl rfl rfl) ?_)
   refine s_val (r_fieldAddr (o' := 4) fb41_1 (by decide) rfl rfl) ?_
   refine s_val (r_indexAddrA (o' := 7) Try.underlying31 sz3 rfl rfl (by omega) (by omega) rfl) ?_
   refine a_storeS (v := .int _ _) (cs' := [_, _, _, _, _, _, _, _]) sz3 M rfl rfl rfl (k := 2) (j := 0) rfl rfl rfl rfl rfl rfl ?_
   intro w M
   first | replace M := M.nf (L' := [[(_, _)], [(_, _)], [(_, _)]]) rfl | skip
   refine s_nil (e_blk (e_then (c_region ?_)))
   refine s_val (r_add (n := 4) rfl rfl (by decide)) ?_
   refine s_val (r_move (v := .int _ _) rfl) ?_
   refine s_nil (e_then (c_round (c_seq (c_region ?_))))
   refine s_val (r_lss rfl rfl) ?_
   refine s_nil (e_then (c_seq ?_))
   refine c_no rfl (by decide) ?_
   refine c_exit (e_then_exit (e_then_exit (e_blk_here (e_then (c_seq (c_region ?_))))))
   refine a_loadA Try.underlying41 rfl sz41 M rfl (k := 2) (j := 0) rfl rfl rfl ?_
   refine a_storeS (v := .agg _) (cs' := [_, _, _, _, _, _, _, _]) sz41 M rfl rfl cells_agg (k := 1) (j := 0) rfl rfl rfl rfl rfl rfl ?_
   intro w M
   first | replace M := M.nf (L' := [[(_, _)], [(_, _)], [(_, _)]]) rfl | skip
   refine s_nil (e_then (c_ret ?_))
   refine ret_run (res_c rfl rfl (run_loadVarN Try.underlying41 rfl sz41 rfl (M.cellsA (k := 1) (j := 0) rfl rfl))) ?_
   refine ⟨congrArg (fun l : List Value => Ending.returned (.agg l.toArray)) (?_ : _ = vtx (vtxOf x)), M.keep⟩
   simp only [vtx, vtxOf, h12, if_true, Bool.false_eq_true, if_false]
   try rfl
  ·
   refine c_skip (e_then (c_seq (c_region ?_)))
   refine s_val (r_fieldAddr (o' := 0) fb79_0 (by decide) rfl rfl) ?_
   refine a_load1 (v := .int _ _) Try.underlying22 rfl M rfl (k := 0) (j := 0) rfl rfl rfl ?_
   first | (refine s_val (r_conv Try.underlying22 Try.underlying3 rfl (w64 (by omega) (by omega))) ?_) | (refine s_val (r_conv Try.underlying22 Try.underlying3 rfl rfl) ?_)
   first | (refine s_val (r_mul rfl rfl (w64 (by omega) (by omega))) ?_) | (refine s_val (r_mul rfl rfl rfl) ?_)
   refine s_val (r_fieldAddr (o' := 1) fb79_1 (by decide) rfl rfl) ?_
   refine a_load1 (v := .int _ _) Try.underlying22 rfl M rfl (k := 0) (j := 0) rfl rfl rfl ?_
   first | (refine s_val (r_conv Try.underlying22 Try.underlying3 rfl (w64 (by omega) (by omega))) ?_) | (refine s_val (r_conv Try.underlying22 Try.underlying3 rfl rfl) ?_)
   first | (refine s_val (r_mul rfl rfl (w64 (by omega) (by omega))) ?_) | (refine s_val (r_mul rfl rfl rfl) ?_)
   refine s_val (r_fieldAddr (o' := 2) fb79_2 (by decide) rfl rfl) ?_
   refine a_load1 (v := .int _ _) Try.underlying22 rfl M rfl (k := 0) (j := 0) rfl rfl rfl ?_
   first | (refine s_val (r_conv Try.underlying22 Try.underlying3 rfl (w64 (by omega) (by omega))) ?_) | (refine s_val (r_conv Try.underlying22 Try.underlying3 rfl rfl) ?_)
   first | (refine s_val (r_mul rfl rfl (w64 (by omega) (by omega))) ?_) | (refine s_val (r_mul rfl rfl rfl) ?_)
   refine s_val (r_max2 rfl rfl) ?_
   refine s_val (r_move (v := .int _ _) rfl) ?_
   refine s_val (r_buildAS (cs := [_, _, _, _]) zr31 cells_agg Try.underlying31 sz3 (ps := [(0, .int _ _), (1, .int _ _), (2, .int _ _), (3, .int _ _)]) (qs := [(0, [_]), (1, [_]), (2, [_]), (3, [_])]) rfl ⟨rfl, rfl, rfl, rfl, rfl, rfl, rfl, rfl, rfl, rfl, rfl, rfl, trivial⟩ rfl) ?_
   refine s_val (r_buildS (cs := [_, _, _, _, _, _, _, _]) zr41 cells_agg pl41 (ps := [(0, .agg _)]) (qs := [(0, [_, _, _, _])]) rfl ⟨cells_agg, rfl, rfl, trivial⟩ rfl) ?_
   refine a_alloc zr41 cells_agg M ?_
   intro b4 w M
   first | replace M := M.nf (L' := [[(_, _)], [(_, _)], [(_, _)]]) rfl | skip
   refine a_storeS (v := .agg _) (cs' := [_, _, _, _, _, _, _, _]) sz41 M rfl rfl cells_agg (k := 2) (j := 0) rfl rfl rfl rfl rfl rfl ?_
   intro w M
   first | replace M := M.nf (L' := [[(_, _)], [(_, _)], [(_, _)]]) rfl | skip
   refine s_nil (e_then (c_seq (c_seq (c_region ?_))))
   refine s_val (r_fieldAddr (o' := 4) fb79_4 (by decide) rfl rfl) ?_
   refine a_loadN (vs := [_, _, _, _]) Try.underlying55 rfl sz55 M rfl (k := 0) (j := 0) rfl rfl rfl rfl ?_
   refine s_val (r_move (v := .int _ _) rfl) ?_
   refine s_nil (e_then (c_block ?_))
   refine c_rounds 5 ?_
   refine c_round (c_seq (c_region ?_))
   refine s_val (r_lss rfl rfl) ?_
   refine s_nil (e_then (c_seq ?_))
   refine c_yes rfl (by decide) ?_
   refine c_skip (e_then (c_seq (c_block (c_seq (c_region ?_)))))
   refine s_val (r_move (v := .int _ _) rfl) ?_
   refine s_val (r_index1 Try.underlying55 Try.underlying5 rfl sz5 rfl rfl (by omega) (by omega) rfl) ?_
   refine s_val (r_assign (v := .int _ _) rfl) ?_
   refine s_val (r_assign (v := .int _ _) rfl) ?_
   refine s_nil (e_then (c_region ?_))
   refine s_val (r_move (v := .int _ _) rfl) ?_
   refine s_val (r_move (v := .int _ _) rfl) ?_
   first | (refine s_val (r_conv Try.underlying5 Try.underlying3 rfl (w64 (by omega) (by omega))) ?_) | (refine s_val (r_conv Try.underlying5 Try.underlying3 rfl rfl) ?_)
   first | (refine s_val (r_mul rfl rfl (w64 (by omega) (by omega))) ?_) | (refine s_val (r_mul rfl rfl rfl) ?_)
   refine s_val (r_fieldAddr (o' := 4) fb41_1 (by decide) rfl rfl) ?_
   refine s_val (r_indexAddrA (o' := 4) Try.underlying31 sz3 rfl rfl (by omega) (by omega) rfl) ?_
   refine a_storeS (v := .int _ _) (cs' := [_, _, _, _, _, _, _, _]) sz3 M rfl rfl rfl (k := 2) (j := 0) rfl rfl rfl rfl rfl rfl ?_
   intro w M
   first | replace M := M.nf (L' := [[(_, _)], [(_, _)], [(_, _)]]) rfl | skip
   refine s_nil (e_blk (e_then (c_region ?_)))
   refine s_val (r_add (n := 1) rfl rfl (by decide)) ?_
   refine s_val (r_move (v := .int _ _) rfl) ?_
   refine s_nil (e_then (c_round (c_seq (c_region ?_))))
   refine s_val (r_lss rfl rfl) ?_
   refine s_nil (e_then (c_seq ?_))
   refine c_yes rfl (by decide) ?_
   refine c_skip (e_then (c_seq (c_block (c_seq (c_region ?_)))))
   refine s_val (r_move (v := .int _ _) rfl) ?_
   refine s_val (r_index1 Try.underlying55 Try.underlying5 rfl sz5 rfl rfl (by omega) (by omega) rfl) ?_
   refine s_val (r_assign (v := .int _ _) rfl) ?_
   refine s_val (r_assign (v := .int _ _) rfl) ?_
   refine s_nil (e_then (c_region ?_))
   refine s_val (r_move (v := .int _ _) rfl) ?_
   refine s_val (r_move (v := .int _ _) rfl) ?_
   first | (refine s_val (r_conv Try.underlying5 Try.underlying3 rfl (w64 (by omega) (by omega))) ?_) | (refine s_val (r_conv Try.underlying5 Try.underlying3 rfl rfl) ?_)
   first | (refine s_val (r_mul rfl rfl (w64 (by omega) (by omega))) ?_) | (refine s_val (r_mul rfl rfl rfl) ?_)
   refine s_val (r_fieldAddr (o' := 4) fb41_1 (by decide) rfl rfl) ?_
   refine s_val (r_indexAddrA (o' := 5) Try.underlying31 sz3 rfl rfl (by omega) (by omega) rfl) ?_
   refine a_storeS (v := .int _ _) (cs' := [_, _, _, _, _, _, _, _]) sz3 M rfl rfl rfl (k := 2) (j := 0) rfl rfl rfl rfl rfl rfl ?_
   intro w M
   first | replace M := M.nf (L' := [[(_, _)], [(_, _)], [(_, _)]]) rfl | skip
   refine s_nil (e_blk (e_then (c_region ?_)))
   refine s_val (r_add (n := 2) rfl rfl (by decide)) ?_
   refine s_val (r_move (v := .int _ _) rfl) ?_
   refine s_nil (e_then (c_round (c_seq (c_region ?_))))
   refine s_val (r_lss rfl rfl) ?_
   refine s_nil (e_then (c_seq ?_))
   refine c_yes rfl (by decide) ?_
   refine c_skip (e_then (c_seq (c_block (c_seq (c_region ?_)))))
   refine s_val (r_move (v := .int _ _) rfl) ?_
   refine s_val (r_index1 Try.underlying55 Try.underlying5 rfl sz5 rfl rfl (by omega) (by omega) rfl) ?_
   refine s_val (r_assign (v := .int _ _) rfl) ?_
   refine s_val (r_assign (v := .int _ _) rfl) ?_
   refine s_nil (e_then (c_region ?_))
   refine s_val (r_move (v := .int _ _) rfl) ?_
   refine s_val (r_move (v := .int _ _) rfl) ?_
   first | (refine s_val (r_conv Try.underlying5 Try.underlying3 rfl (w64 (by omega) (by omega))) ?_) | (refine s_val (r_conv Try.underlying5 Try.underlying3 rfl rfl) ?_)
   first | (refine s_val (r_mul rfl rfl (w64 (by omega) (by omega))) ?_) | (refine s_val (r_mul rfl rfl rfl) ?_)
   refine s_val (r_fieldAddr (o' := 4) fb41_1 (by decide) rfl rfl) ?_
   refine s_val (r_indexAddrA (o' := 6) Try.underlying31 sz3 rfl rfl (by omega) (by omega) rfl) ?_
   refine a_storeS (v := .int _ _) (cs' := [_, _, _, _, _, _, _, _]) sz3 M rfl rfl rfl (k := 2) (j := 0) rfl rfl rfl rfl rfl rfl ?_
   intro w M
   first | replace M := M.nf (L' := [[(_, _)], [(_, _)], [(_, _)]]) rfl | skip
   refine s_nil (e_blk (e_then (c_region ?_)))
   refine s_val (r_add (n := 3) rfl rfl (by decide)) ?_
   refine s_val (r_move (v := .int _ _) rfl) ?_
   refine s_nil (e_then (c_round (c_seq (c_region ?_))))
   refine s_val (r_lss rfl rfl) ?_
   refine s_nil (e_then (c_seq ?_))
   refine c_yes rfl (by decide) ?_
   refine c_skip (e_then (c_seq (c_block (c_seq (c_region ?_)))))
   refine s_val (r_move (v := .int _ _) rfl) ?_
   refine s_val (r_index1 Try.underlying55 Try.underlying5 rfl sz5 rfl rfl (by omega) (by omega) rfl) ?_
   refine s_val (r_assign (v := .int _ _) rfl) ?_
   refine s_val (r_assign (v := .int _ _) rfl) ?_
   refine s_nil (e_then (c_region ?_))
   refine s_val (r_move (v := .int _ _) rfl) ?_
   refine s_val (r_move (v := .int _ _) rfl) ?_
   first | (refine s_val (r_conv Try.underlying5 Try.underlying3 rfl (w64 (by omega) (by omega))) ?_) | (refine s_val (r_conv Try.underlying5 Try.underlying3 rfl rfl) ?_)
   first | (refine s_val (r_mul rfl rfl (w64 (by omega) (by omega))) ?_) | (refine s_val (r_mul rfl rfl rfl) ?_)
   refine s_val (r_fieldAddr (o' := 4) fb41_1 (by decide) rfl rfl) ?_
   refine s_val (r_indexAddrA (o' := 7) Try.underlying31 sz3 rfl rfl (by omega) (by omega) rfl) ?_
   refine a_storeS (v := .int _ _) (cs' := [_, _, _, _, _, _, _, _]) sz3 M rfl rfl rfl (k := 2) (j := 0) rfl rfl rfl rfl rfl rfl ?_
   intro w M
   first | replace M := M.nf (L' := [[(_, _)], [(_, _)], [(_, _)]]) rfl | skip
   refine s_nil (e_blk (e_then (c_region ?_)))
   refine s_val (r_add (n := 4) rfl rfl (by decide)) ?_
   refine s_val (r_move (v := .int _ _) rfl) ?_
   refine s_nil (e_then (c_round (c_seq (c_region ?_))))
   refine s_val (r_lss rfl rfl) ?_
   refine s_nil (e_then (c_seq ?_))
   refine c_no rfl (by decide) ?_
   refine c_exit (e_then_exit (e_then_exit (e_blk_here (e_then (c_seq (c_region ?_))))))
   refine a_loadA Try.underlying41 rfl sz41 M rfl (k := 2) (j := 0) rfl rfl rfl ?_
   refine a_storeS (v := .agg _) (cs' := [_, _, _, _, _, _, _, _]) sz41 M rfl rfl cells_agg (k := 1) (j := 0) rfl rfl rfl rfl rfl rfl ?_
   intro w M
   first | replace M := M.nf (L' := [[(_, _)], [(_, _)], [(_, _)]]) rfl | skip
   refine s_nil (e_then (c_ret ?_))
   refine ret_run (res_c rfl rfl (run_loadVarN Try.underlying41 rfl sz41 rfl (M.cellsA (k := 1) (j := 0) rfl rfl))) ?_
   refine ⟨congrArg (fun l : List Value => Ending.returned (.agg l.toArray)) (?_ : _ = vtx (vtxOf x)), M.keep⟩
   simp only [vtx, vtxOf, h12, if_true, Bool.false_eq_true, if_false]
   try rfl
end Go.Proofs.Ytcjnniigonaapaa
