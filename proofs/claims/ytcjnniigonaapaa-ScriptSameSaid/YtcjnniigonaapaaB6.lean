/-
  WALKS B6: states, programs, draws taken.
-/
import Derived.Test.YtcjnniigonaapaaB5
namespace Go.Proofs.Ytcjnniigonaapaa
open Go Go.Az Go.Proofs
set_option maxHeartbeats 1000000

theorem sttTake (b : Nat) (r : Rd) (sg : Seg) (hB : RdAt' b r sg) (ks : List Nat) (w0 : World) (M : St ks (keysOf [sg]) w0 w0 [sg] []) :
    Calls Try.prog 56 #[.pointer (some ⟨b, 0, none⟩)] w0 fun e w' => ∃ v, ∃ g : Seg, e = .returned v ∧ (v = .agg (stt (sttTk r).1).toArray ∧ RdAt' b (sttTk r).2 g) ∧ St ks (keysOf [sg]) w0 w' [g] [] := by
  have hbl := Rd.bytes_len hB.1 15
  have hbr := bAt_range (Rd.bytes_by8 hB.1 15)
  have e15 : ((15 : Nat) : Int) = 15 := rfl
  skip
  refine calls_of 82 Try.func56 rfl rfl rfl ?_
  refine c_seq (c_region ?_)
  refine a_alloc zr54 cells_agg M ?_
  intro b2 w M
  first | replace M := M.nf (L' := [_, [(_, _)]]) rfl | skip
  refine s_nil (e_then (c_seq (c_region ?_)))
  refine s_val (r_move (v := .pointer _) rfl) ?_
  refine s_call1 0 (cl35 rfl) rfl (rdBytes b r _ hB 15 (by decide)) M (fun _ h => nomatch h) ?_
  rintro v ⟨g, sw, sgw⟩ w ⟨rfl, hB, hO⟩ M
  first | replace M := M.nf (L' := [_, [(_, _)], _]) rfl | skip
  refine a_appendZ (m := 15) 2 Try.underlying63 Try.underlying3 sz5 by5 zr5 rfl rfl rfl (by decide) M rfl hO rfl rfl (by decide) (by simp only [maxLen]; omega) (by omega) ?_
  intro s2 sg2 w hO2 M
  replace hO2 : Own 5 1 s2 ((r.bytes 15).1.length + 15) (bv ((r.bytes 15).1 ++ List.replicate 15 0)) sg2 := by rw [← bv_pad]; exact hO2
  obtain ⟨bd, had⟩ := hO2.addrB (by simp)
  have hqa : ∀ i, i < 15 → ((r.bytes 15).1 ++ List.replicate 15 0)[i]? = some (bAt (r.bytes 15).1 i) := fun i hi => pad_at hbl hi
  have c11 := hbr 11
  have c12 := hbr 12
  have c13 := hbr 13
  have c14 := hbr 14
  refine s_val (r_assign (v := .slice _ _ _) rfl) ?_
  refine s_nil (e_then (c_seq ?_))
  refine c_drawT (by kernel_rfl) [(.q, 0), (.q, 1), (.q, 2), (.q, 3), (.q, 4), (.q, 5), (.q, 6), (.q, 7), (.q, 8), (.q, 9), (.q, 10), (.q, 11), (.q, 12), (.q, 13), (.q, 14), (.q, 15), (.q, 16), (.q, 17), (.q, 18), (.q, 19), (.q, 20), (.q, 21), (.q, 22), (.q, 23), (.q, 24), (.q, 25), (.q, 26), (.q, 27), (.q, 28), (.q, 29), (.q, 30), (.q, 31), (.q, 32), (.q, 33), (.q, 34), (.q, 35), (.q, 36), (.q, 37), (.q, 38), (.q, 39), (.q, 40), (.q, 41), (.q, 42), (.q, 43), (.q, 44), (.q, 45), (.q, 46), (.q, 47), (.q, 48), (.q, 49), (.q, 50), (.q, 51), (.fl, 52)] [53] [[], [0], [0, 1], [], [3], [3, 4], [3, 4, 5], [], [7], [7, 8], [], [10], [10, 11], [], [13], [13, 14], [], [16], [16, 17], [], [19], [19, 20], [], [22], [22, 23], [], [25], [25, 26], [], [28], [28, 29], [], [31], [31, 32], [], [34], [34, 35], [34, 35, 36], [], [38], [38, 39], [38, 39, 40], [], [42], [42, 43], [42, 43, 44], [], [46], [46, 47], [46, 47, 48], [34, 35, 36, 37, 38, 39, 40, 41, 42, 43, 44, 45, 46, 47, 48, 49], [0, 1, 2, 3, 4, 5, 6, 7, 8, 9, 10, 11, 12, 13, 14, 15, 16, 17, 18, 19, 20, 21, 22, 23, 24, 25, 26, 27, 28, 29, 30, 31, 32, 33, 34, 35, 36, 37, 38, 39, 40, 41, 42, 43, 44, 45, 46, 47, 48, 49, 50], [], [0, 1, 2, 3, 4, 5, 6, 7, 8, 9, 10, 11, 12, 13, 14, 15, 16, 17, 18, 19, 20, 21, 22, 23, 24, 25, 26, 27, 28, 29, 30, 31, 32, 33, 34, 35, 36, 37, 38, 39, 40, 41, 42, 43, 44, 45, 46, 47, 48, 49, 50, 51, 52]] (by kernel_rfl) [] M ?_
  refine w_val rfl wt_none (fun w => (r_move (v := .slice _ _ _) rfl)) ?_
  refine w_val rfl wt_none (fun w => (r_indexAddrS Try.underlying63 sz5 rfl (had) rfl (by omega) (by omega) rfl)) ?_
  refine w_read rfl wt_none (fun w X G' M => r_load1 Try.underlying5 rfl rfl (hO2.cellB M (k := 2) rfl had (hqa 0 (by decide)) rfl)) ?_
  refine w_val rfl wt_none (fun w => (r_move (v := .slice _ _ _) rfl)) ?_
  refine w_val rfl wt_none (fun w => (r_indexAddrS Try.underlying63 sz5 rfl (had) rfl (by omega) (by omega) rfl)) ?_
  refine w_read rfl wt_none (fun w X G' M => r_load1 Try.underlying5 rfl rfl (hO2.cellB M (k := 2) rfl had (hqa 1 (by decide)) rfl)) ?_
  refine w_val rfl wt_none (fun w => (r_eql rfl rfl)) ?_
  refine w_val rfl wt_none (fun w => (r_move (v := .slice _ _ _) rfl)) ?_
  refine w_val rfl wt_none (fun w => (r_indexAddrS Try.underlying63 sz5 rfl (had) rfl (by omega) (by omega) rfl)) ?_
  refine w_read rfl wt_none (fun w X G' M => r_load1 Try.underlying5 rfl rfl (hO2.cellB M (k := 2) rfl had (hqa 2 (by decide)) rfl)) ?_
  refine w_val rfl wt_none (fun w => (r_move (v := .slice _ _ _) rfl)) ?_
  refine w_val rfl wt_none (fun w => (r_indexAddrS Try.underlying63 sz5 rfl (had) rfl (by omega) (by omega) rfl)) ?_
  refine w_read rfl wt_none (fun w X G' M => r_load1 Try.underlying5 rfl rfl (hO2.cellB M (k := 2) rfl had (hqa 3 (by decide)) rfl)) ?_
  refine w_val rfl wt_none (fun w => (r_move (v := .slice _ _ _) rfl)) ?_
  refine w_val rfl wt_none (fun w => (r_indexAddrS Try.underlying63 sz5 rfl (had) rfl (by omega) (by omega) rfl)) ?_
  refine w_read rfl wt_none (fun w X G' M => r_load1 Try.underlying5 rfl rfl (hO2.cellB M (k := 2) rfl had (hqa 4 (by decide)) rfl)) ?_
  refine w_val rfl wt_none (fun w => (r_move (v := .slice _ _ _) rfl)) ?_
  refine w_val rfl wt_none (fun w => (r_indexAddrS Try.underlying63 sz5 rfl (had) rfl (by omega) (by omega) rfl)) ?_
  refine w_read rfl wt_none (fun w X G' M => r_load1 Try.underlying5 rfl rfl (hO2.cellB M (k := 2) rfl had (hqa 5 (by decide)) rfl)) ?_
  refine w_val rfl wt_none (fun w => (r_move (v := .slice _ _ _) rfl)) ?_
  refine w_val rfl wt_none (fun w => (r_indexAddrS Try.underlying63 sz5 rfl (had) rfl (by omega) (by omega) rfl)) ?_
  refine w_read rfl wt_none (fun w X G' M => r_load1 Try.underlying5 rfl rfl (hO2.cellB M (k := 2) rfl had (hqa 6 (by decide)) rfl)) ?_
  refine w_val rfl wt_none (fun w => (r_move (v := .slice _ _ _) rfl)) ?_
  refine w_val rfl wt_none (fun w => (r_indexAddrS Try.underlying63 sz5 rfl (had) rfl (by omega) (by omega) rfl)) ?_
  refine w_read rfl wt_none (fun w X G' M => r_load1 Try.underlying5 rfl rfl (hO2.cellB M (k := 2) rfl had (hqa 7 (by decide)) rfl)) ?_
  refine w_val rfl wt_none (fun w => (r_move (v := .slice _ _ _) rfl)) ?_
  refine w_val rfl wt_none (fun w => (r_indexAddrS Try.underlying63 sz5 rfl (had) rfl (by omega) (by omega) rfl)) ?_
  refine w_read rfl wt_none (fun w X G' M => r_load1 Try.underlying5 rfl rfl (hO2.cellB M (k := 2) rfl had (hqa 8 (by decide)) rfl)) ?_
  refine w_val rfl wt_none (fun w => (r_move (v := .slice _ _ _) rfl)) ?_
  refine w_val rfl wt_none (fun w => (r_indexAddrS Try.underlying63 sz5 rfl (had) rfl (by omega) (by omega) rfl)) ?_
  refine w_read rfl wt_none (fun w X G' M => r_load1 Try.underlying5 rfl rfl (hO2.cellB M (k := 2) rfl had (hqa 9 (by decide)) rfl)) ?_
  refine w_val rfl wt_none (fun w => (r_move (v := .slice _ _ _) rfl)) ?_
  refine w_val rfl wt_none (fun w => (r_indexAddrS Try.underlying63 sz5 rfl (had) rfl (by omega) (by omega) rfl)) ?_
  refine w_read rfl wt_none (fun w X G' M => r_load1 Try.underlying5 rfl rfl (hO2.cellB M (k := 2) rfl had (hqa 10 (by decide)) rfl)) ?_
  refine w_val rfl wt_none (fun w => (r_move (v := .slice _ _ _) rfl)) ?_
  refine w_val rfl wt_none (fun w => (r_indexAddrS Try.underlying63 sz5 rfl (had) rfl (by omega) (by omega) rfl)) ?_
  refine w_read rfl wt_none (fun w X G' M => r_load1 Try.underlying5 rfl rfl (hO2.cellB M (k := 2) rfl had (hqa 11 (by decide)) rfl)) ?_
  first | (refine w_val rfl wt_none (fun w => (r_conv Try.underlying5 Try.underlying3 rfl (w64 (by omega) (by omega)))) ?_) | (refine w_val rfl wt_none (fun w => (r_conv Try.underlying5 Try.underlying3 rfl rfl)) ?_)
  refine w_val rfl wt_none (fun w => (r_move (v := .slice _ _ _) rfl)) ?_
  refine w_val rfl wt_none (fun w => (r_indexAddrS Try.underlying63 sz5 rfl (had) rfl (by omega) (by omega) rfl)) ?_
  refine w_read rfl wt_none (fun w X G' M => r_load1 Try.underlying5 rfl rfl (hO2.cellB M (k := 2) rfl had (hqa 12 (by decide)) rfl)) ?_
  first | (refine w_val rfl wt_none (fun w => (r_conv Try.underlying5 Try.underlying3 rfl (w64 (by omega) (by omega)))) ?_) | (refine w_val rfl wt_none (fun w => (r_conv Try.underlying5 Try.underlying3 rfl rfl)) ?_)
  refine w_val rfl wt_none (fun w => (r_move (v := .slice _ _ _) rfl)) ?_
  refine w_val rfl wt_none (fun w => (r_indexAddrS Try.underlying63 sz5 rfl (had) rfl (by omega) (by omega) rfl)) ?_
  refine w_read rfl wt_none (fun w X G' M => r_load1 Try.underlying5 rfl rfl (hO2.cellB M (k := 2) rfl had (hqa 13 (by decide)) rfl)) ?_
  first | (refine w_val rfl wt_none (fun w => (r_conv Try.underlying5 Try.underlying3 rfl (w64 (by omega) (by omega)))) ?_) | (refine w_val rfl wt_none (fun w => (r_conv Try.underlying5 Try.underlying3 rfl rfl)) ?_)
  refine w_val rfl wt_none (fun w => (r_move (v := .slice _ _ _) rfl)) ?_
  refine w_val rfl wt_none (fun w => (r_indexAddrS Try.underlying63 sz5 rfl (had) rfl (by omega) (by omega) rfl)) ?_
  refine w_read rfl wt_none (fun w X G' M => r_load1 Try.underlying5 rfl rfl (hO2.cellB M (k := 2) rfl had (hqa 14 (by decide)) rfl)) ?_
  first | (refine w_val rfl wt_none (fun w => (r_conv Try.underlying5 Try.underlying3 rfl (w64 (by omega) (by omega)))) ?_) | (refine w_val rfl wt_none (fun w => (r_conv Try.underlying5 Try.underlying3 rfl rfl)) ?_)
  refine w_val rfl wt_none (fun w => (r_buildS (cs := [_, _, _, _]) zr52 cells_agg pl52 (ps := [(0, .int _ _), (1, .int _ _), (2, .int _ _), (3, .int _ _)]) (qs := [(0, [_]), (1, [_]), (2, [_]), (3, [_])]) rfl ⟨rfl, rfl, rfl, rfl, rfl, rfl, rfl, rfl, rfl, rfl, rfl, rfl, trivial⟩ rfl)) ?_
  refine w_val rfl wt_none (fun w => (r_buildS (cs := [_, _, _, _, _, _, _, _, _, _, _, _, _, _, _]) zr54 cells_agg pl54 (ps := [(0, .int _ _), (1, .bool _), (2, .int _ _), (3, .int _ _), (4, .int _ _), (5, .int _ _), (6, .int _ _), (7, .int _ _), (8, .int _ _), (9, .int _ _), (10, .int _ _), (11, .agg _)]) (qs := [(0, [_]), (1, [_]), (2, [_]), (3, [_]), (4, [_]), (5, [_]), (6, [_]), (7, [_]), (8, [_]), (9, [_]), (10, [_]), (11, [_, _, _, _])]) rfl ⟨rfl, rfl, rfl, rfl, rfl, rfl, rfl, rfl, rfl, rfl, rfl, rfl, rfl, rfl, rfl, rfl, rfl, rfl, rfl, rfl, rfl, rfl, rfl, rfl, rfl, rfl, rfl, rfl, rfl, rfl, rfl, rfl, rfl, cells_agg, rfl, rfl, trivial⟩ rfl)) ?_
  refine w_alloc rfl wt_none zr54 cells_agg ?_
  intro b4
  first | refine w_nf (L' := [_, [(_, _)], _, [(_, _)]]) rfl ?_ | skip
  refine w_nil ?_
  intro w M
  refine a_storeS (v := .agg _) (cs' := [_, _, _, _, _, _, _, _, _, _, _, _, _, _, _]) sz54 M rfl rfl cells_agg (k := 3) (j := 0) rfl rfl rfl rfl rfl rfl ?_
  intro w M
  first | replace M := M.nf (L' := [_, [(_, _)], _, [(_, _)]]) rfl | skip
  refine s_nil (e_then ?_)
  refine c_cutG (Γ := Seg) [5, 61, 62, 63, 64, 65, 66, 67, 68, 69, 70, 71, 72, 73, 74, 75, 76] (fun _ => []) (fun sg' w => RdAt' b (sttTk1 (r.bytes 15).1 (r.bytes 15).2) sg' ∧ St ks (keysOf [sg]) w0 w [sg', [(b2, C (stt zeroStt) 54)], sg2, [(b4, C (stt (sttRaw (r.bytes 15).1)) 54)]] []) ?_ ?_
  ·
   refine c_seq (c_region ?_)
   refine s_val (r_move (v := .pointer _) rfl) ?_
   refine s_call1 0 (cl54 rfl) rfl (rdErr b _ _ hB) M (fun _ h => nomatch h) ?_
   rintro v g w ⟨rfl, hB⟩ M
   first | replace M := M.nf (L' := [_, [(_, _)], _, [(_, _)]]) rfl | skip
   refine s_val (r_eql rfl rfl) ?_
   refine s_nil (e_then ?_)
   refine c_if rfl (fun h63 => ?_) (fun h63 => ?_)
   ·
    refine c_seq (c_region ?_)
    refine s_val (r_move (v := .slice _ _ _) rfl) ?_
    refine s_val (r_indexAddrS Try.underlying63 sz5 rfl (had) rfl (by omega) (by omega) rfl) ?_
    refine s_val (r_load1 (v := .int _ _) Try.underlying5 rfl rfl (hO2.cellB M (k := 2) rfl had (hqa 1 (by decide)) rfl)) ?_
    refine s_val (r_gtr rfl rfl) ?_
    refine s_nil (e_then ?_)
    refine c_if rfl (fun h67 => ?_) (fun h67 => ?_)
    ·
     refine c_region ?_
     refine s_val (r_move (v := .pointer _) rfl) ?_
     refine s_call1 0 (cl51 rfl) rfl (rdFail b _ _ hB 4) M (fun _ h => nomatch h) ?_
     rintro v g w ⟨rfl, hB⟩ M
     first | replace M := M.nf (L' := [_, [(_, _)], _, [(_, _)]]) rfl | skip
     refine s_nil (e_then ?_)
     have hR : sttTk1 (r.bytes 15).1 (r.bytes 15).2 = (r.bytes 15).2.fail 4 := by rw [sttTk1, if_pos h63, if_pos h67]
     exact cut_end g (by repeat (first | exact ag_refl | exact ag_mask rfl ag_refl | refine ag_upd rfl ?_ | refine ag_mask rfl ?_)) trivial ⟨by rw [hR]; exact hB, (M.picks [0, 1, 2, 3] rfl rfl).useG (by simp)⟩
    ·
     refine c_seq (c_region ?_)
     refine a_loadA Try.underlying54 rfl sz54 M rfl (k := 3) (j := 0) rfl rfl rfl ?_
     refine s_callP (cl61 rfl) (sttCheckOf (sttRaw (r.bytes 15).1) _) M ?_
     intro w M
     refine s_val (r_assign (v := .int _ _) rfl) ?_
     refine s_nil (e_then (c_seq (c_region ?_)))
     refine s_val (r_move (v := .int _ _) rfl) ?_
     refine s_val (r_neq rfl rfl) ?_
     refine s_nil (e_then ?_)
     refine c_if rfl (fun h73 => ?_) (fun h73 => ?_)
     ·
      refine c_region ?_
      refine s_val (r_move (v := .pointer _) rfl) ?_
      refine s_val (r_move (v := .int _ _) rfl) ?_
      refine s_call1 0 (cl51 rfl) rfl (rdFail b _ _ hB _) M (fun _ h => nomatch h) ?_
      rintro v g w ⟨rfl, hB⟩ M
      first | replace M := M.nf (L' := [_, [(_, _)], _, [(_, _)]]) rfl | skip
      refine s_nil (e_then ?_)
      have hR : sttTk1 (r.bytes 15).1 (r.bytes 15).2 = (r.bytes 15).2.fail (sttCheck (sttRaw (r.bytes 15).1)) := by rw [sttTk1, if_pos h63, if_neg h67, if_pos h73]
      exact cut_end g (by repeat (first | exact ag_refl | exact ag_mask rfl ag_refl | refine ag_upd rfl ?_ | refine ag_mask rfl ?_)) trivial ⟨by rw [hR]; exact hB, (M.picks [0, 1, 2, 3] rfl rfl).useG (by simp)⟩
     ·
      refine c_skip (e_then ?_)
      have hR : sttTk1 (r.bytes 15).1 (r.bytes 15).2 = (r.bytes 15).2 := by rw [sttTk1, if_pos h63, if_neg h67, if_neg h73]
      exact cut_end g (by repeat (first | exact ag_refl | exact ag_mask rfl ag_refl | refine ag_upd rfl ?_ | refine ag_mask rfl ?_)) trivial ⟨by rw [hR]; exact hB, (M.picks [0, 1, 2, 3] rfl rfl).useG (by simp)⟩
   ·
    refine c_skip (e_then ?_)
    have hR : sttTk1 (r.bytes 15).1 (r.bytes 15).2 = (r.bytes 15).2 := by rw [sttTk1, if_neg h63]
    exact cut_end g (by repeat (first | exact ag_refl | exact ag_mask rfl ag_refl | refine ag_upd rfl ?_ | refine ag_mask rfl ?_)) trivial ⟨by rw [hR]; exact hB, (M.picks [0, 1, 2, 3] rfl rfl).useG (by simp)⟩
  rintro g e w ⟨hB, M⟩
  refine c_seq (c_seq (c_region ?_))
  refine s_val (r_move (v := .pointer _) rfl) ?_
  refine s_call1 0 (cl54 rfl) rfl (rdErr b _ _ hB) M (fun _ h => nomatch h) ?_
  rintro v g w ⟨rfl, hB⟩ M
  first | replace M := M.nf (L' := [_, _, _, _]) rfl | skip
  refine s_val (r_neq rfl rfl) ?_
  refine s_nil (e_then ?_)
  refine c_if rfl (fun h79 => ?_) (fun h79 => ?_)
  ·
   have hr : sttTk r = (zeroStt, sttTk1 (r.bytes 15).1 (r.bytes 15).2) := by rw [sttTk, if_pos h79]
   refine c_seq (c_region ?_)
   refine s_val (r_buildS (cs := [_, _, _, _, _, _, _, _, _, _, _, _, _, _, _]) zr54 cells_agg pl54 (ps := []) (qs := []) rfl trivial rfl) ?_
   refine a_storeS (v := .agg _) (cs' := [_, _, _, _, _, _, _, _, _, _, _, _, _, _, _]) sz54 M rfl rfl cells_agg (k := 1) (j := 0) rfl rfl rfl rfl rfl rfl ?_
   intro w M
   first | replace M := M.nf (L' := [_, _, _, _]) rfl | skip
   refine s_nil (e_then (c_ret (e_then_ret ?_)))
   refine ret_run (res_c rfl rfl (run_loadVarN Try.underlying54 rfl sz54 rfl (M.cellsA (k := 1) (j := 0) rfl rfl))) ?_
   exact ⟨_, g, rfl, ⟨by first | (rw [hr]; done) | (rw [hr]; rfl), by rw [hr]; exact hB⟩, (M.picks [0] rfl rfl).useG (by simp)⟩
  ·
   have hr : sttTk r = (sttRaw (r.bytes 15).1, sttTk1 (r.bytes 15).1 (r.bytes 15).2) := by rw [sttTk, if_neg h79]
   refine c_skip (e_then (c_seq (c_region ?_)))
   refine a_loadA Try.underlying54 rfl sz54 M rfl (k := 3) (j := 0) rfl rfl rfl ?_
   refine a_storeS (v := .agg _) (cs' := [_, _, _, _, _, _, _, _, _, _, _, _, _, _, _]) sz54 M rfl rfl cells_agg (k := 1) (j := 0) rfl rfl rfl rfl rfl rfl ?_
   intro w M
   first | replace M := M.nf (L' := [_, _, _, _]) rfl | skip
   refine s_nil (e_then (c_ret ?_))
   refine ret_run (res_c rfl rfl (run_loadVarN Try.underlying54 rfl sz54 rfl (M.cellsA (k := 1) (j := 0) rfl rfl))) ?_
   exact ⟨_, g, rfl, ⟨by first | (rw [hr]; done) | (rw [hr]; rfl), by rw [hr]; exact hB⟩, (M.picks [0] rfl rfl).useG (by simp)⟩

theorem progTake (b : Nat) (r : Rd) (sg : Seg) (hB : RdAt' b r sg) (d : Bool) (ks : List Nat) (w0 : World) (M : St ks (keysOf [sg]) w0 w0 [sg] []) :
    Calls Try.prog 38 #[.pointer (some ⟨b, 0, none⟩), bo d] w0 fun e w' => ∃ v, ∃ g : Seg × Sl × Seg, e = .returned v ∧ (v = g.2.1.v (progTk r d).1.length ∧ RdAt' b (progTk r d).2 g.1 ∧ Own 44 5 g.2.1 (progTk r d).1.length ((progTk r d).1.flatMap ins) g.2.2) ∧ St ks (keysOf [sg]) w0 w' [g.1, g.2.2] [] := by
  have hcr := Rd.count_range hB.1 24
  skip
  refine calls_of 54 Try.func38 rfl rfl rfl ?_
  refine c_seq (c_region ?_)
  refine s_val (r_assign (v := .slice _ _ _) rfl) ?_
  refine s_nil (e_then (c_seq (c_region ?_)))
  refine s_val (r_assign (v := .slice _ _ _) rfl) ?_
  refine s_nil (e_then (c_seq (c_region ?_)))
  refine s_val (r_move (v := .pointer _) rfl) ?_
  refine s_call1 0 (cl36 rfl) rfl (rdCount b r _ hB 24 (by decide)) M (fun _ h => nomatch h) ?_
  rintro v g w ⟨rfl, hB⟩ M
  first | replace M := M.nf (L' := [_]) rfl | skip
  refine s_val (r_assign (v := .int _ _) rfl) ?_
  refine s_nil (e_then (c_seq (c_seq (c_region ?_))))
  refine s_val (r_assign (v := .int _ _) rfl) ?_
  refine s_nil (e_then (c_block ?_))
  refine c_loopG [5, 7, 8, 12, 13, 14, 15, 16, 17, 18, 19, 20, 21, 22, 23, 24, 25, 26, 27, 28, 29, 30, 31, 32, 33, 34, 35, 36, 37, 38] (Γ := Nat × Prog × Rd × Seg × Sl × Seg) (vals := fun (k, p, r', sgr, s, sgp) => [(5, s.v p.length), (7, i64 k)]) (I := fun m (k, p, r', sgr, s, sgp) w => m + k = (r.count 24).1.toNat ∧ progTkGo m p r' = progTk0 r ∧ p.wf ∧ p.length = k ∧ Own 44 5 s p.length (p.flatMap ins) sgp ∧ RdAt' b r' sgr ∧ St ks (keysOf [sg]) w0 w [sgr, sgp] []) (r.count 24).1.toNat (0, [], (r.count 24).2, g, ⟨none, 0⟩, []) ⟨rfl, rfl, trivial⟩ ⟨rfl, rfl, (fun _ hx => nomatch hx), rfl, Own.nil _ _, hB, ((M.picks [0] rfl rfl).useG (by simp)).flat rfl⟩ ?_
  rintro m ⟨k, p, r1, sgr, s, sgp⟩ e w ⟨hk, hg, hpw, hpl, hO, hB, M⟩
  refine c_seq (c_seq (c_region ?_))
  refine s_val (r_move (v := .int _ _) rfl) ?_
  refine s_val (r_move (v := .int _ _) rfl) ?_
  refine s_val (r_lss rfl rfl) ?_
  refine s_val (r_move (v := .bool _) rfl) ?_
  refine s_splitD 15 rfl (fun g15 => ?_) (fun g15 => ?_)
  ·
   refine s_unguard (yield_Fr rfl rfl) rfl ?_
   refine s_val (r_move (v := .pointer _) rfl) ?_
   refine s_unguard (yield_Fr rfl rfl) rfl ?_
   refine s_call1 0 (cl54 rfl) rfl (rdErr b _ _ hB) M (fun _ h => nomatch h) ?_
   rintro v g w ⟨rfl, hB⟩ M
   first | replace M := M.nf (L' := [_, _]) rfl | skip
   refine s_unguard (yield_Fr rfl rfl) rfl ?_
   refine s_val (r_eql rfl rfl) ?_
   refine s_val (r_pick (v := .bool _) rfl rfl) ?_
   refine s_nil (e_then ?_)
   refine c_if rfl (fun h19 => ?_) (fun h19 => ?_)
   ·
    obtain ⟨m, rfl⟩ : ∃ j, m = j + 1 := ⟨m - 1, by omega⟩
    rw [progTkGo, if_neg (by omega)] at hg
    have hiw := insTk_wf hB.1
    have hcv : -32768 ≤ (r1.byte.2.byte.2.byte.2.byte.2.within (-32768) 32767).1 ∧ (r1.byte.2.byte.2.byte.2.byte.2.within (-32768) 32767).1 ≤ 32767 := Rd.within_range (r := insTkR r1) hB.1.byte.byte.byte.byte (by decide) (by decide)
    refine c_skip (e_then (c_seq (c_block (c_seq (c_region ?_)))))
    refine s_val (r_move (v := .pointer _) rfl) ?_
    refine s_call1 0 (cl55 rfl) rfl (rdByte b _ _ hB) M (fun _ h => nomatch h) ?_
    rintro v g w ⟨rfl, hB⟩ M
    first | replace M := M.nf (L' := [_, _]) rfl | skip
    refine s_val (r_move (v := .pointer _) rfl) ?_
    refine s_call1 0 (cl55 rfl) rfl (rdByte b _ _ hB) M (fun _ h => nomatch h) ?_
    rintro v g w ⟨rfl, hB⟩ M
    first | replace M := M.nf (L' := [_, _]) rfl | skip
    refine s_val (r_move (v := .pointer _) rfl) ?_
    refine s_call1 0 (cl55 rfl) rfl (rdByte b _ _ hB) M (fun _ h => nomatch h) ?_
    rintro v g w ⟨rfl, hB⟩ M
    first | replace M := M.nf (L' := [_, _]) rfl | skip
    refine s_val (r_move (v := .pointer _) rfl) ?_
    refine s_call1 0 (cl55 rfl) rfl (rdByte b _ _ hB) M (fun _ h => nomatch h) ?_
    rintro v g w ⟨rfl, hB⟩ M
    first | replace M := M.nf (L' := [_, _]) rfl | skip
    refine s_val (r_buildS (cs := [_, _, _, _, _]) zr44 cells_agg pl44 (ps := [(0, .int _ _), (1, .int _ _), (2, .int _ _), (3, .int _ _)]) (qs := [(0, [_]), (1, [_]), (2, [_]), (3, [_])]) rfl ⟨rfl, rfl, rfl, rfl, rfl, rfl, rfl, rfl, rfl, rfl, rfl, rfl, trivial⟩ rfl) ?_
    refine a_alloc zr44 cells_agg M ?_
    intro b8 w M
    first | replace M := M.nf (L' := [_, _, [(_, _)]]) rfl | skip
    refine a_storeS (v := .agg _) (cs' := [_, _, _, _, _]) sz44 M rfl rfl cells_agg (k := 2) (j := 0) rfl rfl rfl rfl rfl rfl ?_
    intro w M
    first | replace M := M.nf (L' := [_, _, [(_, _)]]) rfl | skip
    refine s_nil (e_then (c_seq (c_region ?_)))
    refine s_val (r_move (v := .pointer _) rfl) ?_
    refine s_call1 0 (cl53 rfl) rfl (rdWithin b _ _ hB _ _) M (fun _ h => nomatch h) ?_
    rintro v g w ⟨rfl, hB⟩ M
    first | replace M := M.nf (L' := [_, _, [(_, _)]]) rfl | skip
    first | (refine s_val (r_conv Try.underlying3 Try.underlying22 rfl (w16 (by omega) (by omega))) ?_) | (refine s_val (r_conv Try.underlying3 Try.underlying22 rfl rfl) ?_)
    refine s_val (r_fieldAddr (o' := 4) fb44_4 (by decide) rfl rfl) ?_
    refine a_storeS (v := .int _ _) (cs' := [_, _, _, _, _]) sz22 M rfl rfl rfl (k := 2) (j := 0) rfl rfl rfl rfl rfl rfl ?_
    intro w M
    first | replace M := M.nf (L' := [_, _, [(_, _)]]) rfl | skip
    refine s_nil (e_then (c_region ?_))
    refine s_val (r_move (v := .slice _ _ _) rfl) ?_
    refine a_loadA Try.underlying44 rfl sz44 M rfl (k := 2) (j := 0) rfl rfl rfl ?_
    refine a_buildSliceS (cs := [_, _, _, _, _]) Try.underlying46 sz44 zr44 cells_agg rfl (by decide) rfl (ps := [(0, .agg _)]) (qs := [(0, [_, _, _, _, _])]) rfl ⟨cells_agg, rfl, rfl, trivial⟩ rfl M ?_
    intro b37 w M
    first | replace M := M.nf (L' := [_, _, [(_, _)], [(_, _)]]) rfl | skip
    refine a_append 1 Try.underlying46 sz44 by44 zr44 cells_agg rfl M rfl hO rfl rfl (SlF.src Try.underlying46 (slF_lit M (k := 3) (j := 0) rfl rfl rfl rfl) rfl) (by simp only [maxLen]; omega) (by omega) ?_
    intro s1 sg1 w hO1 M
    first | replace M := M.nf (L' := [_, _, [(_, _)], [(_, _)]]) rfl | skip
    refine s_val (r_assign (v := .slice _ _ _) rfl) ?_
    refine s_nil (e_blk (e_then (c_region ?_)))
    refine s_val (r_move (v := .int _ _) rfl) ?_
    first | (refine s_val (r_add rfl rfl (w64 (by omega) (by omega))) ?_) | (refine s_val (r_add rfl rfl rfl) ?_)
    refine s_val (r_assign (v := .int _ _) rfl) ?_
    refine s_nil (e_then ?_)
    exact loop_end m (k + 1, p ++ [(insTk r1).1], (insTk r1).2, g, s1, sg1) (by repeat (first | exact ag_refl | exact ag_mask rfl ag_refl | refine ag_upd rfl ?_ | refine ag_mask rfl ?_)) ⟨congrArg (fun n => s1.v n) (by simp), i64succ k, trivial⟩ (by omega) ⟨by omega, hg, (fun x hx => by
      rcases List.mem_append.1 hx with e | e
      · exact hpw x e
      · rw [List.mem_singleton.1 e]; exact hiw), by simp; exact hpl, by rw [List.flatMap_append, List.length_append]; exact hO1, hB, (M.picks [0, 1] rfl rfl).useG (by simp)⟩
   ·
    have hfin : progTk0 r = (p, r1) := by
      rw [← hg]
      cases m with
      | zero => rfl
      | succ m => first | (exfalso; omega) | (rw [progTkGo, if_pos h19])
    refine c_exit (e_then_exit (e_then_exit (e_blk_here (e_then ?_))))
    refine c_cutG (Γ := Seg) [9, 39, 40, 41, 42, 43, 44, 45, 46, 47, 48, 49] (fun _ => []) (fun sg' w => RdAt' b (progTk1 p d r1) sg' ∧ St ks (keysOf [sg]) w0 w [sg', sgp] []) ?_ ?_
    ·
     refine c_seq (c_region ?_)
     refine s_val (r_move (v := .pointer _) rfl) ?_
     refine s_call1 0 (cl54 rfl) rfl (rdErr b _ _ hB) M (fun _ h => nomatch h) ?_
     rintro v g w ⟨rfl, hB⟩ M
     first | replace M := M.nf (L' := [_, _]) rfl | skip
     refine s_val (r_eql rfl rfl) ?_
     refine s_nil (e_then ?_)
     refine c_if rfl (fun h41 => ?_) (fun h41 => ?_)
     ·
      refine c_seq (c_region ?_)
      refine s_val (r_move (v := .slice _ _ _) rfl) ?_
      refine s_val (r_move (v := .bool _) rfl) ?_
      refine s_callP (cl46 rfl) (progCheckN _ p hpw _ rfl d _ (hO.lsAt rfl ins_len (by decide) M (k := 1) rfl)) M ?_
      intro w M
      refine s_val (r_assign (v := .int _ _) rfl) ?_
      refine s_nil (e_then (c_seq (c_region ?_)))
      refine s_val (r_move (v := .int _ _) rfl) ?_
      refine s_val (r_neq rfl rfl) ?_
      refine s_nil (e_then ?_)
      refine c_if rfl (fun h46 => ?_) (fun h46 => ?_)
      ·
       refine c_region ?_
       refine s_val (r_move (v := .pointer _) rfl) ?_
       refine s_val (r_move (v := .int _ _) rfl) ?_
       refine s_call1 0 (cl51 rfl) rfl (rdFail b _ _ hB _) M (fun _ h => nomatch h) ?_
       rintro v g w ⟨rfl, hB⟩ M
       first | replace M := M.nf (L' := [_, _]) rfl | skip
       refine s_nil (e_then ?_)
       have hR : progTk1 p d r1 = r1.fail (progCheck p d) := if_pos ⟨h41, h46⟩
       exact cut_end g (by repeat (first | exact ag_refl | exact ag_mask rfl ag_refl | refine ag_upd rfl ?_ | refine ag_mask rfl ?_)) trivial ⟨by rw [hR]; exact hB, (M.picks [0, 1] rfl rfl).useG (by simp)⟩
      ·
       refine c_skip (e_then ?_)
       have hR : progTk1 p d r1 = r1 := if_neg (fun h => h46 h.2)
       exact cut_end g (by repeat (first | exact ag_refl | exact ag_mask rfl ag_refl | refine ag_upd rfl ?_ | refine ag_mask rfl ?_)) trivial ⟨by rw [hR]; exact hB, (M.picks [0, 1] rfl rfl).useG (by simp)⟩
     ·
      refine c_skip (e_then ?_)
      have hR : progTk1 p d r1 = r1 := if_neg (fun h => h41 h.1)
      exact cut_end g (by repeat (first | exact ag_refl | exact ag_mask rfl ag_refl | refine ag_upd rfl ?_ | refine ag_mask rfl ?_)) trivial ⟨by rw [hR]; exact hB, (M.picks [0, 1] rfl rfl).useG (by simp)⟩
    rintro g e w ⟨hB, M⟩
    refine c_seq (c_seq (c_region ?_))
    refine s_val (r_move (v := .pointer _) rfl) ?_
    refine s_call1 0 (cl54 rfl) rfl (rdErr b _ _ hB) M (fun _ h => nomatch h) ?_
    rintro v g w ⟨rfl, hB⟩ M
    first | replace M := M.nf (L' := [_, _]) rfl | skip
    refine s_val (r_neq rfl rfl) ?_
    refine s_nil (e_then ?_)
    refine c_if rfl (fun h52 => ?_) (fun h52 => ?_)
    ·
     have hr : progTk r d = ([], progTk1 p d r1) := by rw [progTk, hfin]; exact if_pos h52 ▸ rfl
     refine c_seq (c_region ?_)
     refine s_val (r_assign (v := .slice _ _ _) rfl) ?_
     refine s_nil (e_then (c_ret (e_then_ret ?_)))
     refine ret_run (res_1 (v := .slice _ _ _) rfl rfl) ?_
     exact ⟨_, (g, ⟨none, 0⟩, []), rfl, ⟨by rw [hr]; rfl, by rw [hr]; exact hB, by rw [hr]; exact Own.nil _ _⟩, ((M.picks [0] rfl rfl).useG (by simp)).flat rfl⟩
    ·
     have hr : progTk r d = (p, progTk1 p d r1) := by rw [progTk, hfin]; exact if_neg h52 ▸ rfl
     refine c_skip (e_then (c_seq (c_region ?_)))
     refine s_val (r_move (v := .slice _ _ _) rfl) ?_
     refine s_val (r_assign (v := .slice _ _ _) rfl) ?_
     refine s_nil (e_then (c_ret ?_))
     refine ret_run (res_1 (v := .slice _ _ _) rfl rfl) ?_
     exact ⟨_, (g, s, sgp), rfl, ⟨by rw [hr], by rw [hr]; exact hB, by rw [hr]; exact hO⟩, (M.picks [0, 1] rfl rfl).useG (by simp)⟩
  ·
   refine s_skip (yield_Fr rfl rfl) rfl ?_
   refine s_skip (yield_Fr rfl rfl) rfl ?_
   refine s_skip (yield_Fr rfl rfl) rfl ?_
   refine s_val (r_pick (v := .bool _) rfl rfl) ?_
   refine s_nil (e_then ?_)
   refine c_no rfl (by decide) ?_
   have hfin : progTk0 r = (p, r1) := by
     rw [← hg]
     cases m with
     | zero => rfl
     | succ m => first | (exfalso; omega) | (rw [progTkGo, if_pos h19])
   refine c_exit (e_then_exit (e_then_exit (e_blk_here (e_then ?_))))
   refine c_cutG (Γ := Seg) [9, 39, 40, 41, 42, 43, 44, 45, 46, 47, 48, 49] (fun _ => []) (fun sg' w => RdAt' b (progTk1 p d r1) sg' ∧ St ks (keysOf [sg]) w0 w [sg', sgp] []) ?_ ?_
   ·
    refine c_seq (c_region ?_)
    refine s_val (r_move (v := .pointer _) rfl) ?_
    refine s_call1 0 (cl54 rfl) rfl (rdErr b _ _ hB) M (fun _ h => nomatch h) ?_
    rintro v g w ⟨rfl, hB⟩ M
    first | replace M := M.nf (L' := [_, _]) rfl | skip
    refine s_val (r_eql rfl rfl) ?_
    refine s_nil (e_then ?_)
    refine c_if rfl (fun h41 => ?_) (fun h41 => ?_)
    ·
     refine c_seq (c_region ?_)
     refine s_val (r_move (v := .slice _ _ _) rfl) ?_
     refine s_val (r_move (v := .bool _) rfl) ?_
     refine s_callP (cl46 rfl) (progCheckN _ p hpw _ rfl d _ (hO.lsAt rfl ins_len (by decide) M (k := 1) rfl)) M ?_
     intro w M
     refine s_val (r_assign (v := .int _ _) rfl) ?_
     refine s_nil (e_then (c_seq (c_region ?_)))
     refine s_val (r_move (v := .int _ _) rfl) ?_
     refine s_val (r_neq rfl rfl) ?_
     refine s_nil (e_then ?_)
     refine c_if rfl (fun h46 => ?_) (fun h46 => ?_)
     ·
      refine c_region ?_
      refine s_val (r_move (v := .pointer _) rfl) ?_
      refine s_val (r_move (v := .int _ _) rfl) ?_
      refine s_call1 0 (cl51 rfl) rfl (rdFail b _ _ hB _) M (fun _ h => nomatch h) ?_
      rintro v g w ⟨rfl, hB⟩ M
      first | replace M := M.nf (L' := [_, _]) rfl | skip
      refine s_nil (e_then ?_)
      have hR : progTk1 p d r1 = r1.fail (progCheck p d) := if_pos ⟨h41, h46⟩
      exact cut_end g (by repeat (first | exact ag_refl | exact ag_mask rfl ag_refl | refine ag_upd rfl ?_ | refine ag_mask rfl ?_)) trivial ⟨by rw [hR]; exact hB, (M.picks [0, 1] rfl rfl).useG (by simp)⟩
     ·
      refine c_skip (e_then ?_)
      have hR : progTk1 p d r1 = r1 := if_neg (fun h => h46 h.2)
      exact cut_end g (by repeat (first | exact ag_refl | exact ag_mask rfl ag_refl | refine ag_upd rfl ?_ | refine ag_mask rfl ?_)) trivial ⟨by rw [hR]; exact hB, (M.picks [0, 1] rfl rfl).useG (by simp)⟩
    ·
     refine c_skip (e_then ?_)
     have hR : progTk1 p d r1 = r1 := if_neg (fun h => h41 h.1)
     exact cut_end g (by repeat (first | exact ag_refl | exact ag_mask rfl ag_refl | refine ag_upd rfl ?_ | refine ag_mask rfl ?_)) trivial ⟨by rw [hR]; exact hB, (M.picks [0, 1] rfl rfl).useG (by simp)⟩
   rintro g e w ⟨hB, M⟩
   refine c_seq (c_seq (c_region ?_))
   refine s_val (r_move (v := .pointer _) rfl) ?_
   refine s_call1 0 (cl54 rfl) rfl (rdErr b _ _ hB) M (fun _ h => nomatch h) ?_
   rintro v g w ⟨rfl, hB⟩ M
   first | replace M := M.nf (L' := [_, _]) rfl | skip
   refine s_val (r_neq rfl rfl) ?_
   refine s_nil (e_then ?_)
   refine c_if rfl (fun h52 => ?_) (fun h52 => ?_)
   ·
    have hr : progTk r d = ([], progTk1 p d r1) := by rw [progTk, hfin]; exact if_pos h52 ▸ rfl
    refine c_seq (c_region ?_)
    refine s_val (r_assign (v := .slice _ _ _) rfl) ?_
    refine s_nil (e_then (c_ret (e_then_ret ?_)))
    refine ret_run (res_1 (v := .slice _ _ _) rfl rfl) ?_
    exact ⟨_, (g, ⟨none, 0⟩, []), rfl, ⟨by rw [hr]; rfl, by rw [hr]; exact hB, by rw [hr]; exact Own.nil _ _⟩, ((M.picks [0] rfl rfl).useG (by simp)).flat rfl⟩
   ·
    have hr : progTk r d = (p, progTk1 p d r1) := by rw [progTk, hfin]; exact if_neg h52 ▸ rfl
    refine c_skip (e_then (c_seq (c_region ?_)))
    refine s_val (r_move (v := .slice _ _ _) rfl) ?_
    refine s_val (r_assign (v := .slice _ _ _) rfl) ?_
    refine s_nil (e_then (c_ret ?_))
    refine ret_run (res_1 (v := .slice _ _ _) rfl rfl) ?_
    exact ⟨_, (g, s, sgp), rfl, ⟨by rw [hr], by rw [hr]; exact hB, by rw [hr]; exact hO⟩, (M.picks [0, 1] rfl rfl).useG (by simp)⟩
end Go.Proofs.Ytcjnniigonaapaa
