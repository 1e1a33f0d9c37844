/-
  WALKS 6: a program's fuel; may it be one?
-/
import Derived.Test.YtcjnniigonaapaaA5
namespace Go.Proofs.Ytcjnniigonaapaa
open Go Go.Az Go.Proofs
set_option maxHeartbeats 4000000
theorem drop_at {α : Type} {l : List α} {k : Nat} {x : α} (h : l[k]? = some x) : l.drop k = x :: l.drop (k + 1) := by
  obtain ⟨hk, e⟩ := List.getElem?_eq_some_iff.1 h
  rw [List.drop_eq_getElem_cons hk, e]
theorem insAt_of {p : Prog} {k : Nat} {x : Ins} (h : p[k]? = some x) : insAt p k = x := by simp [insAt, List.getD_eq_getElem?_getD, h]

theorem fuelOf (s : Sl) (p : Prog) (hp : p.wf) (hl : p.length ≤ 1000000) (w0 : World) (h : PrF s p w0) :
    Calls Try.prog 60 #[s.v p.length] w0 fun e w' => e = .returned (i64 (fuel p)) ∧ Keep [] w0 w' := by
  have M := St.begin w0 LsF.nice h
  refine calls_of 30 Try.func60 rfl rfl rfl ?_
  refine c_seq (c_region ?_)
  refine s_val (r_assign (v := .int _ _) rfl) ?_
  refine s_nil (e_then (c_seq (c_region ?_)))
  refine s_val (r_move (v := .slice _ _ _) rfl) ?_
  refine s_val (r_len Try.underlying46 rfl) ?_
  refine s_val (r_assign (v := .int _ _) rfl) ?_
  refine s_nil (e_then (c_seq (c_seq (c_region ?_))))
  refine s_val (r_move (v := .slice _ _ _) rfl) ?_
  refine s_val (r_len Try.underlying46 rfl) ?_
  refine s_val (r_move (v := .int _ _) rfl) ?_
  refine s_nil (e_then (c_block ?_))
  refine c_loopG [3, 5, 10, 11, 12, 13, 14, 15, 16, 17, 18, 19, 20, 21, 22, 23, 24, 25, 26, 27, 28] (Γ := Nat × Int) (vals := fun (k, n) => [(10, i64 k), (3, i64 n)]) (I := fun m (k, n) w => m + k = p.length ∧ fuelGo (p.drop k) n = fuel p ∧ (0 ≤ n ∧ n ≤ 1000000 + k * 8355585) ∧ St [] [] w0 w [] [PrF s p]) p.length (0, p.length) ⟨rfl, rfl, trivial⟩ ⟨rfl, rfl, by omega, M⟩ ?_
  rintro m ⟨k, n⟩ e w ⟨hk, hg, hn, M⟩
  refine c_seq (c_region ?_)
  refine s_val (r_lss rfl rfl) ?_
  refine s_nil (e_then (c_seq ?_))
  refine c_if rfl (fun h11 => ?_) (fun h11 => ?_)
  ·
   obtain ⟨x, hx⟩ : ∃ x, p[k]? = some x := ⟨_, List.getElem?_eq_getElem (by omega)⟩
   obtain ⟨b1, o1, ha⟩ := (M.fact (j := 0) rfl).addr (by omega)
   obtain ⟨_, _, _, ⟨hb0, hb1⟩, ⟨hi0, hi1⟩⟩ := hp x (List.mem_of_getElem? hx)
   have hm0 : 0 ≤ x.b * (max x.imm 1 - 1) := Int.mul_nonneg hb0 (by omega)
   have hm1 : x.b * (max x.imm 1 - 1) ≤ 255 * 32766 := Int.mul_le_mul hb1 (by omega) (by omega) (by omega)
   rw [drop_at hx] at hg
   refine c_skip (e_then (c_seq (c_block (c_seq (c_region ?_)))))
   refine s_val (r_indexAddrS Try.underlying46 sz44 rfl (ha) rfl (by omega) (by omega) rfl) ?_
   refine s_val (r_loadN (cs := ins x) Try.underlying44 rfl sz44 rfl rfl (fun j v hv => (M.fact (j := 0) rfl).cell ha hx hv)) ?_
   refine a_alloc zr44 cells_agg M ?_
   intro b5 w M
   first | replace M := M.nf (L' := [[(_, _)]]) rfl | skip
   refine a_storeS (v := .agg _) (cs' := [_, _, _, _, _]) sz44 M rfl rfl cells_agg (k := 0) (j := 0) rfl rfl rfl rfl rfl rfl ?_
   intro w M
   first | replace M := M.nf (L' := [[(_, _)]]) rfl | skip
   refine s_nil (e_then (c_seq (c_region ?_)))
   refine s_val (r_fieldAddr (o' := 0) fb44_0 (by decide) rfl rfl) ?_
   refine a_load1 (v := .int _ _) Try.underlying42 rfl M rfl (k := 0) (j := 0) rfl rfl rfl ?_
   refine s_val (r_eql rfl rfl) ?_
   refine s_nil (e_then ?_)
   refine c_if rfl (fun h16 => ?_) (fun h16 => ?_)
   ·
    refine c_region ?_
    refine s_val (r_move (v := .int _ _) rfl) ?_
    refine s_val (r_fieldAddr (o' := 3) fb44_3 (by decide) rfl rfl) ?_
    refine a_load1 (v := .int _ _) Try.underlying5 rfl M rfl (k := 0) (j := 0) rfl rfl rfl ?_
    first | (refine s_val (r_conv Try.underlying5 Try.underlying3 rfl (w64 (by omega) (by omega))) ?_) | (refine s_val (r_conv Try.underlying5 Try.underlying3 rfl rfl) ?_)
    refine s_val (r_fieldAddr (o' := 4) fb44_4 (by decide) rfl rfl) ?_
    refine a_load1 (v := .int _ _) Try.underlying22 rfl M rfl (k := 0) (j := 0) rfl rfl rfl ?_
    first | (refine s_val (r_conv Try.underlying22 Try.underlying3 rfl (w64 (by omega) (by omega))) ?_) | (refine s_val (r_conv Try.underlying22 Try.underlying3 rfl rfl) ?_)
    refine s_val (r_max2 rfl rfl) ?_
    first | (refine s_val (r_sub rfl rfl (w64 (by omega) (by omega))) ?_) | (refine s_val (r_sub rfl rfl rfl) ?_)
    first | (refine s_val (r_mul rfl rfl (w64 (by omega) (by omega))) ?_) | (refine s_val (r_mul rfl rfl rfl) ?_)
    first | (refine s_val (r_add rfl rfl (w64 (by omega) (by omega))) ?_) | (refine s_val (r_add rfl rfl rfl) ?_)
    refine s_val (r_assign (v := .int _ _) rfl) ?_
    refine s_nil (e_blk (e_then (c_region ?_)))
    first | (refine s_val (r_add rfl rfl (w64 (by omega) (by omega))) ?_) | (refine s_val (r_add rfl rfl rfl) ?_)
    refine s_val (r_move (v := .int _ _) rfl) ?_
    refine s_nil (e_then ?_)
    first
      | exact loop_end (m - 1) (k + 1, n + x.b * (max x.imm 1 - 1)) (by repeat (first | exact ag_refl | exact ag_mask rfl ag_refl | refine ag_upd rfl ?_ | refine ag_mask rfl ?_)) ⟨i64succ k, rfl, trivial⟩ (by omega) ⟨by omega, by rw [← hg]; simp only [fuelGo]; rw [if_pos h16], by push_cast; omega, M.only trivial ⟨rfl, trivial⟩⟩
      | exact loop_end (m - 1) (k + 1, n) (by repeat (first | exact ag_refl | exact ag_mask rfl ag_refl | refine ag_upd rfl ?_ | refine ag_mask rfl ?_)) ⟨i64succ k, rfl, trivial⟩ (by omega) ⟨by omega, by rw [← hg]; simp only [fuelGo]; rw [if_neg h16], by push_cast; omega, M.only trivial ⟨rfl, trivial⟩⟩
   ·
    refine c_skip (e_blk (e_then (c_region ?_)))
    first | (refine s_val (r_add rfl rfl (w64 (by omega) (by omega))) ?_) | (refine s_val (r_add rfl rfl rfl) ?_)
    refine s_val (r_move (v := .int _ _) rfl) ?_
    refine s_nil (e_then ?_)
    first
      | exact loop_end (m - 1) (k + 1, n + x.b * (max x.imm 1 - 1)) (by repeat (first | exact ag_refl | exact ag_mask rfl ag_refl | refine ag_upd rfl ?_ | refine ag_mask rfl ?_)) ⟨i64succ k, rfl, trivial⟩ (by omega) ⟨by omega, by rw [← hg]; simp only [fuelGo]; rw [if_pos h16], by push_cast; omega, M.only trivial ⟨rfl, trivial⟩⟩
      | exact loop_end (m - 1) (k + 1, n) (by repeat (first | exact ag_refl | exact ag_mask rfl ag_refl | refine ag_upd rfl ?_ | refine ag_mask rfl ?_)) ⟨i64succ k, rfl, trivial⟩ (by omega) ⟨by omega, by rw [← hg]; simp only [fuelGo]; rw [if_neg h16], by push_cast; omega, M.only trivial ⟨rfl, trivial⟩⟩
  ·
   have hr : fuel p = n := by rw [← hg, List.drop_of_length_le (by omega)]; rfl
   refine c_exit (e_then_exit (e_then_exit (e_blk_here (e_then (c_seq (c_region ?_))))))
   refine s_val (r_move (v := .int _ _) rfl) ?_
   refine s_val (r_assign (v := .int _ _) rfl) ?_
   refine s_nil (e_then (c_ret ?_))
   refine ret_run (res_1 (v := .int _ _) rfl rfl) ?_
   exact ⟨congrArg (fun n => Ending.returned (i64 n)) hr.symm, M.keep⟩

theorem progCheckOf (s : Sl) (p : Prog) (hp : p.wf) (d : Bool) (w0 : World) (h : PrF s p w0) :
    Calls Try.prog 46 #[s.v p.length, bo d] w0 fun e w' => e = .returned (i64 (progCheck p d)) ∧ Keep [] w0 w' := by
  have M := St.begin w0 LsF.nice h
  refine calls_of 30 Try.func46 rfl rfl rfl ?_
  refine c_seq (c_region ?_)
  refine s_val (r_assign (v := .int _ _) rfl) ?_
  refine s_nil (e_then (c_seq (c_seq (c_region ?_))))
  refine s_val (r_move (v := .slice _ _ _) rfl) ?_
  refine s_val (r_len Try.underlying46 rfl) ?_
  refine s_val (r_gtr rfl rfl) ?_
  refine s_nil (e_then ?_)
  refine c_if rfl (fun h10 => ?_) (fun h10 => ?_)
  ·
   have hr : 7 = progCheck p d := by unfold progCheck; rw [if_pos (by omega)]
   refine c_seq (c_region ?_)
   refine s_val (r_assign (v := .int _ _) rfl) ?_
   refine s_nil (e_then (c_ret (e_then_ret ?_)))
   refine ret_run (res_1 (v := .int _ _) rfl rfl) ?_
   exact ⟨congrArg (fun n => Ending.returned (i64 n)) hr, M.keep⟩
  ·
   have hpc : progCheck p d = checkGo p d p.length 0 := by unfold progCheck; rw [if_neg (by omega)]
   refine c_skip (e_then (c_seq (c_seq (c_region ?_))))
   refine s_val (r_move (v := .slice _ _ _) rfl) ?_
   refine s_val (r_len Try.underlying46 rfl) ?_
   refine s_val (r_move (v := .int _ _) rfl) ?_
   refine s_nil (e_then (c_block ?_))
   refine c_loopG [4, 5, 6, 7, 13, 14, 15, 16, 17, 18, 19, 20, 21, 22, 23, 24, 25, 26] (Γ := Nat) (vals := fun k => [(13, i64 k)]) (I := fun m k w => m + k = p.length ∧ checkGo p d m k = progCheck p d ∧ St [] [] w0 w [] [PrF s p]) p.length 0 ⟨rfl, trivial⟩ ⟨rfl, hpc.symm, M⟩ ?_
   rintro m k e w ⟨hk, hg, M⟩
   refine c_seq (c_region ?_)
   refine s_val (r_lss rfl rfl) ?_
   refine s_nil (e_then (c_seq ?_))
   refine c_if rfl (fun h14 => ?_) (fun h14 => ?_)
   ·
    obtain ⟨x, hx⟩ : ∃ x, p[k]? = some x := ⟨_, List.getElem?_eq_getElem (by omega)⟩
    obtain ⟨m, rfl⟩ : ∃ j, m = j + 1 := ⟨m - 1, by omega⟩
    obtain ⟨b1, o1, ha⟩ := (M.fact (j := 0) rfl).addr (by omega)
    have hins := insAt_of hx
    rw [checkGo, hins] at hg
    refine c_skip (e_then (c_seq (c_block (c_seq (c_region ?_)))))
    refine s_val (r_move (v := .int _ _) rfl) ?_
    refine s_val (r_indexAddrS Try.underlying46 sz44 rfl (ha) rfl (by omega) (by omega) rfl) ?_
    refine s_val (r_loadN (cs := ins x) Try.underlying44 rfl sz44 rfl rfl (fun j v hv => (M.fact (j := 0) rfl).cell ha hx hv)) ?_
    refine a_alloc zr44 cells_agg M ?_
    intro b6 w M
    first | replace M := M.nf (L' := [[(_, _)]]) rfl | skip
    refine s_val (r_assign (v := .int _ _) rfl) ?_
    refine a_storeS (v := .agg _) (cs' := [_, _, _, _, _]) sz44 M rfl rfl cells_agg (k := 0) (j := 0) rfl rfl rfl rfl rfl rfl ?_
    intro w M
    first | replace M := M.nf (L' := [[(_, _)]]) rfl | skip
    refine s_nil (e_then (c_seq (c_region ?_)))
    refine s_val (r_move (v := .slice _ _ _) rfl) ?_
    refine s_val (r_move (v := .int _ _) rfl) ?_
    refine a_loadA Try.underlying44 rfl sz44 M rfl (k := 0) (j := 0) rfl rfl rfl ?_
    refine s_val (r_move (v := .bool _) rfl) ?_
    refine s_callP (cl59 rfl) (insCheckOf _ _ hp (by omega) _ (by omega) (by omega) x (hp x (List.mem_of_getElem? hx)) d _ (M.fact (j := 0) rfl)) M ?_
    intro w M
    refine s_val (r_assign (v := .int _ _) rfl) ?_
    refine s_nil (e_then (c_seq (c_region ?_)))
    refine s_val (r_move (v := .int _ _) rfl) ?_
    refine s_val (r_neq rfl rfl) ?_
    refine s_nil (e_then ?_)
    refine c_if rfl (fun h24 => ?_) (fun h24 => ?_)
    ·
     have hr : insCheck p k x d = progCheck p d := by rw [← hg, if_pos h24]
     refine c_seq (c_region ?_)
     refine s_val (r_move (v := .int _ _) rfl) ?_
     refine s_val (r_assign (v := .int _ _) rfl) ?_
     refine s_nil (e_then (c_ret (e_blk_ret (e_then_ret (e_then_ret (e_blk_ret (e_then_ret ?_)))))))
     refine ret_run (res_1 (v := .int _ _) rfl rfl) ?_
     exact ⟨congrArg (fun n => Ending.returned (i64 n)) hr, M.keep⟩
    ·
     refine c_skip (e_blk (e_then (c_region ?_)))
     first | (refine s_val (r_add rfl rfl (w64 (by omega) (by omega))) ?_) | (refine s_val (r_add rfl rfl rfl) ?_)
     refine s_val (r_move (v := .int _ _) rfl) ?_
     refine s_nil (e_then ?_)
     rw [if_neg h24] at hg
     exact loop_end m (k + 1) (by repeat (first | exact ag_refl | exact ag_mask rfl ag_refl | refine ag_upd rfl ?_ | refine ag_mask rfl ?_)) ⟨i64succ k, trivial⟩ (by omega) ⟨by omega, hg, M.only trivial ⟨rfl, trivial⟩⟩
   ·
    obtain rfl : m = 0 := by omega
    refine c_exit (e_then_exit (e_then_exit (e_blk_here (e_then (c_seq (c_seq (c_region ?_)))))))
    refine s_val (r_move (v := .slice _ _ _) rfl) ?_
    refine s_callP (cl60 rfl) (fuelOf _ _ hp (by omega) _ (M.fact (j := 0) rfl)) M ?_
    intro w M
    refine s_val (r_gtr rfl rfl) ?_
    refine s_nil (e_then ?_)
    refine c_if rfl (fun h29 => ?_) (fun h29 => ?_)
    ·
     have hr : 6 = progCheck p d := by rw [← hg, checkGo, if_pos h29]
     refine c_seq (c_region ?_)
     refine s_val (r_assign (v := .int _ _) rfl) ?_
     refine s_nil (e_then (c_ret (e_then_ret ?_)))
     refine ret_run (res_1 (v := .int _ _) rfl rfl) ?_
     exact ⟨congrArg (fun n => Ending.returned (i64 n)) hr, M.keep⟩
    ·
     have hr : 0 = progCheck p d := by rw [← hg, checkGo, if_neg h29]
     refine c_skip (e_then (c_seq (c_region ?_)))
     refine s_val (r_assign (v := .int _ _) rfl) ?_
     refine s_nil (e_then (c_ret ?_))
     refine ret_run (res_1 (v := .int _ _) rfl rfl) ?_
     exact ⟨congrArg (fun n => Ending.returned (i64 n)) hr, M.keep⟩
end Go.Proofs.Ytcjnniigonaapaa
