/-
  WALKS 5: may a program be one?
-/
import Derived.Test.YtcjnniigonaapaaA4
namespace Go.Proofs.Ytcjnniigonaapaa
open Go Go.Az Go.Proofs
set_option maxHeartbeats 4000000
abbrev tup (x : Int × Int × Bool) : Value := .tuple #[i64 x.1, i64 x.2.1, bo x.2.2]

theorem bodyOf (s : Sl) (p : Prog) (hp : p.wf) (hl : p.length ≤ 1000000) (i : Int) (w0 : World) (h : PrF s p w0) :
    Calls Try.prog 65 #[s.v p.length, i64 i] w0 fun e w' => e = .returned (tup (body p i)) ∧ Keep [] w0 w' := by
  have M := St.begin w0 LsF.nice h
  refine calls_of 34 Try.func65 rfl rfl rfl ?_
  refine c_seq (c_region ?_)
  refine s_val (r_assign (v := .int _ _) rfl) ?_
  refine s_val (r_assign (v := .int _ _) rfl) ?_
  refine s_val (r_assign (v := .bool _) rfl) ?_
  refine s_nil (e_then (c_seq (c_seq (c_region ?_))))
  refine s_val (r_move (v := .int _ _) rfl) ?_
  refine s_val (r_lss rfl rfl) ?_
  refine s_val (r_move (v := .bool _) rfl) ?_
  refine s_splitD 9 rfl (fun g9 => ?_) (fun g9 => ?_)
  ·
   have hb : body p i = (0, 0, false) := if_pos (.inl g9)
   refine s_skip (yield_Fr rfl rfl) rfl ?_
   refine s_skip (yield_Fr rfl rfl) rfl ?_
   refine s_skip (yield_Fr rfl rfl) rfl ?_
   refine s_skip (yield_Fr rfl rfl) rfl ?_
   refine s_val (r_pick (v := .bool _) rfl rfl) ?_
   refine s_val (r_move (v := .bool _) rfl) ?_
   refine s_skip (yield_Fr rfl rfl) rfl ?_
   refine s_skip (yield_Fr rfl rfl) rfl ?_
   refine s_skip (yield_Fr rfl rfl) rfl ?_
   refine s_skip (yield_Fr rfl rfl) rfl ?_
   refine s_skip (yield_Fr rfl rfl) rfl ?_
   refine s_skip (yield_Fr rfl rfl) rfl ?_
   refine s_val (r_pick (v := .bool _) rfl rfl) ?_
   refine s_nil (e_then ?_)
   refine c_yes rfl (by decide) ?_
   refine c_seq (c_region ?_)
   refine s_val (r_assign (v := .int _ _) rfl) ?_
   refine s_val (r_assign (v := .int _ _) rfl) ?_
   refine s_val (r_assign (v := .bool _) rfl) ?_
   refine s_nil (e_then (c_ret (e_then_ret ?_)))
   refine ret_run (res_3 rfl rfl rfl rfl) ?_
   exact ⟨congrArg (fun x => Ending.returned (tup x)) hb.symm, M.keep⟩
  ·
   refine s_unguard (yield_Fr rfl rfl) rfl ?_
   refine s_val (r_move (v := .int _ _) rfl) ?_
   refine s_unguard (yield_Fr rfl rfl) rfl ?_
   refine s_val (r_move (v := .slice _ _ _) rfl) ?_
   refine s_unguard (yield_Fr rfl rfl) rfl ?_
   refine s_val (r_len Try.underlying46 rfl) ?_
   refine s_unguard (yield_Fr rfl rfl) rfl ?_
   refine s_val (r_geq rfl rfl) ?_
   refine s_val (r_pick (v := .bool _) rfl rfl) ?_
   refine s_val (r_move (v := .bool _) rfl) ?_
   refine s_splitD 15 rfl (fun g15 => ?_) (fun g15 => ?_)
   ·
    have hb : body p i = (0, 0, false) := if_pos (.inr (.inl g15))
    refine s_skip (yield_Fr rfl rfl) rfl ?_
    refine s_skip (yield_Fr rfl rfl) rfl ?_
    refine s_skip (yield_Fr rfl rfl) rfl ?_
    refine s_skip (yield_Fr rfl rfl) rfl ?_
    refine s_skip (yield_Fr rfl rfl) rfl ?_
    refine s_skip (yield_Fr rfl rfl) rfl ?_
    refine s_val (r_pick (v := .bool _) rfl rfl) ?_
    refine s_nil (e_then ?_)
    refine c_yes rfl (by decide) ?_
    refine c_seq (c_region ?_)
    refine s_val (r_assign (v := .int _ _) rfl) ?_
    refine s_val (r_assign (v := .int _ _) rfl) ?_
    refine s_val (r_assign (v := .bool _) rfl) ?_
    refine s_nil (e_then (c_ret (e_then_ret ?_)))
    refine ret_run (res_3 rfl rfl rfl rfl) ?_
    exact ⟨congrArg (fun x => Ending.returned (tup x)) hb.symm, M.keep⟩
   ·
    have hi : i.toNat < p.length := by omega
    obtain ⟨x, hx⟩ : ∃ x, p[i.toNat]? = some x := ⟨_, List.getElem?_eq_getElem hi⟩
    obtain ⟨b1, o1, ha⟩ := (M.fact (j := 0) rfl).addr (by omega)
    have hins : insAt p i.toNat = x := by simp [insAt, List.getD_eq_getElem?_getD, hx]
    obtain ⟨_, _, _, ⟨hb0, hb1⟩, _⟩ := hp x (List.mem_of_getElem? hx)
    refine s_unguard (yield_Fr rfl rfl) rfl ?_
    refine s_val (r_move (v := .slice _ _ _) rfl) ?_
    refine s_unguard (yield_Fr rfl rfl) rfl ?_
    refine s_val (r_move (v := .int _ _) rfl) ?_
    refine s_unguard (yield_Fr rfl rfl) rfl ?_
    refine s_val (r_indexAddrS Try.underlying46 sz44 rfl (ha) rfl (by omega) (by omega) rfl) ?_
    refine s_unguard (yield_Fr rfl rfl) rfl ?_
    refine s_val (r_fieldAddr fb44_0 (by decide) rfl rfl) ?_
    refine s_unguard (yield_Fr rfl rfl) rfl ?_
    refine s_val (r_load1 (v := .int _ _) Try.underlying42 rfl rfl ((M.fact (j := 0) rfl).cell ha hx (j := 0) rfl)) ?_
    refine s_unguard (yield_Fr rfl rfl) rfl ?_
    refine s_val (r_neq rfl rfl) ?_
    refine s_val (r_pick (v := .bool _) rfl rfl) ?_
    refine s_nil (e_then ?_)
    refine c_if rfl (fun h22 => ?_) (fun h22 => ?_)
    ·
     have hb : body p i = (0, 0, false) := if_pos (.inr (.inr (by rw [hins]; exact h22)))
     refine c_seq (c_region ?_)
     refine s_val (r_assign (v := .int _ _) rfl) ?_
     refine s_val (r_assign (v := .int _ _) rfl) ?_
     refine s_val (r_assign (v := .bool _) rfl) ?_
     refine s_nil (e_then (c_ret (e_then_ret ?_)))
     refine ret_run (res_3 rfl rfl rfl rfl) ?_
     exact ⟨congrArg (fun x => Ending.returned (tup x)) hb.symm, M.keep⟩
    ·
     have hb : body p i = (i + 1, i + 1 + x.b, true) := by rw [body, hins]; exact if_neg (by omega)
     refine c_skip (e_then (c_seq ?_))
     refine c_drawK (by kernel_rfl) [(.q, 0), (.q, 1), (.q, 2), (.q, 3), (.q, 4), (.q, 5), (.q, 6), (.q, 7), (.q, 8), (.q, 9), (.q, 10), (.q, 11), (.q, 12), (.q, 13)] [[], [0], [], [2], [], [], [4, 5], [4, 5, 6], [4, 5, 6, 7], [4, 5, 6, 7, 8], [2, 3, 4, 5, 6, 7, 8, 9], [0, 1], [0, 1, 2, 3, 4, 5, 6, 7, 8, 9, 10, 11], [0, 1, 2, 3, 4, 5, 6, 7, 8, 9, 10, 11, 12]] (by kernel_rfl) [] M ?_
     refine w_val rfl wt_none (fun w => (r_move (v := .int _ _) rfl)) ?_
     first | (refine w_val rfl wt_none (fun w => (r_add rfl rfl (w64 (by omega) (by omega)))) ?_) | (refine w_val rfl wt_none (fun w => (r_add rfl rfl rfl)) ?_)
     refine w_val rfl wt_none (fun w => (r_move (v := .int _ _) rfl)) ?_
     first | (refine w_val rfl wt_none (fun w => (r_add rfl rfl (w64 (by omega) (by omega)))) ?_) | (refine w_val rfl wt_none (fun w => (r_add rfl rfl rfl)) ?_)
     refine w_val rfl wt_none (fun w => (r_move (v := .slice _ _ _) rfl)) ?_
     refine w_val rfl wt_none (fun w => (r_move (v := .int _ _) rfl)) ?_
     refine w_val rfl wt_none (fun w => (r_indexAddrS Try.underlying46 sz44 rfl (ha) rfl (by omega) (by omega) rfl)) ?_
     refine w_val rfl wt_none (fun w => (r_fieldAddr fb44_3 (by decide) rfl rfl)) ?_
     refine w_read rfl wt_none (fun w X G' M => r_load1 Try.underlying5 rfl rfl ((M.fact (j := 0) rfl).cell ha hx (j := 3) rfl)) ?_
     first | (refine w_val rfl wt_none (fun w => (r_conv Try.underlying5 Try.underlying3 rfl (w64 (by omega) (by omega)))) ?_) | (refine w_val rfl wt_none (fun w => (r_conv Try.underlying5 Try.underlying3 rfl rfl)) ?_)
     first | (refine w_val rfl wt_none (fun w => (r_add rfl rfl (w64 (by omega) (by omega)))) ?_) | (refine w_val rfl wt_none (fun w => (r_add rfl rfl rfl)) ?_)
     refine w_val rfl wt_none (fun w => (r_assign (v := .int _ _) rfl)) ?_
     refine w_val rfl wt_none (fun w => (r_assign (v := .int _ _) rfl)) ?_
     refine w_val rfl wt_none (fun w => (r_assign (v := .bool _) rfl)) ?_
     refine w_nil ?_
     intro w M
     refine e_then (c_ret ?_)
     refine ret_run (res_3 rfl rfl rfl rfl) ?_
     exact ⟨congrArg (fun x => Ending.returned (tup x)) hb.symm, M.keep⟩

theorem withinOf (s : Sl) (p : Prog) (hp : p.wf) (hl : p.length ≤ 1000000) (i : Int) (w0 : World) (h : PrF s p w0) :
    Calls Try.prog 64 #[s.v p.length, i64 i] w0 fun e w' => e = .returned (tup (loopOf p i)) ∧ Keep [] w0 w' := by
  have M := St.begin w0 LsF.nice h
  refine calls_of 37 Try.func64 rfl rfl rfl ?_
  refine c_seq (c_region ?_)
  refine s_val (r_assign (v := .int _ _) rfl) ?_
  refine s_val (r_assign (v := .int _ _) rfl) ?_
  refine s_val (r_assign (v := .bool _) rfl) ?_
  refine s_nil (e_then (c_seq (c_seq (c_region ?_))))
  refine s_val (r_move (v := .slice _ _ _) rfl) ?_
  refine s_val (r_len Try.underlying46 rfl) ?_
  refine s_val (r_move (v := .int _ _) rfl) ?_
  refine s_nil (e_then (c_block ?_))
  refine c_loopG [4, 5, 6, 7, 8, 9, 10, 13, 14, 15, 16, 17, 18, 19, 20, 21, 22, 23, 24, 25, 26, 27, 28, 29, 30, 31, 32, 33, 34, 35, 36] (Γ := Nat) (vals := fun k => [(13, i64 k)]) (I := fun n k w => n + k = p.length ∧ loopGo p i n k = loopOf p i ∧ St [] [] w0 w [] [PrF s p]) p.length 0 ⟨rfl, trivial⟩ ⟨rfl, rfl, M⟩ ?_
  rintro n k e w ⟨hk, hg, M⟩
  refine c_seq (c_region ?_)
  refine s_val (r_lss rfl rfl) ?_
  refine s_nil (e_then (c_seq ?_))
  refine c_if rfl (fun h14 => ?_) (fun h14 => ?_)
  ·
   obtain ⟨m, rfl⟩ : ∃ m, n = m + 1 := ⟨n - 1, by omega⟩
   refine c_skip (e_then (c_seq (c_block (c_seq (c_region ?_)))))
   refine s_val (r_move (v := .int _ _) rfl) ?_
   refine s_val (r_assign (v := .int _ _) rfl) ?_
   refine s_nil (e_then (c_seq (c_region ?_)))
   refine s_val (r_move (v := .slice _ _ _) rfl) ?_
   refine s_val (r_move (v := .int _ _) rfl) ?_
   refine s_callP (cl65 rfl) (bodyOf _ _ hp hl _ _ (M.fact (j := 0) rfl)) M ?_
   intro w M
   refine s_val (r_move rfl) ?_
   refine s_val (r_extract rfl rfl) ?_
   refine s_val (r_extract rfl rfl) ?_
   refine s_val (r_extract rfl rfl) ?_
   refine s_val (r_assign (v := .int _ _) rfl) ?_
   refine s_val (r_assign (v := .int _ _) rfl) ?_
   refine s_val (r_assign (v := .bool _) rfl) ?_
   refine s_nil (e_then (c_seq (c_region ?_)))
   refine s_val (r_move (v := .bool _) rfl) ?_
   refine s_val (r_move (v := .bool _) rfl) ?_
   refine s_split 24 rfl (fun g24 => ?_) (fun g24 => ?_)
   ·
    refine s_unguard (yield_Fr rfl rfl) rfl ?_
    refine s_val (r_move (v := .int _ _) rfl) ?_
    refine s_unguard (yield_Fr rfl rfl) rfl ?_
    refine s_val (r_move (v := .int _ _) rfl) ?_
    refine s_unguard (yield_Fr rfl rfl) rfl ?_
    refine s_val (r_geq rfl rfl) ?_
    refine s_val (r_pick (v := .bool _) rfl rfl) ?_
    refine s_val (r_move (v := .bool _) rfl) ?_
    refine s_splitD 29 rfl (fun g29 => ?_) (fun g29 => ?_)
    ·
     refine s_unguard (yield_Fr rfl rfl) rfl ?_
     refine s_val (r_move (v := .int _ _) rfl) ?_
     refine s_unguard (yield_Fr rfl rfl) rfl ?_
     refine s_val (r_move (v := .int _ _) rfl) ?_
     refine s_unguard (yield_Fr rfl rfl) rfl ?_
     refine s_val (r_lss rfl rfl) ?_
     refine s_val (r_pick (v := .bool _) rfl rfl) ?_
     refine s_nil (e_then ?_)
     refine c_if rfl (fun h33 => ?_) (fun h33 => ?_)
     ·
      have hr : loopOf p i = ((body p k).1, (body p k).2.1, true) := by rw [← hg, loopGo]; exact if_pos ⟨g24, g29, h33⟩
      refine c_seq (c_region ?_)
      refine s_val (r_move (v := .int _ _) rfl) ?_
      refine s_val (r_move (v := .int _ _) rfl) ?_
      refine s_val (r_assign (v := .int _ _) rfl) ?_
      refine s_val (r_assign (v := .int _ _) rfl) ?_
      refine s_val (r_assign (v := .bool _) rfl) ?_
      refine s_nil (e_then (c_ret (e_blk_ret (e_then_ret (e_then_ret (e_blk_ret (e_then_ret ?_)))))))
      refine ret_run (res_3 rfl rfl rfl rfl) ?_
      exact ⟨congrArg (fun x => Ending.returned (tup x)) hr.symm, M.keep⟩
     ·
      refine c_skip (e_blk (e_then (c_region ?_)))
      first | (refine s_val (r_add rfl rfl (w64 (by omega) (by omega))) ?_) | (refine s_val (r_add rfl rfl rfl) ?_)
      refine s_val (r_move (v := .int _ _) rfl) ?_
      refine s_nil (e_then ?_)
      have hstep : ¬ ((body p k).2.2 = true ∧ (body p k).1 ≤ i ∧ i < (body p k).2.1) := by
        rintro ⟨a1, a2, a3⟩
        first
          | (rw [a1] at g24; cases g24; done)
          | exact g29 a2
          | exact h33 a3
      exact loop_end m (k + 1) (by repeat (first | exact ag_refl | exact ag_mask rfl ag_refl | refine ag_upd rfl ?_ | refine ag_mask rfl ?_)) ⟨i64succ k, trivial⟩ (by omega) ⟨by omega, by rw [← hg, loopGo, if_neg hstep], M⟩
    ·
     refine s_skip (yield_Fr rfl rfl) rfl ?_
     refine s_skip (yield_Fr rfl rfl) rfl ?_
     refine s_skip (yield_Fr rfl rfl) rfl ?_
     refine s_val (r_pick (v := .bool _) rfl rfl) ?_
     refine s_nil (e_then ?_)
     refine c_no rfl (by decide) ?_
     refine c_skip (e_blk (e_then (c_region ?_)))
     first | (refine s_val (r_add rfl rfl (w64 (by omega) (by omega))) ?_) | (refine s_val (r_add rfl rfl rfl) ?_)
     refine s_val (r_move (v := .int _ _) rfl) ?_
     refine s_nil (e_then ?_)
     have hstep : ¬ ((body p k).2.2 = true ∧ (body p k).1 ≤ i ∧ i < (body p k).2.1) := by
       rintro ⟨a1, a2, a3⟩
       first
         | (rw [a1] at g24; cases g24; done)
         | exact g29 a2
         | exact h33 a3
     exact loop_end m (k + 1) (by repeat (first | exact ag_refl | exact ag_mask rfl ag_refl | refine ag_upd rfl ?_ | refine ag_mask rfl ?_)) ⟨i64succ k, trivial⟩ (by omega) ⟨by omega, by rw [← hg, loopGo, if_neg hstep], M⟩
   ·
    refine s_skip (yield_Fr rfl rfl) rfl ?_
    refine s_skip (yield_Fr rfl rfl) rfl ?_
    refine s_skip (yield_Fr rfl rfl) rfl ?_
    refine s_val (r_pick (v := .bool _) rfl rfl) ?_
    refine s_val (r_move (v := .bool _) rfl) ?_
    refine s_skip (yield_Fr rfl rfl) rfl ?_
    refine s_skip (yield_Fr rfl rfl) rfl ?_
    refine s_skip (yield_Fr rfl rfl) rfl ?_
    refine s_val (r_pick (v := .bool _) rfl rfl) ?_
    refine s_nil (e_then ?_)
    refine c_no rfl (by decide) ?_
    refine c_skip (e_blk (e_then (c_region ?_)))
    first | (refine s_val (r_add rfl rfl (w64 (by omega) (by omega))) ?_) | (refine s_val (r_add rfl rfl rfl) ?_)
    refine s_val (r_move (v := .int _ _) rfl) ?_
    refine s_nil (e_then ?_)
    have hstep : ¬ ((body p k).2.2 = true ∧ (body p k).1 ≤ i ∧ i < (body p k).2.1) := by
      rintro ⟨a1, a2, a3⟩
      first
        | (rw [a1] at g24; cases g24; done)
        | exact g29 a2
        | exact h33 a3
    exact loop_end m (k + 1) (by repeat (first | exact ag_refl | exact ag_mask rfl ag_refl | refine ag_upd rfl ?_ | refine ag_mask rfl ?_)) ⟨i64succ k, trivial⟩ (by omega) ⟨by omega, by rw [← hg, loopGo, if_neg hstep], M⟩
  ·
   obtain rfl : n = 0 := by omega
   have hr : loopOf p i = (0, 0, false) := hg.symm
   refine c_exit (e_then_exit (e_then_exit (e_blk_here (e_then (c_seq (c_region ?_))))))
   refine s_val (r_assign (v := .int _ _) rfl) ?_
   refine s_val (r_assign (v := .int _ _) rfl) ?_
   refine s_val (r_assign (v := .bool _) rfl) ?_
   refine s_nil (e_then (c_ret ?_))
   refine ret_run (res_3 rfl rfl rfl rfl) ?_
   exact ⟨congrArg (fun x => Ending.returned (tup x)) hr.symm, M.keep⟩

theorem insCheckOf (s : Sl) (p : Prog) (hp : p.wf) (hl : p.length ≤ 1000000) (i : Int) (hi0 : 0 ≤ i) (hi1 : i < p.length) (x : Ins) (hx : x.wf) (d : Bool) (w0 : World) (h : PrF s p w0) :
    Calls Try.prog 59 #[s.v p.length, i64 i, .agg (ins x).toArray, bo d] w0 fun e w' => e = .returned (i64 (insCheck p i x d)) ∧ Keep [] w0 w' := by
  obtain ⟨⟨x1, x2⟩, ⟨x3, x4⟩, ⟨x5, x6⟩, ⟨x7, x8⟩, ⟨x9, x10⟩⟩ := hx
  have M := St.begin w0 LsF.nice h
  refine calls_of 141 Try.func59 rfl rfl rfl ?_
  refine c_seq (c_region ?_)
  refine a_box (v := .agg _) rfl cells_agg M ?_
  intro b6 w M
  first | replace M := M.nf (L' := [[(_, _)]]) rfl | skip
  refine s_val (r_assign (v := .int _ _) rfl) ?_
  refine s_nil (e_then (c_seq (c_region ?_)))
  refine s_val (r_move (v := .slice _ _ _) rfl) ?_
  refine s_val (r_move (v := .int _ _) rfl) ?_
  refine s_callP (cl64 rfl) (withinOf _ _ hp hl _ _ (M.fact (j := 0) rfl)) M ?_
  intro w M
  refine s_val (r_move rfl) ?_
  refine s_val (r_extract rfl rfl) ?_
  refine s_val (r_extract rfl rfl) ?_
  refine s_val (r_extract rfl rfl) ?_
  refine s_val (r_assign (v := .int _ _) rfl) ?_
  refine s_val (r_assign (v := .int _ _) rfl) ?_
  refine s_val (r_assign (v := .bool _) rfl) ?_
  refine s_nil (e_then ?_)
  refine c_cutG (Γ := Unit) [8, 23, 24, 25, 26, 27, 28, 29, 30, 31, 32, 33, 34, 35, 36, 37, 38, 39, 40, 41, 42, 43, 44, 45, 46, 47, 48, 49, 50, 51, 52, 53, 54, 55, 56, 57, 58, 59, 60, 61, 62, 63, 64, 65, 66, 67, 68, 69, 70, 71, 72, 73, 74, 75, 76, 77, 78, 79, 80, 81, 82, 83, 84, 85, 86, 87, 88, 89, 90, 91, 92, 93, 94, 95, 96, 97] (fun _ => []) (fun _ w => (¬ (x.op ≥ 15 ∨ (x.op = 13 ∧ d = false)) ∧ ¬ (x.dst ≥ 12 ∨ x.a ≥ 12 ∨ (x.op ≠ 12 ∧ x.b ≥ 12) ∨ (x.op = 14 ∧ x.a > 8)) ∧ ¬ (x.op = 12 ∧ ((loopOf p i).2.2 = true ∨ x.b < 1 ∨ x.b > p.length - i - 1 ∨ x.imm < 1 ∨ x.imm > 8))) ∧ St [] [] w0 w [[(b6, C (ins x) 44)]] [PrF s p]) ?_ ?_
  ·
   refine c_block (c_seq (c_region ?_))
   refine s_val (r_fieldAddr (o' := 0) fb44_0 (by decide) rfl rfl) ?_
   refine a_load1 (v := .int _ _) Try.underlying42 rfl M rfl (k := 0) (j := 0) rfl rfl rfl ?_
   refine s_val (r_geq rfl rfl) ?_
   refine s_val (r_move (v := .bool _) rfl) ?_
   refine s_splitD 27 rfl (fun g27 => ?_) (fun g27 => ?_)
   ·
    refine s_skip (yield_Fr rfl rfl) rfl ?_
    refine s_skip (yield_Fr rfl rfl) rfl ?_
    refine s_skip (yield_Fr rfl rfl) rfl ?_
    refine s_skip (yield_Fr rfl rfl) rfl ?_
    refine s_skipU (yield_U rfl rfl) ?_
    refine s_skipU (yield_U rfl rfl) ?_
    refine s_skip (yield_Fr rfl rfl) rfl ?_
    refine s_val (r_pick (v := .bool _) rfl rfl) ?_
    refine s_val (r_assign (v := .bool _) rfl) ?_
    refine s_nil (e_then ?_)
    refine c_yes rfl (by decide) ?_
    refine c_seq (c_region ?_)
    have hr : 5 = insCheck p i x d := by unfold insCheck; rw [if_pos (by first | exact .inl g27 | exact .inr ⟨g31, by simpa using h23⟩)]
    refine s_val (r_assign (v := .int _ _) rfl) ?_
    refine s_nil (e_then (c_ret (e_blk_ret (e_then_ret ?_))))
    refine ret_run (res_1 (v := .int _ _) rfl rfl) ?_
    exact ⟨congrArg (fun n => Ending.returned (i64 n)) hr, M.keep⟩
   ·
    refine s_unguard (yield_Fr rfl rfl) rfl ?_
    refine s_val (r_fieldAddr (o' := 0) fb44_0 (by decide) rfl rfl) ?_
    refine s_unguard (yield_Fr rfl rfl) rfl ?_
    refine a_load1 (v := .int _ _) Try.underlying42 rfl M rfl (k := 0) (j := 0) rfl rfl rfl ?_
    refine s_unguard (yield_Fr rfl rfl) rfl ?_
    refine s_val (r_eql rfl rfl) ?_
    refine s_unguard (yield_Fr rfl rfl) rfl ?_
    refine s_val (r_move (v := .bool _) rfl) ?_
    refine s_splitD 31 rfl (fun g31 => ?_) (fun g31 => ?_)
    ·
     refine s_unguard (yield_Fr rfl rfl) rfl ?_
     refine s_val (r_move (v := .bool _) rfl) ?_
     refine s_unguard (yield_Fr rfl rfl) rfl ?_
     refine s_val (r_not rfl) ?_
     refine s_unguard (yield_Fr rfl rfl) rfl ?_
     refine s_val (r_pick (v := .bool _) rfl rfl) ?_
     refine s_val (r_pick (v := .bool _) rfl rfl) ?_
     refine s_val (r_assign (v := .bool _) rfl) ?_
     refine s_nil (e_then ?_)
     refine c_cond rfl (fun h23 => ?_) (fun h23 => ?_)
     ·
      refine c_seq (c_region ?_)
      have hr : 5 = insCheck p i x d := by unfold insCheck; rw [if_pos (by first | exact .inl g27 | exact .inr ⟨g31, by simpa using h23⟩)]
      refine s_val (r_assign (v := .int _ _) rfl) ?_
      refine s_nil (e_then (c_ret (e_blk_ret (e_then_ret ?_))))
      refine ret_run (res_1 (v := .int _ _) rfl rfl) ?_
      exact ⟨congrArg (fun n => Ending.returned (i64 n)) hr, M.keep⟩
     ·
      refine c_seq (c_region ?_)
      have hc1 : ¬ (x.op ≥ 15 ∨ (x.op = 13 ∧ d = false)) := by
        rintro (h | ⟨h, hd⟩)
        · exact g27 h
        · first | exact g31 h | (rw [hd] at h23; cases h23)
      refine s_val (r_fieldAddr (o' := 1) fb44_1 (by decide) rfl rfl) ?_
      refine a_load1 (v := .int _ _) Try.underlying5 rfl M rfl (k := 0) (j := 0) rfl rfl rfl ?_
      refine s_val (r_geq rfl rfl) ?_
      refine s_val (r_move (v := .bool _) rfl) ?_
      refine s_splitD 40 rfl (fun g40 => ?_) (fun g40 => ?_)
      ·
       refine s_skip (yield_Fr rfl rfl) rfl ?_
       refine s_skip (yield_Fr rfl rfl) rfl ?_
       refine s_skip (yield_Fr rfl rfl) rfl ?_
       refine s_val (r_pick (v := .bool _) rfl rfl) ?_
       refine s_val (r_move (v := .bool _) rfl) ?_
       refine s_skip (yield_Fr rfl rfl) rfl ?_
       refine s_skip (yield_Fr rfl rfl) rfl ?_
       refine s_skip (yield_Fr rfl rfl) rfl ?_
       refine s_skip (yield_Fr rfl rfl) rfl ?_
       refine s_skipU (yield_U rfl rfl) ?_
       refine s_skipU (yield_U rfl rfl) ?_
       refine s_skipU (yield_U rfl rfl) ?_
       refine s_skip (yield_Fr rfl rfl) rfl ?_
       refine s_val (r_pick (v := .bool _) rfl rfl) ?_
       refine s_val (r_move (v := .bool _) rfl) ?_
       refine s_skip (yield_Fr rfl rfl) rfl ?_
       refine s_skip (yield_Fr rfl rfl) rfl ?_
       refine s_skip (yield_Fr rfl rfl) rfl ?_
       refine s_skip (yield_Fr rfl rfl) rfl ?_
       refine s_skipU (yield_U rfl rfl) ?_
       refine s_skipU (yield_U rfl rfl) ?_
       refine s_skipU (yield_U rfl rfl) ?_
       refine s_skip (yield_Fr rfl rfl) rfl ?_
       refine s_val (r_pick (v := .bool _) rfl rfl) ?_
       refine s_val (r_assign (v := .bool _) rfl) ?_
       refine s_nil (e_then ?_)
       refine c_yes rfl (by decide) ?_
       refine c_seq (c_region ?_)
       have hr : 2 = insCheck p i x d := by unfold insCheck; rw [if_neg hc1, if_pos (by omega)]
       refine s_val (r_assign (v := .int _ _) rfl) ?_
       refine s_nil (e_then (c_ret (e_blk_ret (e_then_ret ?_))))
       refine ret_run (res_1 (v := .int _ _) rfl rfl) ?_
       exact ⟨congrArg (fun n => Ending.returned (i64 n)) hr, M.keep⟩
      ·
       refine s_unguard (yield_Fr rfl rfl) rfl ?_
       refine s_val (r_fieldAddr (o' := 2) fb44_2 (by decide) rfl rfl) ?_
       refine s_unguard (yield_Fr rfl rfl) rfl ?_
       refine a_load1 (v := .int _ _) Try.underlying5 rfl M rfl (k := 0) (j := 0) rfl rfl rfl ?_
       refine s_unguard (yield_Fr rfl rfl) rfl ?_
       refine s_val (r_geq rfl rfl) ?_
       refine s_val (r_pick (v := .bool _) rfl rfl) ?_
       refine s_val (r_move (v := .bool _) rfl) ?_
       refine s_splitD 45 rfl (fun g45 => ?_) (fun g45 => ?_)
       ·
        refine s_skip (yield_Fr rfl rfl) rfl ?_
        refine s_skip (yield_Fr rfl rfl) rfl ?_
        refine s_skip (yield_Fr rfl rfl) rfl ?_
        refine s_skip (yield_Fr rfl rfl) rfl ?_
        refine s_skipU (yield_U rfl rfl) ?_
        refine s_skipU (yield_U rfl rfl) ?_
        refine s_skipU (yield_U rfl rfl) ?_
        refine s_skip (yield_Fr rfl rfl) rfl ?_
        refine s_val (r_pick (v := .bool _) rfl rfl) ?_
        refine s_val (r_move (v := .bool _) rfl) ?_
        refine s_skip (yield_Fr rfl rfl) rfl ?_
        refine s_skip (yield_Fr rfl rfl) rfl ?_
        refine s_skip (yield_Fr rfl rfl) rfl ?_
        refine s_skip (yield_Fr rfl rfl) rfl ?_
        refine s_skipU (yield_U rfl rfl) ?_
        refine s_skipU (yield_U rfl rfl) ?_
        refine s_skipU (yield_U rfl rfl) ?_
        refine s_skip (yield_Fr rfl rfl) rfl ?_
        refine s_val (r_pick (v := .bool _) rfl rfl) ?_
        refine s_val (r_assign (v := .bool _) rfl) ?_
        refine s_nil (e_then ?_)
        refine c_yes rfl (by decide) ?_
        refine c_seq (c_region ?_)
        have hr : 2 = insCheck p i x d := by unfold insCheck; rw [if_neg hc1, if_pos (by omega)]
        refine s_val (r_assign (v := .int _ _) rfl) ?_
        refine s_nil (e_then (c_ret (e_blk_ret (e_then_ret ?_))))
        refine ret_run (res_1 (v := .int _ _) rfl rfl) ?_
        exact ⟨congrArg (fun n => Ending.returned (i64 n)) hr, M.keep⟩
       ·
        refine s_unguard (yield_Fr rfl rfl) rfl ?_
        refine s_val (r_fieldAddr (o' := 0) fb44_0 (by decide) rfl rfl) ?_
        refine s_unguard (yield_Fr rfl rfl) rfl ?_
        refine a_load1 (v := .int _ _) Try.underlying42 rfl M rfl (k := 0) (j := 0) rfl rfl rfl ?_
        refine s_unguard (yield_Fr rfl rfl) rfl ?_
        refine s_val (r_neq rfl rfl) ?_
        refine s_unguard (yield_Fr rfl rfl) rfl ?_
        refine s_val (r_move (v := .bool _) rfl) ?_
        refine s_splitD 49 rfl (fun g49 => ?_) (fun g49 => ?_)
        ·
         refine s_unguard (yield_Fr rfl rfl) rfl ?_
         refine s_val (r_fieldAddr (o' := 3) fb44_3 (by decide) rfl rfl) ?_
         refine s_unguard (yield_Fr rfl rfl) rfl ?_
         refine a_load1 (v := .int _ _) Try.underlying5 rfl M rfl (k := 0) (j := 0) rfl rfl rfl ?_
         refine s_unguard (yield_Fr rfl rfl) rfl ?_
         refine s_val (r_geq rfl rfl) ?_
         refine s_unguard (yield_Fr rfl rfl) rfl ?_
         refine s_val (r_pick (v := .bool _) rfl rfl) ?_
         refine s_val (r_pick (v := .bool _) rfl rfl) ?_
         refine s_val (r_move (v := .bool _) rfl) ?_
         refine s_splitD 55 rfl (fun g55 => ?_) (fun g55 => ?_)
         ·
          refine s_skip (yield_Fr rfl rfl) rfl ?_
          refine s_skip (yield_Fr rfl rfl) rfl ?_
          refine s_skip (yield_Fr rfl rfl) rfl ?_
          refine s_skip (yield_Fr rfl rfl) rfl ?_
          refine s_skipU (yield_U rfl rfl) ?_
          refine s_skipU (yield_U rfl rfl) ?_
          refine s_skipU (yield_U rfl rfl) ?_
          refine s_skip (yield_Fr rfl rfl) rfl ?_
          refine s_val (r_pick (v := .bool _) rfl rfl) ?_
          refine s_val (r_assign (v := .bool _) rfl) ?_
          refine s_nil (e_then ?_)
          refine c_yes rfl (by decide) ?_
          refine c_seq (c_region ?_)
          have hr : 2 = insCheck p i x d := by unfold insCheck; rw [if_neg hc1, if_pos (by omega)]
          refine s_val (r_assign (v := .int _ _) rfl) ?_
          refine s_nil (e_then (c_ret (e_blk_ret (e_then_ret ?_))))
          refine ret_run (res_1 (v := .int _ _) rfl rfl) ?_
          exact ⟨congrArg (fun n => Ending.returned (i64 n)) hr, M.keep⟩
         ·
          refine s_unguard (yield_Fr rfl rfl) rfl ?_
          refine s_val (r_fieldAddr (o' := 0) fb44_0 (by decide) rfl rfl) ?_
          refine s_unguard (yield_Fr rfl rfl) rfl ?_
          refine a_load1 (v := .int _ _) Try.underlying42 rfl M rfl (k := 0) (j := 0) rfl rfl rfl ?_
          refine s_unguard (yield_Fr rfl rfl) rfl ?_
          refine s_val (r_eql rfl rfl) ?_
          refine s_unguard (yield_Fr rfl rfl) rfl ?_
          refine s_val (r_move (v := .bool _) rfl) ?_
          refine s_splitD 59 rfl (fun g59 => ?_) (fun g59 => ?_)
          ·
           refine s_unguard (yield_Fr rfl rfl) rfl ?_
           refine s_val (r_fieldAddr (o' := 2) fb44_2 (by decide) rfl rfl) ?_
           refine s_unguard (yield_Fr rfl rfl) rfl ?_
           refine a_load1 (v := .int _ _) Try.underlying5 rfl M rfl (k := 0) (j := 0) rfl rfl rfl ?_
           refine s_unguard (yield_Fr rfl rfl) rfl ?_
           refine s_val (r_gtr rfl rfl) ?_
           refine s_unguard (yield_Fr rfl rfl) rfl ?_
           refine s_val (r_pick (v := .bool _) rfl rfl) ?_
           refine s_val (r_pick (v := .bool _) rfl rfl) ?_
           refine s_val (r_assign (v := .bool _) rfl) ?_
           refine s_nil (e_then ?_)
           refine c_if rfl (fun h36 => ?_) (fun h36 => ?_)
           ·
            refine c_seq (c_region ?_)
            have hr : 2 = insCheck p i x d := by unfold insCheck; rw [if_neg hc1, if_pos (by omega)]
            refine s_val (r_assign (v := .int _ _) rfl) ?_
            refine s_nil (e_then (c_ret (e_blk_ret (e_then_ret ?_))))
            refine ret_run (res_1 (v := .int _ _) rfl rfl) ?_
            exact ⟨congrArg (fun n => Ending.returned (i64 n)) hr, M.keep⟩
           ·
            refine c_seq (c_region ?_)
            have hc2 : ¬ (x.dst ≥ 12 ∨ x.a ≥ 12 ∨ (x.op ≠ 12 ∧ x.b ≥ 12) ∨ (x.op = 14 ∧ x.a > 8)) := by omega
            refine s_val (r_fieldAddr (o' := 0) fb44_0 (by decide) rfl rfl) ?_
            refine a_load1 (v := .int _ _) Try.underlying42 rfl M rfl (k := 0) (j := 0) rfl rfl rfl ?_
            refine s_val (r_eql rfl rfl) ?_
            refine s_val (r_move (v := .bool _) rfl) ?_
            refine s_splitD 69 rfl (fun g69 => ?_) (fun g69 => ?_)
            ·
             refine s_unguard (yield_Fr rfl rfl) rfl ?_
             refine s_val (r_move (v := .bool _) rfl) ?_
             refine s_unguard (yield_Fr rfl rfl) rfl ?_
             refine s_val (r_move (v := .bool _) rfl) ?_
             refine s_split 71 rfl (fun g71 => ?_) (fun g71 => ?_)
             ·
              refine s_skip (yield_Fr rfl rfl) rfl ?_
              refine s_skip (yield_Fr rfl rfl) rfl ?_
              refine s_skip (yield_Fr rfl rfl) rfl ?_
              refine s_unguard (yield_Fr rfl rfl) rfl ?_
              refine s_val (r_pick (v := .bool _) rfl rfl) ?_
              refine s_unguard (yield_Fr rfl rfl) rfl ?_
              refine s_val (r_move (v := .bool _) rfl) ?_
              refine s_skip (yield_Fr rfl rfl) rfl ?_
              refine s_skip (yield_Fr rfl rfl) rfl ?_
              refine s_skip (yield_Fr rfl rfl) rfl ?_
              refine s_skip (yield_Fr rfl rfl) rfl ?_
              refine s_skip (yield_Fr rfl rfl) rfl ?_
              refine s_skip (yield_Fr rfl rfl) rfl ?_
              refine s_skip (yield_Fr rfl rfl) rfl ?_
              refine s_skip (yield_Fr rfl rfl) rfl ?_
              refine s_skip (yield_Fr rfl rfl) rfl ?_
              refine s_unguard (yield_Fr rfl rfl) rfl ?_
              refine s_val (r_pick (v := .bool _) rfl rfl) ?_
              refine s_unguard (yield_Fr rfl rfl) rfl ?_
              refine s_val (r_move (v := .bool _) rfl) ?_
              refine s_skip (yield_Fr rfl rfl) rfl ?_
              refine s_skip (yield_Fr rfl rfl) rfl ?_
              refine s_skip (yield_Fr rfl rfl) rfl ?_
              refine s_unguard (yield_Fr rfl rfl) rfl ?_
              refine s_val (r_pick (v := .bool _) rfl rfl) ?_
              refine s_unguard (yield_Fr rfl rfl) rfl ?_
              refine s_val (r_move (v := .bool _) rfl) ?_
              refine s_skip (yield_Fr rfl rfl) rfl ?_
              refine s_skip (yield_Fr rfl rfl) rfl ?_
              refine s_skip (yield_Fr rfl rfl) rfl ?_
              refine s_unguard (yield_Fr rfl rfl) rfl ?_
              refine s_val (r_pick (v := .bool _) rfl rfl) ?_
              refine s_val (r_pick (v := .bool _) rfl rfl) ?_
              refine s_val (r_assign (v := .bool _) rfl) ?_
              refine s_nil (e_then ?_)
              refine c_yes rfl (by decide) ?_
              refine c_seq (c_region ?_)
              have hr : 12 = insCheck p i x d := by
                unfold insCheck
                rw [if_neg hc1, if_neg hc2, if_pos ⟨g69, by first | exact .inl g71 | (right; omega)⟩]
              refine s_val (r_assign (v := .int _ _) rfl) ?_
              refine s_nil (e_then (c_ret (e_blk_ret (e_then_ret ?_))))
              refine ret_run (res_1 (v := .int _ _) rfl rfl) ?_
              exact ⟨congrArg (fun n => Ending.returned (i64 n)) hr, M.keep⟩
             ·
              refine s_unguard (yield_Fr rfl rfl) rfl ?_
              refine s_val (r_fieldAddr (o' := 3) fb44_3 (by decide) rfl rfl) ?_
              refine s_unguard (yield_Fr rfl rfl) rfl ?_
              refine a_load1 (v := .int _ _) Try.underlying5 rfl M rfl (k := 0) (j := 0) rfl rfl rfl ?_
              refine s_unguard (yield_Fr rfl rfl) rfl ?_
              refine s_val (r_lss rfl rfl) ?_
              refine s_unguard (yield_Fr rfl rfl) rfl ?_
              refine s_val (r_pick (v := .bool _) rfl rfl) ?_
              refine s_unguard (yield_Fr rfl rfl) rfl ?_
              refine s_val (r_move (v := .bool _) rfl) ?_
              refine s_splitD 76 rfl (fun g76 => ?_) (fun g76 => ?_)
              ·
               refine s_skip (yield_Fr rfl rfl) rfl ?_
               refine s_skip (yield_Fr rfl rfl) rfl ?_
               refine s_skip (yield_Fr rfl rfl) rfl ?_
               refine s_skip (yield_Fr rfl rfl) rfl ?_
               refine s_skip (yield_Fr rfl rfl) rfl ?_
               refine s_skip (yield_Fr rfl rfl) rfl ?_
               refine s_skip (yield_Fr rfl rfl) rfl ?_
               refine s_skip (yield_Fr rfl rfl) rfl ?_
               refine s_skip (yield_Fr rfl rfl) rfl ?_
               refine s_unguard (yield_Fr rfl rfl) rfl ?_
               refine s_val (r_pick (v := .bool _) rfl rfl) ?_
               refine s_unguard (yield_Fr rfl rfl) rfl ?_
               refine s_val (r_move (v := .bool _) rfl) ?_
               refine s_skip (yield_Fr rfl rfl) rfl ?_
               refine s_skip (yield_Fr rfl rfl) rfl ?_
               refine s_skip (yield_Fr rfl rfl) rfl ?_
               refine s_unguard (yield_Fr rfl rfl) rfl ?_
               refine s_val (r_pick (v := .bool _) rfl rfl) ?_
               refine s_unguard (yield_Fr rfl rfl) rfl ?_
               refine s_val (r_move (v := .bool _) rfl) ?_
               refine s_skip (yield_Fr rfl rfl) rfl ?_
               refine s_skip (yield_Fr rfl rfl) rfl ?_
               refine s_skip (yield_Fr rfl rfl) rfl ?_
               refine s_unguard (yield_Fr rfl rfl) rfl ?_
               refine s_val (r_pick (v := .bool _) rfl rfl) ?_
               refine s_val (r_pick (v := .bool _) rfl rfl) ?_
               refine s_val (r_assign (v := .bool _) rfl) ?_
               refine s_nil (e_then ?_)
               refine c_yes rfl (by decide) ?_
               refine c_seq (c_region ?_)
               have hr : 12 = insCheck p i x d := by
                 unfold insCheck
                 rw [if_neg hc1, if_neg hc2, if_pos ⟨g69, by first | exact .inl g71 | (right; omega)⟩]
               refine s_val (r_assign (v := .int _ _) rfl) ?_
               refine s_nil (e_then (c_ret (e_blk_ret (e_then_ret ?_))))
               refine ret_run (res_1 (v := .int _ _) rfl rfl) ?_
               exact ⟨congrArg (fun n => Ending.returned (i64 n)) hr, M.keep⟩
              ·
               refine s_unguard (yield_Fr rfl rfl) rfl ?_
               refine s_val (r_fieldAddr (o' := 3) fb44_3 (by decide) rfl rfl) ?_
               refine s_unguard (yield_Fr rfl rfl) rfl ?_
               refine a_load1 (v := .int _ _) Try.underlying5 rfl M rfl (k := 0) (j := 0) rfl rfl rfl ?_
               refine s_unguard (yield_Fr rfl rfl) rfl ?_
               first | (refine s_val (r_conv Try.underlying5 Try.underlying3 rfl (w64 (by omega) (by omega))) ?_) | (refine s_val (r_conv Try.underlying5 Try.underlying3 rfl rfl) ?_)
               refine s_unguard (yield_Fr rfl rfl) rfl ?_
               refine s_val (r_move (v := .slice _ _ _) rfl) ?_
               refine s_unguard (yield_Fr rfl rfl) rfl ?_
               refine s_val (r_len Try.underlying46 rfl) ?_
               refine s_unguard (yield_Fr rfl rfl) rfl ?_
               refine s_val (r_move (v := .int _ _) rfl) ?_
               refine s_unguard (yield_Fr rfl rfl) rfl ?_
               first | (refine s_val (r_sub rfl rfl (w64 (by omega) (by omega))) ?_) | (refine s_val (r_sub rfl rfl rfl) ?_)
               refine s_unguard (yield_Fr rfl rfl) rfl ?_
               first | (refine s_val (r_sub rfl rfl (w64 (by omega) (by omega))) ?_) | (refine s_val (r_sub rfl rfl rfl) ?_)
               refine s_unguard (yield_Fr rfl rfl) rfl ?_
               refine s_val (r_gtr rfl rfl) ?_
               refine s_unguard (yield_Fr rfl rfl) rfl ?_
               refine s_val (r_pick (v := .bool _) rfl rfl) ?_
               refine s_unguard (yield_Fr rfl rfl) rfl ?_
               refine s_val (r_move (v := .bool _) rfl) ?_
               refine s_splitD 87 rfl (fun g87 => ?_) (fun g87 => ?_)
               ·
                refine s_skip (yield_Fr rfl rfl) rfl ?_
                refine s_skip (yield_Fr rfl rfl) rfl ?_
                refine s_skip (yield_Fr rfl rfl) rfl ?_
                refine s_unguard (yield_Fr rfl rfl) rfl ?_
                refine s_val (r_pick (v := .bool _) rfl rfl) ?_
                refine s_unguard (yield_Fr rfl rfl) rfl ?_
                refine s_val (r_move (v := .bool _) rfl) ?_
                refine s_skip (yield_Fr rfl rfl) rfl ?_
                refine s_skip (yield_Fr rfl rfl) rfl ?_
                refine s_skip (yield_Fr rfl rfl) rfl ?_
                refine s_unguard (yield_Fr rfl rfl) rfl ?_
                refine s_val (r_pick (v := .bool _) rfl rfl) ?_
                refine s_val (r_pick (v := .bool _) rfl rfl) ?_
                refine s_val (r_assign (v := .bool _) rfl) ?_
                refine s_nil (e_then ?_)
                refine c_yes rfl (by decide) ?_
                refine c_seq (c_region ?_)
                have hr : 12 = insCheck p i x d := by
                  unfold insCheck
                  rw [if_neg hc1, if_neg hc2, if_pos ⟨g69, by first | exact .inl g71 | (right; omega)⟩]
                refine s_val (r_assign (v := .int _ _) rfl) ?_
                refine s_nil (e_then (c_ret (e_blk_ret (e_then_ret ?_))))
                refine ret_run (res_1 (v := .int _ _) rfl rfl) ?_
                exact ⟨congrArg (fun n => Ending.returned (i64 n)) hr, M.keep⟩
               ·
                refine s_unguard (yield_Fr rfl rfl) rfl ?_
                refine s_val (r_fieldAddr (o' := 4) fb44_4 (by decide) rfl rfl) ?_
                refine s_unguard (yield_Fr rfl rfl) rfl ?_
                refine a_load1 (v := .int _ _) Try.underlying22 rfl M rfl (k := 0) (j := 0) rfl rfl rfl ?_
                refine s_unguard (yield_Fr rfl rfl) rfl ?_
                refine s_val (r_lss rfl rfl) ?_
                refine s_unguard (yield_Fr rfl rfl) rfl ?_
                refine s_val (r_pick (v := .bool _) rfl rfl) ?_
                refine s_unguard (yield_Fr rfl rfl) rfl ?_
                refine s_val (r_move (v := .bool _) rfl) ?_
                refine s_splitD 92 rfl (fun g92 => ?_) (fun g92 => ?_)
                ·
                 refine s_skip (yield_Fr rfl rfl) rfl ?_
                 refine s_skip (yield_Fr rfl rfl) rfl ?_
                 refine s_skip (yield_Fr rfl rfl) rfl ?_
                 refine s_unguard (yield_Fr rfl rfl) rfl ?_
                 refine s_val (r_pick (v := .bool _) rfl rfl) ?_
                 refine s_val (r_pick (v := .bool _) rfl rfl) ?_
                 refine s_val (r_assign (v := .bool _) rfl) ?_
                 refine s_nil (e_then ?_)
                 refine c_yes rfl (by decide) ?_
                 refine c_seq (c_region ?_)
                 have hr : 12 = insCheck p i x d := by
                   unfold insCheck
                   rw [if_neg hc1, if_neg hc2, if_pos ⟨g69, by first | exact .inl g71 | (right; omega)⟩]
                 refine s_val (r_assign (v := .int _ _) rfl) ?_
                 refine s_nil (e_then (c_ret (e_blk_ret (e_then_ret ?_))))
                 refine ret_run (res_1 (v := .int _ _) rfl rfl) ?_
                 exact ⟨congrArg (fun n => Ending.returned (i64 n)) hr, M.keep⟩
                ·
                 refine s_unguard (yield_Fr rfl rfl) rfl ?_
                 refine s_val (r_fieldAddr (o' := 4) fb44_4 (by decide) rfl rfl) ?_
                 refine s_unguard (yield_Fr rfl rfl) rfl ?_
                 refine a_load1 (v := .int _ _) Try.underlying22 rfl M rfl (k := 0) (j := 0) rfl rfl rfl ?_
                 refine s_unguard (yield_Fr rfl rfl) rfl ?_
                 refine s_val (r_gtr rfl rfl) ?_
                 refine s_unguard (yield_Fr rfl rfl) rfl ?_
                 refine s_val (r_pick (v := .bool _) rfl rfl) ?_
                 refine s_val (r_pick (v := .bool _) rfl rfl) ?_
                 refine s_val (r_assign (v := .bool _) rfl) ?_
                 refine s_nil (e_then ?_)
                 refine c_if rfl (fun h65 => ?_) (fun h65 => ?_)
                 ·
                  refine c_seq (c_region ?_)
                  have hr : 12 = insCheck p i x d := by
                    unfold insCheck
                    rw [if_neg hc1, if_neg hc2, if_pos ⟨g69, by first | exact .inl g71 | (right; omega)⟩]
                  refine s_val (r_assign (v := .int _ _) rfl) ?_
                  refine s_nil (e_then (c_ret (e_blk_ret (e_then_ret ?_))))
                  refine ret_run (res_1 (v := .int _ _) rfl rfl) ?_
                  exact ⟨congrArg (fun n => Ending.returned (i64 n)) hr, M.keep⟩
                 ·
                  refine c_skip (e_blk (e_then ?_))
                  exact cut_end () (by repeat (first | exact ag_refl | exact ag_mask rfl ag_refl | refine ag_upd rfl ?_ | refine ag_mask rfl ?_)) trivial ⟨⟨hc1, hc2, by
                    rintro ⟨h, hl⟩
                    first
                      | exact g69 h
                      | (rcases hl with hl | hl
                         · rw [hl] at g71; cases g71
                         · omega)⟩, M⟩
            ·
             refine s_skip (yield_Fr rfl rfl) rfl ?_
             refine s_skip (yield_Fr rfl rfl) rfl ?_
             refine s_skipU (yield_U rfl rfl) ?_
             refine s_skipU (yield_U rfl rfl) ?_
             refine s_skipU (yield_U rfl rfl) ?_
             refine s_skip (yield_Fr rfl rfl) rfl ?_
             refine s_skip (yield_Fr rfl rfl) rfl ?_
             refine s_skipU (yield_U rfl rfl) ?_
             refine s_skipU (yield_U rfl rfl) ?_
             refine s_skipU (yield_U rfl rfl) ?_
             refine s_skipU (yield_U rfl rfl) ?_
             refine s_skipU (yield_U rfl rfl) ?_
             refine s_skipU (yield_U rfl rfl) ?_
             refine s_skipU (yield_U rfl rfl) ?_
             refine s_skipU (yield_U rfl rfl) ?_
             refine s_skipU (yield_U rfl rfl) ?_
             refine s_skip (yield_Fr rfl rfl) rfl ?_
             refine s_skip (yield_Fr rfl rfl) rfl ?_
             refine s_skipU (yield_U rfl rfl) ?_
             refine s_skipU (yield_U rfl rfl) ?_
             refine s_skipU (yield_U rfl rfl) ?_
             refine s_skip (yield_Fr rfl rfl) rfl ?_
             refine s_skip (yield_Fr rfl rfl) rfl ?_
             refine s_skipU (yield_U rfl rfl) ?_
             refine s_skipU (yield_U rfl rfl) ?_
             refine s_skipU (yield_U rfl rfl) ?_
             refine s_skip (yield_Fr rfl rfl) rfl ?_
             refine s_val (r_pick (v := .bool _) rfl rfl) ?_
             refine s_val (r_assign (v := .bool _) rfl) ?_
             refine s_nil (e_then ?_)
             refine c_no rfl (by decide) ?_
             refine c_skip (e_blk (e_then ?_))
             exact cut_end () (by repeat (first | exact ag_refl | exact ag_mask rfl ag_refl | refine ag_upd rfl ?_ | refine ag_mask rfl ?_)) trivial ⟨⟨hc1, hc2, by
               rintro ⟨h, hl⟩
               first
                 | exact g69 h
                 | (rcases hl with hl | hl
                    · rw [hl] at g71; cases g71
                    · omega)⟩, M⟩
          ·
           refine s_skip (yield_Fr rfl rfl) rfl ?_
           refine s_skip (yield_Fr rfl rfl) rfl ?_
           refine s_skip (yield_Fr rfl rfl) rfl ?_
           refine s_unguard (yield_Fr rfl rfl) rfl ?_
           refine s_val (r_pick (v := .bool _) rfl rfl) ?_
           refine s_val (r_pick (v := .bool _) rfl rfl) ?_
           refine s_val (r_assign (v := .bool _) rfl) ?_
           refine s_nil (e_then ?_)
           refine c_no rfl (by decide) ?_
           refine c_seq (c_region ?_)
           have hc2 : ¬ (x.dst ≥ 12 ∨ x.a ≥ 12 ∨ (x.op ≠ 12 ∧ x.b ≥ 12) ∨ (x.op = 14 ∧ x.a > 8)) := by omega
           refine s_val (r_fieldAddr (o' := 0) fb44_0 (by decide) rfl rfl) ?_
           refine a_load1 (v := .int _ _) Try.underlying42 rfl M rfl (k := 0) (j := 0) rfl rfl rfl ?_
           refine s_val (r_eql rfl rfl) ?_
           refine s_val (r_move (v := .bool _) rfl) ?_
           refine s_splitD 69 rfl (fun g69 => ?_) (fun g69 => ?_)
           ·
            refine s_unguard (yield_Fr rfl rfl) rfl ?_
            refine s_val (r_move (v := .bool _) rfl) ?_
            refine s_unguard (yield_Fr rfl rfl) rfl ?_
            refine s_val (r_move (v := .bool _) rfl) ?_
            refine s_split 71 rfl (fun g71 => ?_) (fun g71 => ?_)
            ·
             refine s_skip (yield_Fr rfl rfl) rfl ?_
             refine s_skip (yield_Fr rfl rfl) rfl ?_
             refine s_skip (yield_Fr rfl rfl) rfl ?_
             refine s_unguard (yield_Fr rfl rfl) rfl ?_
             refine s_val (r_pick (v := .bool _) rfl rfl) ?_
             refine s_unguard (yield_Fr rfl rfl) rfl ?_
             refine s_val (r_move (v := .bool _) rfl) ?_
             refine s_skip (yield_Fr rfl rfl) rfl ?_
             refine s_skip (yield_Fr rfl rfl) rfl ?_
             refine s_skip (yield_Fr rfl rfl) rfl ?_
             refine s_skip (yield_Fr rfl rfl) rfl ?_
             refine s_skip (yield_Fr rfl rfl) rfl ?_
             refine s_skip (yield_Fr rfl rfl) rfl ?_
             refine s_skip (yield_Fr rfl rfl) rfl ?_
             refine s_skip (yield_Fr rfl rfl) rfl ?_
             refine s_skip (yield_Fr rfl rfl) rfl ?_
             refine s_unguard (yield_Fr rfl rfl) rfl ?_
             refine s_val (r_pick (v := .bool _) rfl rfl) ?_
             refine s_unguard (yield_Fr rfl rfl) rfl ?_
             refine s_val (r_move (v := .bool _) rfl) ?_
             refine s_skip (yield_Fr rfl rfl) rfl ?_
             refine s_skip (yield_Fr rfl rfl) rfl ?_
             refine s_skip (yield_Fr rfl rfl) rfl ?_
             refine s_unguard (yield_Fr rfl rfl) rfl ?_
             refine s_val (r_pick (v := .bool _) rfl rfl) ?_
             refine s_unguard (yield_Fr rfl rfl) rfl ?_
             refine s_val (r_move (v := .bool _) rfl) ?_
             refine s_skip (yield_Fr rfl rfl) rfl ?_
             refine s_skip (yield_Fr rfl rfl) rfl ?_
             refine s_skip (yield_Fr rfl rfl) rfl ?_
             refine s_unguard (yield_Fr rfl rfl) rfl ?_
             refine s_val (r_pick (v := .bool _) rfl rfl) ?_
             refine s_val (r_pick (v := .bool _) rfl rfl) ?_
             refine s_val (r_assign (v := .bool _) rfl) ?_
             refine s_nil (e_then ?_)
             refine c_yes rfl (by decide) ?_
             refine c_seq (c_region ?_)
             have hr : 12 = insCheck p i x d := by
               unfold insCheck
               rw [if_neg hc1, if_neg hc2, if_pos ⟨g69, by first | exact .inl g71 | (right; omega)⟩]
             refine s_val (r_assign (v := .int _ _) rfl) ?_
             refine s_nil (e_then (c_ret (e_blk_ret (e_then_ret ?_))))
             refine ret_run (res_1 (v := .int _ _) rfl rfl) ?_
             exact ⟨congrArg (fun n => Ending.returned (i64 n)) hr, M.keep⟩
            ·
             refine s_unguard (yield_Fr rfl rfl) rfl ?_
             refine s_val (r_fieldAddr (o' := 3) fb44_3 (by decide) rfl rfl) ?_
             refine s_unguard (yield_Fr rfl rfl) rfl ?_
             refine a_load1 (v := .int _ _) Try.underlying5 rfl M rfl (k := 0) (j := 0) rfl rfl rfl ?_
             refine s_unguard (yield_Fr rfl rfl) rfl ?_
             refine s_val (r_lss rfl rfl) ?_
             refine s_unguard (yield_Fr rfl rfl) rfl ?_
             refine s_val (r_pick (v := .bool _) rfl rfl) ?_
             refine s_unguard (yield_Fr rfl rfl) rfl ?_
             refine s_val (r_move (v := .bool _) rfl) ?_
             refine s_splitD 76 rfl (fun g76 => ?_) (fun g76 => ?_)
             ·
              refine s_skip (yield_Fr rfl rfl) rfl ?_
              refine s_skip (yield_Fr rfl rfl) rfl ?_
              refine s_skip (yield_Fr rfl rfl) rfl ?_
              refine s_skip (yield_Fr rfl rfl) rfl ?_
              refine s_skip (yield_Fr rfl rfl) rfl ?_
              refine s_skip (yield_Fr rfl rfl) rfl ?_
              refine s_skip (yield_Fr rfl rfl) rfl ?_
              refine s_skip (yield_Fr rfl rfl) rfl ?_
              refine s_skip (yield_Fr rfl rfl) rfl ?_
              refine s_unguard (yield_Fr rfl rfl) rfl ?_
              refine s_val (r_pick (v := .bool _) rfl rfl) ?_
              refine s_unguard (yield_Fr rfl rfl) rfl ?_
              refine s_val (r_move (v := .bool _) rfl) ?_
              refine s_skip (yield_Fr rfl rfl) rfl ?_
              refine s_skip (yield_Fr rfl rfl) rfl ?_
              refine s_skip (yield_Fr rfl rfl) rfl ?_
              refine s_unguard (yield_Fr rfl rfl) rfl ?_
              refine s_val (r_pick (v := .bool _) rfl rfl) ?_
              refine s_unguard (yield_Fr rfl rfl) rfl ?_
              refine s_val (r_move (v := .bool _) rfl) ?_
              refine s_skip (yield_Fr rfl rfl) rfl ?_
              refine s_skip (yield_Fr rfl rfl) rfl ?_
              refine s_skip (yield_Fr rfl rfl) rfl ?_
              refine s_unguard (yield_Fr rfl rfl) rfl ?_
              refine s_val (r_pick (v := .bool _) rfl rfl) ?_
              refine s_val (r_pick (v := .bool _) rfl rfl) ?_
              refine s_val (r_assign (v := .bool _) rfl) ?_
              refine s_nil (e_then ?_)
              refine c_yes rfl (by decide) ?_
              refine c_seq (c_region ?_)
              have hr : 12 = insCheck p i x d := by
                unfold insCheck
                rw [if_neg hc1, if_neg hc2, if_pos ⟨g69, by first | exact .inl g71 | (right; omega)⟩]
              refine s_val (r_assign (v := .int _ _) rfl) ?_
              refine s_nil (e_then (c_ret (e_blk_ret (e_then_ret ?_))))
              refine ret_run (res_1 (v := .int _ _) rfl rfl) ?_
              exact ⟨congrArg (fun n => Ending.returned (i64 n)) hr, M.keep⟩
             ·
              refine s_unguard (yield_Fr rfl rfl) rfl ?_
              refine s_val (r_fieldAddr (o' := 3) fb44_3 (by decide) rfl rfl) ?_
              refine s_unguard (yield_Fr rfl rfl) rfl ?_
              refine a_load1 (v := .int _ _) Try.underlying5 rfl M rfl (k := 0) (j := 0) rfl rfl rfl ?_
              refine s_unguard (yield_Fr rfl rfl) rfl ?_
              first | (refine s_val (r_conv Try.underlying5 Try.underlying3 rfl (w64 (by omega) (by omega))) ?_) | (refine s_val (r_conv Try.underlying5 Try.underlying3 rfl rfl) ?_)
              refine s_unguard (yield_Fr rfl rfl) rfl ?_
              refine s_val (r_move (v := .slice _ _ _) rfl) ?_
              refine s_unguard (yield_Fr rfl rfl) rfl ?_
              refine s_val (r_len Try.underlying46 rfl) ?_
              refine s_unguard (yield_Fr rfl rfl) rfl ?_
              refine s_val (r_move (v := .int _ _) rfl) ?_
              refine s_unguard (yield_Fr rfl rfl) rfl ?_
              first | (refine s_val (r_sub rfl rfl (w64 (by omega) (by omega))) ?_) | (refine s_val (r_sub rfl rfl rfl) ?_)
              refine s_unguard (yield_Fr rfl rfl) rfl ?_
              first | (refine s_val (r_sub rfl rfl (w64 (by omega) (by omega))) ?_) | (refine s_val (r_sub rfl rfl rfl) ?_)
              refine s_unguard (yield_Fr rfl rfl) rfl ?_
              refine s_val (r_gtr rfl rfl) ?_
              refine s_unguard (yield_Fr rfl rfl) rfl ?_
              refine s_val (r_pick (v := .bool _) rfl rfl) ?_
              refine s_unguard (yield_Fr rfl rfl) rfl ?_
              refine s_val (r_move (v := .bool _) rfl) ?_
              refine s_splitD 87 rfl (fun g87 => ?_) (fun g87 => ?_)
              ·
               refine s_skip (yield_Fr rfl rfl) rfl ?_
               refine s_skip (yield_Fr rfl rfl) rfl ?_
               refine s_skip (yield_Fr rfl rfl) rfl ?_
               refine s_unguard (yield_Fr rfl rfl) rfl ?_
               refine s_val (r_pick (v := .bool _) rfl rfl) ?_
               refine s_unguard (yield_Fr rfl rfl) rfl ?_
               refine s_val (r_move (v := .bool _) rfl) ?_
               refine s_skip (yield_Fr rfl rfl) rfl ?_
               refine s_skip (yield_Fr rfl rfl) rfl ?_
               refine s_skip (yield_Fr rfl rfl) rfl ?_
               refine s_unguard (yield_Fr rfl rfl) rfl ?_
               refine s_val (r_pick (v := .bool _) rfl rfl) ?_
               refine s_val (r_pick (v := .bool _) rfl rfl) ?_
               refine s_val (r_assign (v := .bool _) rfl) ?_
               refine s_nil (e_then ?_)
               refine c_yes rfl (by decide) ?_
               refine c_seq (c_region ?_)
               have hr : 12 = insCheck p i x d := by
                 unfold insCheck
                 rw [if_neg hc1, if_neg hc2, if_pos ⟨g69, by first | exact .inl g71 | (right; omega)⟩]
               refine s_val (r_assign (v := .int _ _) rfl) ?_
               refine s_nil (e_then (c_ret (e_blk_ret (e_then_ret ?_))))
               refine ret_run (res_1 (v := .int _ _) rfl rfl) ?_
               exact ⟨congrArg (fun n => Ending.returned (i64 n)) hr, M.keep⟩
              ·
               refine s_unguard (yield_Fr rfl rfl) rfl ?_
               refine s_val (r_fieldAddr (o' := 4) fb44_4 (by decide) rfl rfl) ?_
               refine s_unguard (yield_Fr rfl rfl) rfl ?_
               refine a_load1 (v := .int _ _) Try.underlying22 rfl M rfl (k := 0) (j := 0) rfl rfl rfl ?_
               refine s_unguard (yield_Fr rfl rfl) rfl ?_
               refine s_val (r_lss rfl rfl) ?_
               refine s_unguard (yield_Fr rfl rfl) rfl ?_
               refine s_val (r_pick (v := .bool _) rfl rfl) ?_
               refine s_unguard (yield_Fr rfl rfl) rfl ?_
               refine s_val (r_move (v := .bool _) rfl) ?_
               refine s_splitD 92 rfl (fun g92 => ?_) (fun g92 => ?_)
               ·
                refine s_skip (yield_Fr rfl rfl) rfl ?_
                refine s_skip (yield_Fr rfl rfl) rfl ?_
                refine s_skip (yield_Fr rfl rfl) rfl ?_
                refine s_unguard (yield_Fr rfl rfl) rfl ?_
                refine s_val (r_pick (v := .bool _) rfl rfl) ?_
                refine s_val (r_pick (v := .bool _) rfl rfl) ?_
                refine s_val (r_assign (v := .bool _) rfl) ?_
                refine s_nil (e_then ?_)
                refine c_yes rfl (by decide) ?_
                refine c_seq (c_region ?_)
                have hr : 12 = insCheck p i x d := by
                  unfold insCheck
                  rw [if_neg hc1, if_neg hc2, if_pos ⟨g69, by first | exact .inl g71 | (right; omega)⟩]
                refine s_val (r_assign (v := .int _ _) rfl) ?_
                refine s_nil (e_then (c_ret (e_blk_ret (e_then_ret ?_))))
                refine ret_run (res_1 (v := .int _ _) rfl rfl) ?_
                exact ⟨congrArg (fun n => Ending.returned (i64 n)) hr, M.keep⟩
               ·
                refine s_unguard (yield_Fr rfl rfl) rfl ?_
                refine s_val (r_fieldAddr (o' := 4) fb44_4 (by decide) rfl rfl) ?_
                refine s_unguard (yield_Fr rfl rfl) rfl ?_
                refine a_load1 (v := .int _ _) Try.underlying22 rfl M rfl (k := 0) (j := 0) rfl rfl rfl ?_
                refine s_unguard (yield_Fr rfl rfl) rfl ?_
                refine s_val (r_gtr rfl rfl) ?_
                refine s_unguard (yield_Fr rfl rfl) rfl ?_
                refine s_val (r_pick (v := .bool _) rfl rfl) ?_
                refine s_val (r_pick (v := .bool _) rfl rfl) ?_
                refine s_val (r_assign (v := .bool _) rfl) ?_
                refine s_nil (e_then ?_)
                refine c_if rfl (fun h65 => ?_) (fun h65 => ?_)
                ·
                 refine c_seq (c_region ?_)
                 have hr : 12 = insCheck p i x d := by
                   unfold insCheck
                   rw [if_neg hc1, if_neg hc2, if_pos ⟨g69, by first | exact .inl g71 | (right; omega)⟩]
                 refine s_val (r_assign (v := .int _ _) rfl) ?_
                 refine s_nil (e_then (c_ret (e_blk_ret (e_then_ret ?_))))
                 refine ret_run (res_1 (v := .int _ _) rfl rfl) ?_
                 exact ⟨congrArg (fun n => Ending.returned (i64 n)) hr, M.keep⟩
                ·
                 refine c_skip (e_blk (e_then ?_))
                 exact cut_end () (by repeat (first | exact ag_refl | exact ag_mask rfl ag_refl | refine ag_upd rfl ?_ | refine ag_mask rfl ?_)) trivial ⟨⟨hc1, hc2, by
                   rintro ⟨h, hl⟩
                   first
                     | exact g69 h
                     | (rcases hl with hl | hl
                        · rw [hl] at g71; cases g71
                        · omega)⟩, M⟩
           ·
            refine s_skip (yield_Fr rfl rfl) rfl ?_
            refine s_skip (yield_Fr rfl rfl) rfl ?_
            refine s_skipU (yield_U rfl rfl) ?_
            refine s_skipU (yield_U rfl rfl) ?_
            refine s_skipU (yield_U rfl rfl) ?_
            refine s_skip (yield_Fr rfl rfl) rfl ?_
            refine s_skip (yield_Fr rfl rfl) rfl ?_
            refine s_skipU (yield_U rfl rfl) ?_
            refine s_skipU (yield_U rfl rfl) ?_
            refine s_skipU (yield_U rfl rfl) ?_
            refine s_skipU (yield_U rfl rfl) ?_
            refine s_skipU (yield_U rfl rfl) ?_
            refine s_skipU (yield_U rfl rfl) ?_
            refine s_skipU (yield_U rfl rfl) ?_
            refine s_skipU (yield_U rfl rfl) ?_
            refine s_skipU (yield_U rfl rfl) ?_
            refine s_skip (yield_Fr rfl rfl) rfl ?_
            refine s_skip (yield_Fr rfl rfl) rfl ?_
            refine s_skipU (yield_U rfl rfl) ?_
            refine s_skipU (yield_U rfl rfl) ?_
            refine s_skipU (yield_U rfl rfl) ?_
            refine s_skip (yield_Fr rfl rfl) rfl ?_
            refine s_skip (yield_Fr rfl rfl) rfl ?_
            refine s_skipU (yield_U rfl rfl) ?_
            refine s_skipU (yield_U rfl rfl) ?_
            refine s_skipU (yield_U rfl rfl) ?_
            refine s_skip (yield_Fr rfl rfl) rfl ?_
            refine s_val (r_pick (v := .bool _) rfl rfl) ?_
            refine s_val (r_assign (v := .bool _) rfl) ?_
            refine s_nil (e_then ?_)
            refine c_no rfl (by decide) ?_
            refine c_skip (e_blk (e_then ?_))
            exact cut_end () (by repeat (first | exact ag_refl | exact ag_mask rfl ag_refl | refine ag_upd rfl ?_ | refine ag_mask rfl ?_)) trivial ⟨⟨hc1, hc2, by
              rintro ⟨h, hl⟩
              first
                | exact g69 h
                | (rcases hl with hl | hl
                   · rw [hl] at g71; cases g71
                   · omega)⟩, M⟩
        ·
         refine s_skip (yield_Fr rfl rfl) rfl ?_
         refine s_skip (yield_Fr rfl rfl) rfl ?_
         refine s_skip (yield_Fr rfl rfl) rfl ?_
         refine s_unguard (yield_Fr rfl rfl) rfl ?_
         refine s_val (r_pick (v := .bool _) rfl rfl) ?_
         refine s_val (r_pick (v := .bool _) rfl rfl) ?_
         refine s_val (r_move (v := .bool _) rfl) ?_
         refine s_unguard (yield_Fr rfl rfl) rfl ?_
         refine s_val (r_fieldAddr (o' := 0) fb44_0 (by decide) rfl rfl) ?_
         refine s_unguard (yield_Fr rfl rfl) rfl ?_
         refine a_load1 (v := .int _ _) Try.underlying42 rfl M rfl (k := 0) (j := 0) rfl rfl rfl ?_
         refine s_unguard (yield_Fr rfl rfl) rfl ?_
         refine s_val (r_eql rfl rfl) ?_
         refine s_unguard (yield_Fr rfl rfl) rfl ?_
         refine s_val (r_move (v := .bool _) rfl) ?_
         refine s_splitD 59 rfl (fun g59 => ?_) (fun g59 => ?_)
         ·
          refine s_unguard (yield_Fr rfl rfl) rfl ?_
          refine s_val (r_fieldAddr (o' := 2) fb44_2 (by decide) rfl rfl) ?_
          refine s_unguard (yield_Fr rfl rfl) rfl ?_
          refine a_load1 (v := .int _ _) Try.underlying5 rfl M rfl (k := 0) (j := 0) rfl rfl rfl ?_
          refine s_unguard (yield_Fr rfl rfl) rfl ?_
          refine s_val (r_gtr rfl rfl) ?_
          refine s_unguard (yield_Fr rfl rfl) rfl ?_
          refine s_val (r_pick (v := .bool _) rfl rfl) ?_
          refine s_val (r_pick (v := .bool _) rfl rfl) ?_
          refine s_val (r_assign (v := .bool _) rfl) ?_
          refine s_nil (e_then ?_)
          refine c_if rfl (fun h36 => ?_) (fun h36 => ?_)
          ·
           refine c_seq (c_region ?_)
           have hr : 2 = insCheck p i x d := by unfold insCheck; rw [if_neg hc1, if_pos (by omega)]
           refine s_val (r_assign (v := .int _ _) rfl) ?_
           refine s_nil (e_then (c_ret (e_blk_ret (e_then_ret ?_))))
           refine ret_run (res_1 (v := .int _ _) rfl rfl) ?_
           exact ⟨congrArg (fun n => Ending.returned (i64 n)) hr, M.keep⟩
          ·
           refine c_seq (c_region ?_)
           have hc2 : ¬ (x.dst ≥ 12 ∨ x.a ≥ 12 ∨ (x.op ≠ 12 ∧ x.b ≥ 12) ∨ (x.op = 14 ∧ x.a > 8)) := by omega
           refine s_val (r_fieldAddr (o' := 0) fb44_0 (by decide) rfl rfl) ?_
           refine a_load1 (v := .int _ _) Try.underlying42 rfl M rfl (k := 0) (j := 0) rfl rfl rfl ?_
           refine s_val (r_eql rfl rfl) ?_
           refine s_val (r_move (v := .bool _) rfl) ?_
           refine s_splitD 69 rfl (fun g69 => ?_) (fun g69 => ?_)
           ·
            refine s_unguard (yield_Fr rfl rfl) rfl ?_
            refine s_val (r_move (v := .bool _) rfl) ?_
            refine s_unguard (yield_Fr rfl rfl) rfl ?_
            refine s_val (r_move (v := .bool _) rfl) ?_
            refine s_split 71 rfl (fun g71 => ?_) (fun g71 => ?_)
            ·
             refine s_skip (yield_Fr rfl rfl) rfl ?_
             refine s_skip (yield_Fr rfl rfl) rfl ?_
             refine s_skip (yield_Fr rfl rfl) rfl ?_
             refine s_unguard (yield_Fr rfl rfl) rfl ?_
             refine s_val (r_pick (v := .bool _) rfl rfl) ?_
             refine s_unguard (yield_Fr rfl rfl) rfl ?_
             refine s_val (r_move (v := .bool _) rfl) ?_
             refine s_skip (yield_Fr rfl rfl) rfl ?_
             refine s_skip (yield_Fr rfl rfl) rfl ?_
             refine s_skip (yield_Fr rfl rfl) rfl ?_
             refine s_skip (yield_Fr rfl rfl) rfl ?_
             refine s_skip (yield_Fr rfl rfl) rfl ?_
             refine s_skip (yield_Fr rfl rfl) rfl ?_
             refine s_skip (yield_Fr rfl rfl) rfl ?_
             refine s_skip (yield_Fr rfl rfl) rfl ?_
             refine s_skip (yield_Fr rfl rfl) rfl ?_
             refine s_unguard (yield_Fr rfl rfl) rfl ?_
             refine s_val (r_pick (v := .bool _) rfl rfl) ?_
             refine s_unguard (yield_Fr rfl rfl) rfl ?_
             refine s_val (r_move (v := .bool _) rfl) ?_
             refine s_skip (yield_Fr rfl rfl) rfl ?_
             refine s_skip (yield_Fr rfl rfl) rfl ?_
             refine s_skip (yield_Fr rfl rfl) rfl ?_
             refine s_unguard (yield_Fr rfl rfl) rfl ?_
             refine s_val (r_pick (v := .bool _) rfl rfl) ?_
             refine s_unguard (yield_Fr rfl rfl) rfl ?_
             refine s_val (r_move (v := .bool _) rfl) ?_
             refine s_skip (yield_Fr rfl rfl) rfl ?_
             refine s_skip (yield_Fr rfl rfl) rfl ?_
             refine s_skip (yield_Fr rfl rfl) rfl ?_
             refine s_unguard (yield_Fr rfl rfl) rfl ?_
             refine s_val (r_pick (v := .bool _) rfl rfl) ?_
             refine s_val (r_pick (v := .bool _) rfl rfl) ?_
             refine s_val (r_assign (v := .bool _) rfl) ?_
             refine s_nil (e_then ?_)
             refine c_yes rfl (by decide) ?_
             refine c_seq (c_region ?_)
             have hr : 12 = insCheck p i x d := by
               unfold insCheck
               rw [if_neg hc1, if_neg hc2, if_pos ⟨g69, by first | exact .inl g71 | (right; omega)⟩]
             refine s_val (r_assign (v := .int _ _) rfl) ?_
             refine s_nil (e_then (c_ret (e_blk_ret (e_then_ret ?_))))
             refine ret_run (res_1 (v := .int _ _) rfl rfl) ?_
             exact ⟨congrArg (fun n => Ending.returned (i64 n)) hr, M.keep⟩
            ·
             refine s_unguard (yield_Fr rfl rfl) rfl ?_
             refine s_val (r_fieldAddr (o' := 3) fb44_3 (by decide) rfl rfl) ?_
             refine s_unguard (yield_Fr rfl rfl) rfl ?_
             refine a_load1 (v := .int _ _) Try.underlying5 rfl M rfl (k := 0) (j := 0) rfl rfl rfl ?_
             refine s_unguard (yield_Fr rfl rfl) rfl ?_
             refine s_val (r_lss rfl rfl) ?_
             refine s_unguard (yield_Fr rfl rfl) rfl ?_
             refine s_val (r_pick (v := .bool _) rfl rfl) ?_
             refine s_unguard (yield_Fr rfl rfl) rfl ?_
             refine s_val (r_move (v := .bool _) rfl) ?_
             refine s_splitD 76 rfl (fun g76 => ?_) (fun g76 => ?_)
             ·
              refine s_skip (yield_Fr rfl rfl) rfl ?_
              refine s_skip (yield_Fr rfl rfl) rfl ?_
              refine s_skip (yield_Fr rfl rfl) rfl ?_
              refine s_skip (yield_Fr rfl rfl) rfl ?_
              refine s_skip (yield_Fr rfl rfl) rfl ?_
              refine s_skip (yield_Fr rfl rfl) rfl ?_
              refine s_skip (yield_Fr rfl rfl) rfl ?_
              refine s_skip (yield_Fr rfl rfl) rfl ?_
              refine s_skip (yield_Fr rfl rfl) rfl ?_
              refine s_unguard (yield_Fr rfl rfl) rfl ?_
              refine s_val (r_pick (v := .bool _) rfl rfl) ?_
              refine s_unguard (yield_Fr rfl rfl) rfl ?_
              refine s_val (r_move (v := .bool _) rfl) ?_
              refine s_skip (yield_Fr rfl rfl) rfl ?_
              refine s_skip (yield_Fr rfl rfl) rfl ?_
              refine s_skip (yield_Fr rfl rfl) rfl ?_
              refine s_unguard (yield_Fr rfl rfl) rfl ?_
              refine s_val (r_pick (v := .bool _) rfl rfl) ?_
              refine s_unguard (yield_Fr rfl rfl) rfl ?_
              refine s_val (r_move (v := .bool _) rfl) ?_
              refine s_skip (yield_Fr rfl rfl) rfl ?_
              refine s_skip (yield_Fr rfl rfl) rfl ?_
              refine s_skip (yield_Fr rfl rfl) rfl ?_
              refine s_unguard (yield_Fr rfl rfl) rfl ?_
              refine s_val (r_pick (v := .bool _) rfl rfl) ?_
              refine s_val (r_pick (v := .bool _) rfl rfl) ?_
              refine s_val (r_assign (v := .bool _) rfl) ?_
              refine s_nil (e_then ?_)
              refine c_yes rfl (by decide) ?_
              refine c_seq (c_region ?_)
              have hr : 12 = insCheck p i x d := by
                unfold insCheck
                rw [if_neg hc1, if_neg hc2, if_pos ⟨g69, by first | exact .inl g71 | (right; omega)⟩]
              refine s_val (r_assign (v := .int _ _) rfl) ?_
              refine s_nil (e_then (c_ret (e_blk_ret (e_then_ret ?_))))
              refine ret_run (res_1 (v := .int _ _) rfl rfl) ?_
              exact ⟨congrArg (fun n => Ending.returned (i64 n)) hr, M.keep⟩
             ·
              refine s_unguard (yield_Fr rfl rfl) rfl ?_
              refine s_val (r_fieldAddr (o' := 3) fb44_3 (by decide) rfl rfl) ?_
              refine s_unguard (yield_Fr rfl rfl) rfl ?_
              refine a_load1 (v := .int _ _) Try.underlying5 rfl M rfl (k := 0) (j := 0) rfl rfl rfl ?_
              refine s_unguard (yield_Fr rfl rfl) rfl ?_
              first | (refine s_val (r_conv Try.underlying5 Try.underlying3 rfl (w64 (by omega) (by omega))) ?_) | (refine s_val (r_conv Try.underlying5 Try.underlying3 rfl rfl) ?_)
              refine s_unguard (yield_Fr rfl rfl) rfl ?_
              refine s_val (r_move (v := .slice _ _ _) rfl) ?_
              refine s_unguard (yield_Fr rfl rfl) rfl ?_
              refine s_val (r_len Try.underlying46 rfl) ?_
              refine s_unguard (yield_Fr rfl rfl) rfl ?_
              refine s_val (r_move (v := .int _ _) rfl) ?_
              refine s_unguard (yield_Fr rfl rfl) rfl ?_
              first | (refine s_val (r_sub rfl rfl (w64 (by omega) (by omega))) ?_) | (refine s_val (r_sub rfl rfl rfl) ?_)
              refine s_unguard (yield_Fr rfl rfl) rfl ?_
              first | (refine s_val (r_sub rfl rfl (w64 (by omega) (by omega))) ?_) | (refine s_val (r_sub rfl rfl rfl) ?_)
              refine s_unguard (yield_Fr rfl rfl) rfl ?_
              refine s_val (r_gtr rfl rfl) ?_
              refine s_unguard (yield_Fr rfl rfl) rfl ?_
              refine s_val (r_pick (v := .bool _) rfl rfl) ?_
              refine s_unguard (yield_Fr rfl rfl) rfl ?_
              refine s_val (r_move (v := .bool _) rfl) ?_
              refine s_splitD 87 rfl (fun g87 => ?_) (fun g87 => ?_)
              ·
               refine s_skip (yield_Fr rfl rfl) rfl ?_
               refine s_skip (yield_Fr rfl rfl) rfl ?_
               refine s_skip (yield_Fr rfl rfl) rfl ?_
               refine s_unguard (yield_Fr rfl rfl) rfl ?_
               refine s_val (r_pick (v := .bool _) rfl rfl) ?_
               refine s_unguard (yield_Fr rfl rfl) rfl ?_
               refine s_val (r_move (v := .bool _) rfl) ?_
               refine s_skip (yield_Fr rfl rfl) rfl ?_
               refine s_skip (yield_Fr rfl rfl) rfl ?_
               refine s_skip (yield_Fr rfl rfl) rfl ?_
               refine s_unguard (yield_Fr rfl rfl) rfl ?_
               refine s_val (r_pick (v := .bool _) rfl rfl) ?_
               refine s_val (r_pick (v := .bool _) rfl rfl) ?_
               refine s_val (r_assign (v := .bool _) rfl) ?_
               refine s_nil (e_then ?_)
               refine c_yes rfl (by decide) ?_
               refine c_seq (c_region ?_)
               have hr : 12 = insCheck p i x d := by
                 unfold insCheck
                 rw [if_neg hc1, if_neg hc2, if_pos ⟨g69, by first | exact .inl g71 | (right; omega)⟩]
               refine s_val (r_assign (v := .int _ _) rfl) ?_
               refine s_nil (e_then (c_ret (e_blk_ret (e_then_ret ?_))))
               refine ret_run (res_1 (v := .int _ _) rfl rfl) ?_
               exact ⟨congrArg (fun n => Ending.returned (i64 n)) hr, M.keep⟩
              ·
               refine s_unguard (yield_Fr rfl rfl) rfl ?_
               refine s_val (r_fieldAddr (o' := 4) fb44_4 (by decide) rfl rfl) ?_
               refine s_unguard (yield_Fr rfl rfl) rfl ?_
               refine a_load1 (v := .int _ _) Try.underlying22 rfl M rfl (k := 0) (j := 0) rfl rfl rfl ?_
               refine s_unguard (yield_Fr rfl rfl) rfl ?_
               refine s_val (r_lss rfl rfl) ?_
               refine s_unguard (yield_Fr rfl rfl) rfl ?_
               refine s_val (r_pick (v := .bool _) rfl rfl) ?_
               refine s_unguard (yield_Fr rfl rfl) rfl ?_
               refine s_val (r_move (v := .bool _) rfl) ?_
               refine s_splitD 92 rfl (fun g92 => ?_) (fun g92 => ?_)
               ·
                refine s_skip (yield_Fr rfl rfl) rfl ?_
                refine s_skip (yield_Fr rfl rfl) rfl ?_
                refine s_skip (yield_Fr rfl rfl) rfl ?_
                refine s_unguard (yield_Fr rfl rfl) rfl ?_
                refine s_val (r_pick (v := .bool _) rfl rfl) ?_
                refine s_val (r_pick (v := .bool _) rfl rfl) ?_
                refine s_val (r_assign (v := .bool _) rfl) ?_
                refine s_nil (e_then ?_)
                refine c_yes rfl (by decide) ?_
                refine c_seq (c_region ?_)
                have hr : 12 = insCheck p i x d := by
                  unfold insCheck
                  rw [if_neg hc1, if_neg hc2, if_pos ⟨g69, by first | exact .inl g71 | (right; omega)⟩]
                refine s_val (r_assign (v := .int _ _) rfl) ?_
                refine s_nil (e_then (c_ret (e_blk_ret (e_then_ret ?_))))
                refine ret_run (res_1 (v := .int _ _) rfl rfl) ?_
                exact ⟨congrArg (fun n => Ending.returned (i64 n)) hr, M.keep⟩
               ·
                refine s_unguard (yield_Fr rfl rfl) rfl ?_
                refine s_val (r_fieldAddr (o' := 4) fb44_4 (by decide) rfl rfl) ?_
                refine s_unguard (yield_Fr rfl rfl) rfl ?_
                refine a_load1 (v := .int _ _) Try.underlying22 rfl M rfl (k := 0) (j := 0) rfl rfl rfl ?_
                refine s_unguard (yield_Fr rfl rfl) rfl ?_
                refine s_val (r_gtr rfl rfl) ?_
                refine s_unguard (yield_Fr rfl rfl) rfl ?_
                refine s_val (r_pick (v := .bool _) rfl rfl) ?_
                refine s_val (r_pick (v := .bool _) rfl rfl) ?_
                refine s_val (r_assign (v := .bool _) rfl) ?_
                refine s_nil (e_then ?_)
                refine c_if rfl (fun h65 => ?_) (fun h65 => ?_)
                ·
                 refine c_seq (c_region ?_)
                 have hr : 12 = insCheck p i x d := by
                   unfold insCheck
                   rw [if_neg hc1, if_neg hc2, if_pos ⟨g69, by first | exact .inl g71 | (right; omega)⟩]
                 refine s_val (r_assign (v := .int _ _) rfl) ?_
                 refine s_nil (e_then (c_ret (e_blk_ret (e_then_ret ?_))))
                 refine ret_run (res_1 (v := .int _ _) rfl rfl) ?_
                 exact ⟨congrArg (fun n => Ending.returned (i64 n)) hr, M.keep⟩
                ·
                 refine c_skip (e_blk (e_then ?_))
                 exact cut_end () (by repeat (first | exact ag_refl | exact ag_mask rfl ag_refl | refine ag_upd rfl ?_ | refine ag_mask rfl ?_)) trivial ⟨⟨hc1, hc2, by
                   rintro ⟨h, hl⟩
                   first
                     | exact g69 h
                     | (rcases hl with hl | hl
                        · rw [hl] at g71; cases g71
                        · omega)⟩, M⟩
           ·
            refine s_skip (yield_Fr rfl rfl) rfl ?_
            refine s_skip (yield_Fr rfl rfl) rfl ?_
            refine s_skipU (yield_U rfl rfl) ?_
            refine s_skipU (yield_U rfl rfl) ?_
            refine s_skipU (yield_U rfl rfl) ?_
            refine s_skip (yield_Fr rfl rfl) rfl ?_
            refine s_skip (yield_Fr rfl rfl) rfl ?_
            refine s_skipU (yield_U rfl rfl) ?_
            refine s_skipU (yield_U rfl rfl) ?_
            refine s_skipU (yield_U rfl rfl) ?_
            refine s_skipU (yield_U rfl rfl) ?_
            refine s_skipU (yield_U rfl rfl) ?_
            refine s_skipU (yield_U rfl rfl) ?_
            refine s_skipU (yield_U rfl rfl) ?_
            refine s_skipU (yield_U rfl rfl) ?_
            refine s_skipU (yield_U rfl rfl) ?_
            refine s_skip (yield_Fr rfl rfl) rfl ?_
            refine s_skip (yield_Fr rfl rfl) rfl ?_
            refine s_skipU (yield_U rfl rfl) ?_
            refine s_skipU (yield_U rfl rfl) ?_
            refine s_skipU (yield_U rfl rfl) ?_
            refine s_skip (yield_Fr rfl rfl) rfl ?_
            refine s_skip (yield_Fr rfl rfl) rfl ?_
            refine s_skipU (yield_U rfl rfl) ?_
            refine s_skipU (yield_U rfl rfl) ?_
            refine s_skipU (yield_U rfl rfl) ?_
            refine s_skip (yield_Fr rfl rfl) rfl ?_
            refine s_val (r_pick (v := .bool _) rfl rfl) ?_
            refine s_val (r_assign (v := .bool _) rfl) ?_
            refine s_nil (e_then ?_)
            refine c_no rfl (by decide) ?_
            refine c_skip (e_blk (e_then ?_))
            exact cut_end () (by repeat (first | exact ag_refl | exact ag_mask rfl ag_refl | refine ag_upd rfl ?_ | refine ag_mask rfl ?_)) trivial ⟨⟨hc1, hc2, by
              rintro ⟨h, hl⟩
              first
                | exact g69 h
                | (rcases hl with hl | hl
                   · rw [hl] at g71; cases g71
                   · omega)⟩, M⟩
         ·
          refine s_skip (yield_Fr rfl rfl) rfl ?_
          refine s_skip (yield_Fr rfl rfl) rfl ?_
          refine s_skip (yield_Fr rfl rfl) rfl ?_
          refine s_unguard (yield_Fr rfl rfl) rfl ?_
          refine s_val (r_pick (v := .bool _) rfl rfl) ?_
          refine s_val (r_pick (v := .bool _) rfl rfl) ?_
          refine s_val (r_assign (v := .bool _) rfl) ?_
          refine s_nil (e_then ?_)
          refine c_no rfl (by decide) ?_
          refine c_seq (c_region ?_)
          have hc2 : ¬ (x.dst ≥ 12 ∨ x.a ≥ 12 ∨ (x.op ≠ 12 ∧ x.b ≥ 12) ∨ (x.op = 14 ∧ x.a > 8)) := by omega
          refine s_val (r_fieldAddr (o' := 0) fb44_0 (by decide) rfl rfl) ?_
          refine a_load1 (v := .int _ _) Try.underlying42 rfl M rfl (k := 0) (j := 0) rfl rfl rfl ?_
          refine s_val (r_eql rfl rfl) ?_
          refine s_val (r_move (v := .bool _) rfl) ?_
          refine s_splitD 69 rfl (fun g69 => ?_) (fun g69 => ?_)
          ·
           refine s_unguard (yield_Fr rfl rfl) rfl ?_
           refine s_val (r_move (v := .bool _) rfl) ?_
           refine s_unguard (yield_Fr rfl rfl) rfl ?_
           refine s_val (r_move (v := .bool _) rfl) ?_
           refine s_split 71 rfl (fun g71 => ?_) (fun g71 => ?_)
           ·
            refine s_skip (yield_Fr rfl rfl) rfl ?_
            refine s_skip (yield_Fr rfl rfl) rfl ?_
            refine s_skip (yield_Fr rfl rfl) rfl ?_
            refine s_unguard (yield_Fr rfl rfl) rfl ?_
            refine s_val (r_pick (v := .bool _) rfl rfl) ?_
            refine s_unguard (yield_Fr rfl rfl) rfl ?_
            refine s_val (r_move (v := .bool _) rfl) ?_
            refine s_skip (yield_Fr rfl rfl) rfl ?_
            refine s_skip (yield_Fr rfl rfl) rfl ?_
            refine s_skip (yield_Fr rfl rfl) rfl ?_
            refine s_skip (yield_Fr rfl rfl) rfl ?_
            refine s_skip (yield_Fr rfl rfl) rfl ?_
            refine s_skip (yield_Fr rfl rfl) rfl ?_
            refine s_skip (yield_Fr rfl rfl) rfl ?_
            refine s_skip (yield_Fr rfl rfl) rfl ?_
            refine s_skip (yield_Fr rfl rfl) rfl ?_
            refine s_unguard (yield_Fr rfl rfl) rfl ?_
            refine s_val (r_pick (v := .bool _) rfl rfl) ?_
            refine s_unguard (yield_Fr rfl rfl) rfl ?_
            refine s_val (r_move (v := .bool _) rfl) ?_
            refine s_skip (yield_Fr rfl rfl) rfl ?_
            refine s_skip (yield_Fr rfl rfl) rfl ?_
            refine s_skip (yield_Fr rfl rfl) rfl ?_
            refine s_unguard (yield_Fr rfl rfl) rfl ?_
            refine s_val (r_pick (v := .bool _) rfl rfl) ?_
            refine s_unguard (yield_Fr rfl rfl) rfl ?_
            refine s_val (r_move (v := .bool _) rfl) ?_
            refine s_skip (yield_Fr rfl rfl) rfl ?_
            refine s_skip (yield_Fr rfl rfl) rfl ?_
            refine s_skip (yield_Fr rfl rfl) rfl ?_
            refine s_unguard (yield_Fr rfl rfl) rfl ?_
            refine s_val (r_pick (v := .bool _) rfl rfl) ?_
            refine s_val (r_pick (v := .bool _) rfl rfl) ?_
            refine s_val (r_assign (v := .bool _) rfl) ?_
            refine s_nil (e_then ?_)
            refine c_yes rfl (by decide) ?_
            refine c_seq (c_region ?_)
            have hr : 12 = insCheck p i x d := by
              unfold insCheck
              rw [if_neg hc1, if_neg hc2, if_pos ⟨g69, by first | exact .inl g71 | (right; omega)⟩]
            refine s_val (r_assign (v := .int _ _) rfl) ?_
            refine s_nil (e_then (c_ret (e_blk_ret (e_then_ret ?_))))
            refine ret_run (res_1 (v := .int _ _) rfl rfl) ?_
            exact ⟨congrArg (fun n => Ending.returned (i64 n)) hr, M.keep⟩
           ·
            refine s_unguard (yield_Fr rfl rfl) rfl ?_
            refine s_val (r_fieldAddr (o' := 3) fb44_3 (by decide) rfl rfl) ?_
            refine s_unguard (yield_Fr rfl rfl) rfl ?_
            refine a_load1 (v := .int _ _) Try.underlying5 rfl M rfl (k := 0) (j := 0) rfl rfl rfl ?_
            refine s_unguard (yield_Fr rfl rfl) rfl ?_
            refine s_val (r_lss rfl rfl) ?_
            refine s_unguard (yield_Fr rfl rfl) rfl ?_
            refine s_val (r_pick (v := .bool _) rfl rfl) ?_
            refine s_unguard (yield_Fr rfl rfl) rfl ?_
            refine s_val (r_move (v := .bool _) rfl) ?_
            refine s_splitD 76 rfl (fun g76 => ?_) (fun g76 => ?_)
            ·
             refine s_skip (yield_Fr rfl rfl) rfl ?_
             refine s_skip (yield_Fr rfl rfl) rfl ?_
             refine s_skip (yield_Fr rfl rfl) rfl ?_
             refine s_skip (yield_Fr rfl rfl) rfl ?_
             refine s_skip (yield_Fr rfl rfl) rfl ?_
             refine s_skip (yield_Fr rfl rfl) rfl ?_
             refine s_skip (yield_Fr rfl rfl) rfl ?_
             refine s_skip (yield_Fr rfl rfl) rfl ?_
             refine s_skip (yield_Fr rfl rfl) rfl ?_
             refine s_unguard (yield_Fr rfl rfl) rfl ?_
             refine s_val (r_pick (v := .bool _) rfl rfl) ?_
             refine s_unguard (yield_Fr rfl rfl) rfl ?_
             refine s_val (r_move (v := .bool _) rfl) ?_
             refine s_skip (yield_Fr rfl rfl) rfl ?_
             refine s_skip (yield_Fr rfl rfl) rfl ?_
             refine s_skip (yield_Fr rfl rfl) rfl ?_
             refine s_unguard (yield_Fr rfl rfl) rfl ?_
             refine s_val (r_pick (v := .bool _) rfl rfl) ?_
             refine s_unguard (yield_Fr rfl rfl) rfl ?_
             refine s_val (r_move (v := .bool _) rfl) ?_
             refine s_skip (yield_Fr rfl rfl) rfl ?_
             refine s_skip (yield_Fr rfl rfl) rfl ?_
             refine s_skip (yield_Fr rfl rfl) rfl ?_
             refine s_unguard (yield_Fr rfl rfl) rfl ?_
             refine s_val (r_pick (v := .bool _) rfl rfl) ?_
             refine s_val (r_pick (v := .bool _) rfl rfl) ?_
             refine s_val (r_assign (v := .bool _) rfl) ?_
             refine s_nil (e_then ?_)
             refine c_yes rfl (by decide) ?_
             refine c_seq (c_region ?_)
             have hr : 12 = insCheck p i x d := by
               unfold insCheck
               rw [if_neg hc1, if_neg hc2, if_pos ⟨g69, by first | exact .inl g71 | (right; omega)⟩]
             refine s_val (r_assign (v := .int _ _) rfl) ?_
             refine s_nil (e_then (c_ret (e_blk_ret (e_then_ret ?_))))
             refine ret_run (res_1 (v := .int _ _) rfl rfl) ?_
             exact ⟨congrArg (fun n => Ending.returned (i64 n)) hr, M.keep⟩
            ·
             refine s_unguard (yield_Fr rfl rfl) rfl ?_
             refine s_val (r_fieldAddr (o' := 3) fb44_3 (by decide) rfl rfl) ?_
             refine s_unguard (yield_Fr rfl rfl) rfl ?_
             refine a_load1 (v := .int _ _) Try.underlying5 rfl M rfl (k := 0) (j := 0) rfl rfl rfl ?_
             refine s_unguard (yield_Fr rfl rfl) rfl ?_
             first | (refine s_val (r_conv Try.underlying5 Try.underlying3 rfl (w64 (by omega) (by omega))) ?_) | (refine s_val (r_conv Try.underlying5 Try.underlying3 rfl rfl) ?_)
             refine s_unguard (yield_Fr rfl rfl) rfl ?_
             refine s_val (r_move (v := .slice _ _ _) rfl) ?_
             refine s_unguard (yield_Fr rfl rfl) rfl ?_
             refine s_val (r_len Try.underlying46 rfl) ?_
             refine s_unguard (yield_Fr rfl rfl) rfl ?_
             refine s_val (r_move (v := .int _ _) rfl) ?_
             refine s_unguard (yield_Fr rfl rfl) rfl ?_
             first | (refine s_val (r_sub rfl rfl (w64 (by omega) (by omega))) ?_) | (refine s_val (r_sub rfl rfl rfl) ?_)
             refine s_unguard (yield_Fr rfl rfl) rfl ?_
             first | (refine s_val (r_sub rfl rfl (w64 (by omega) (by omega))) ?_) | (refine s_val (r_sub rfl rfl rfl) ?_)
             refine s_unguard (yield_Fr rfl rfl) rfl ?_
             refine s_val (r_gtr rfl rfl) ?_
             refine s_unguard (yield_Fr rfl rfl) rfl ?_
             refine s_val (r_pick (v := .bool _) rfl rfl) ?_
             refine s_unguard (yield_Fr rfl rfl) rfl ?_
             refine s_val (r_move (v := .bool _) rfl) ?_
             refine s_splitD 87 rfl (fun g87 => ?_) (fun g87 => ?_)
             ·
              refine s_skip (yield_Fr rfl rfl) rfl ?_
              refine s_skip (yield_Fr rfl rfl) rfl ?_
              refine s_skip (yield_Fr rfl rfl) rfl ?_
              refine s_unguard (yield_Fr rfl rfl) rfl ?_
              refine s_val (r_pick (v := .bool _) rfl rfl) ?_
              refine s_unguard (yield_Fr rfl rfl) rfl ?_
              refine s_val (r_move (v := .bool _) rfl) ?_
              refine s_skip (yield_Fr rfl rfl) rfl ?_
              refine s_skip (yield_Fr rfl rfl) rfl ?_
              refine s_skip (yield_Fr rfl rfl) rfl ?_
              refine s_unguard (yield_Fr rfl rfl) rfl ?_
              refine s_val (r_pick (v := .bool _) rfl rfl) ?_
              refine s_val (r_pick (v := .bool _) rfl rfl) ?_
              refine s_val (r_assign (v := .bool _) rfl) ?_
              refine s_nil (e_then ?_)
              refine c_yes rfl (by decide) ?_
              refine c_seq (c_region ?_)
              have hr : 12 = insCheck p i x d := by
                unfold insCheck
                rw [if_neg hc1, if_neg hc2, if_pos ⟨g69, by first | exact .inl g71 | (right; omega)⟩]
              refine s_val (r_assign (v := .int _ _) rfl) ?_
              refine s_nil (e_then (c_ret (e_blk_ret (e_then_ret ?_))))
              refine ret_run (res_1 (v := .int _ _) rfl rfl) ?_
              exact ⟨congrArg (fun n => Ending.returned (i64 n)) hr, M.keep⟩
             ·
              refine s_unguard (yield_Fr rfl rfl) rfl ?_
              refine s_val (r_fieldAddr (o' := 4) fb44_4 (by decide) rfl rfl) ?_
              refine s_unguard (yield_Fr rfl rfl) rfl ?_
              refine a_load1 (v := .int _ _) Try.underlying22 rfl M rfl (k := 0) (j := 0) rfl rfl rfl ?_
              refine s_unguard (yield_Fr rfl rfl) rfl ?_
              refine s_val (r_lss rfl rfl) ?_
              refine s_unguard (yield_Fr rfl rfl) rfl ?_
              refine s_val (r_pick (v := .bool _) rfl rfl) ?_
              refine s_unguard (yield_Fr rfl rfl) rfl ?_
              refine s_val (r_move (v := .bool _) rfl) ?_
              refine s_splitD 92 rfl (fun g92 => ?_) (fun g92 => ?_)
              ·
               refine s_skip (yield_Fr rfl rfl) rfl ?_
               refine s_skip (yield_Fr rfl rfl) rfl ?_
               refine s_skip (yield_Fr rfl rfl) rfl ?_
               refine s_unguard (yield_Fr rfl rfl) rfl ?_
               refine s_val (r_pick (v := .bool _) rfl rfl) ?_
               refine s_val (r_pick (v := .bool _) rfl rfl) ?_
               refine s_val (r_assign (v := .bool _) rfl) ?_
               refine s_nil (e_then ?_)
               refine c_yes rfl (by decide) ?_
               refine c_seq (c_region ?_)
               have hr : 12 = insCheck p i x d := by
                 unfold insCheck
                 rw [if_neg hc1, if_neg hc2, if_pos ⟨g69, by first | exact .inl g71 | (right; omega)⟩]
               refine s_val (r_assign (v := .int _ _) rfl) ?_
               refine s_nil (e_then (c_ret (e_blk_ret (e_then_ret ?_))))
               refine ret_run (res_1 (v := .int _ _) rfl rfl) ?_
               exact ⟨congrArg (fun n => Ending.returned (i64 n)) hr, M.keep⟩
              ·
               refine s_unguard (yield_Fr rfl rfl) rfl ?_
               refine s_val (r_fieldAddr (o' := 4) fb44_4 (by decide) rfl rfl) ?_
               refine s_unguard (yield_Fr rfl rfl) rfl ?_
               refine a_load1 (v := .int _ _) Try.underlying22 rfl M rfl (k := 0) (j := 0) rfl rfl rfl ?_
               refine s_unguard (yield_Fr rfl rfl) rfl ?_
               refine s_val (r_gtr rfl rfl) ?_
               refine s_unguard (yield_Fr rfl rfl) rfl ?_
               refine s_val (r_pick (v := .bool _) rfl rfl) ?_
               refine s_val (r_pick (v := .bool _) rfl rfl) ?_
               refine s_val (r_assign (v := .bool _) rfl) ?_
               refine s_nil (e_then ?_)
               refine c_if rfl (fun h65 => ?_) (fun h65 => ?_)
               ·
                refine c_seq (c_region ?_)
                have hr : 12 = insCheck p i x d := by
                  unfold insCheck
                  rw [if_neg hc1, if_neg hc2, if_pos ⟨g69, by first | exact .inl g71 | (right; omega)⟩]
                refine s_val (r_assign (v := .int _ _) rfl) ?_
                refine s_nil (e_then (c_ret (e_blk_ret (e_then_ret ?_))))
                refine ret_run (res_1 (v := .int _ _) rfl rfl) ?_
                exact ⟨congrArg (fun n => Ending.returned (i64 n)) hr, M.keep⟩
               ·
                refine c_skip (e_blk (e_then ?_))
                exact cut_end () (by repeat (first | exact ag_refl | exact ag_mask rfl ag_refl | refine ag_upd rfl ?_ | refine ag_mask rfl ?_)) trivial ⟨⟨hc1, hc2, by
                  rintro ⟨h, hl⟩
                  first
                    | exact g69 h
                    | (rcases hl with hl | hl
                       · rw [hl] at g71; cases g71
                       · omega)⟩, M⟩
          ·
           refine s_skip (yield_Fr rfl rfl) rfl ?_
           refine s_skip (yield_Fr rfl rfl) rfl ?_
           refine s_skipU (yield_U rfl rfl) ?_
           refine s_skipU (yield_U rfl rfl) ?_
           refine s_skipU (yield_U rfl rfl) ?_
           refine s_skip (yield_Fr rfl rfl) rfl ?_
           refine s_skip (yield_Fr rfl rfl) rfl ?_
           refine s_skipU (yield_U rfl rfl) ?_
           refine s_skipU (yield_U rfl rfl) ?_
           refine s_skipU (yield_U rfl rfl) ?_
           refine s_skipU (yield_U rfl rfl) ?_
           refine s_skipU (yield_U rfl rfl) ?_
           refine s_skipU (yield_U rfl rfl) ?_
           refine s_skipU (yield_U rfl rfl) ?_
           refine s_skipU (yield_U rfl rfl) ?_
           refine s_skipU (yield_U rfl rfl) ?_
           refine s_skip (yield_Fr rfl rfl) rfl ?_
           refine s_skip (yield_Fr rfl rfl) rfl ?_
           refine s_skipU (yield_U rfl rfl) ?_
           refine s_skipU (yield_U rfl rfl) ?_
           refine s_skipU (yield_U rfl rfl) ?_
           refine s_skip (yield_Fr rfl rfl) rfl ?_
           refine s_skip (yield_Fr rfl rfl) rfl ?_
           refine s_skipU (yield_U rfl rfl) ?_
           refine s_skipU (yield_U rfl rfl) ?_
           refine s_skipU (yield_U rfl rfl) ?_
           refine s_skip (yield_Fr rfl rfl) rfl ?_
           refine s_val (r_pick (v := .bool _) rfl rfl) ?_
           refine s_val (r_assign (v := .bool _) rfl) ?_
           refine s_nil (e_then ?_)
           refine c_no rfl (by decide) ?_
           refine c_skip (e_blk (e_then ?_))
           exact cut_end () (by repeat (first | exact ag_refl | exact ag_mask rfl ag_refl | refine ag_upd rfl ?_ | refine ag_mask rfl ?_)) trivial ⟨⟨hc1, hc2, by
             rintro ⟨h, hl⟩
             first
               | exact g69 h
               | (rcases hl with hl | hl
                  · rw [hl] at g71; cases g71
                  · omega)⟩, M⟩
    ·
     refine s_skip (yield_Fr rfl rfl) rfl ?_
     refine s_skip (yield_Fr rfl rfl) rfl ?_
     refine s_unguard (yield_Fr rfl rfl) rfl ?_
     refine s_val (r_pick (v := .bool _) rfl rfl) ?_
     refine s_val (r_pick (v := .bool _) rfl rfl) ?_
     refine s_val (r_assign (v := .bool _) rfl) ?_
     refine s_nil (e_then ?_)
     refine c_no rfl (by decide) ?_
     refine c_seq (c_region ?_)
     have hc1 : ¬ (x.op ≥ 15 ∨ (x.op = 13 ∧ d = false)) := by
       rintro (h | ⟨h, hd⟩)
       · exact g27 h
       · first | exact g31 h | (rw [hd] at h23; cases h23)
     refine s_val (r_fieldAddr (o' := 1) fb44_1 (by decide) rfl rfl) ?_
     refine a_load1 (v := .int _ _) Try.underlying5 rfl M rfl (k := 0) (j := 0) rfl rfl rfl ?_
     refine s_val (r_geq rfl rfl) ?_
     refine s_val (r_move (v := .bool _) rfl) ?_
     refine s_splitD 40 rfl (fun g40 => ?_) (fun g40 => ?_)
     ·
      refine s_skip (yield_Fr rfl rfl) rfl ?_
      refine s_skip (yield_Fr rfl rfl) rfl ?_
      refine s_skip (yield_Fr rfl rfl) rfl ?_
      refine s_val (r_pick (v := .bool _) rfl rfl) ?_
      refine s_val (r_move (v := .bool _) rfl) ?_
      refine s_skip (yield_Fr rfl rfl) rfl ?_
      refine s_skip (yield_Fr rfl rfl) rfl ?_
      refine s_skip (yield_Fr rfl rfl) rfl ?_
      refine s_skip (yield_Fr rfl rfl) rfl ?_
      refine s_skipU (yield_U rfl rfl) ?_
      refine s_skipU (yield_U rfl rfl) ?_
      refine s_skipU (yield_U rfl rfl) ?_
      refine s_skip (yield_Fr rfl rfl) rfl ?_
      refine s_val (r_pick (v := .bool _) rfl rfl) ?_
      refine s_val (r_move (v := .bool _) rfl) ?_
      refine s_skip (yield_Fr rfl rfl) rfl ?_
      refine s_skip (yield_Fr rfl rfl) rfl ?_
      refine s_skip (yield_Fr rfl rfl) rfl ?_
      refine s_skip (yield_Fr rfl rfl) rfl ?_
      refine s_skipU (yield_U rfl rfl) ?_
      refine s_skipU (yield_U rfl rfl) ?_
      refine s_skipU (yield_U rfl rfl) ?_
      refine s_skip (yield_Fr rfl rfl) rfl ?_
      refine s_val (r_pick (v := .bool _) rfl rfl) ?_
      refine s_val (r_assign (v := .bool _) rfl) ?_
      refine s_nil (e_then ?_)
      refine c_yes rfl (by decide) ?_
      refine c_seq (c_region ?_)
      have hr : 2 = insCheck p i x d := by unfold insCheck; rw [if_neg hc1, if_pos (by omega)]
      refine s_val (r_assign (v := .int _ _) rfl) ?_
      refine s_nil (e_then (c_ret (e_blk_ret (e_then_ret ?_))))
      refine ret_run (res_1 (v := .int _ _) rfl rfl) ?_
      exact ⟨congrArg (fun n => Ending.returned (i64 n)) hr, M.keep⟩
     ·
      refine s_unguard (yield_Fr rfl rfl) rfl ?_
      refine s_val (r_fieldAddr (o' := 2) fb44_2 (by decide) rfl rfl) ?_
      refine s_unguard (yield_Fr rfl rfl) rfl ?_
      refine a_load1 (v := .int _ _) Try.underlying5 rfl M rfl (k := 0) (j := 0) rfl rfl rfl ?_
      refine s_unguard (yield_Fr rfl rfl) rfl ?_
      refine s_val (r_geq rfl rfl) ?_
      refine s_val (r_pick (v := .bool _) rfl rfl) ?_
      refine s_val (r_move (v := .bool _) rfl) ?_
      refine s_splitD 45 rfl (fun g45 => ?_) (fun g45 => ?_)
      ·
       refine s_skip (yield_Fr rfl rfl) rfl ?_
       refine s_skip (yield_Fr rfl rfl) rfl ?_
       refine s_skip (yield_Fr rfl rfl) rfl ?_
       refine s_skip (yield_Fr rfl rfl) rfl ?_
       refine s_skipU (yield_U rfl rfl) ?_
       refine s_skipU (yield_U rfl rfl) ?_
       refine s_skipU (yield_U rfl rfl) ?_
       refine s_skip (yield_Fr rfl rfl) rfl ?_
       refine s_val (r_pick (v := .bool _) rfl rfl) ?_
       refine s_val (r_move (v := .bool _) rfl) ?_
       refine s_skip (yield_Fr rfl rfl) rfl ?_
       refine s_skip (yield_Fr rfl rfl) rfl ?_
       refine s_skip (yield_Fr rfl rfl) rfl ?_
       refine s_skip (yield_Fr rfl rfl) rfl ?_
       refine s_skipU (yield_U rfl rfl) ?_
       refine s_skipU (yield_U rfl rfl) ?_
       refine s_skipU (yield_U rfl rfl) ?_
       refine s_skip (yield_Fr rfl rfl) rfl ?_
       refine s_val (r_pick (v := .bool _) rfl rfl) ?_
       refine s_val (r_assign (v := .bool _) rfl) ?_
       refine s_nil (e_then ?_)
       refine c_yes rfl (by decide) ?_
       refine c_seq (c_region ?_)
       have hr : 2 = insCheck p i x d := by unfold insCheck; rw [if_neg hc1, if_pos (by omega)]
       refine s_val (r_assign (v := .int _ _) rfl) ?_
       refine s_nil (e_then (c_ret (e_blk_ret (e_then_ret ?_))))
       refine ret_run (res_1 (v := .int _ _) rfl rfl) ?_
       exact ⟨congrArg (fun n => Ending.returned (i64 n)) hr, M.keep⟩
      ·
       refine s_unguard (yield_Fr rfl rfl) rfl ?_
       refine s_val (r_fieldAddr (o' := 0) fb44_0 (by decide) rfl rfl) ?_
       refine s_unguard (yield_Fr rfl rfl) rfl ?_
       refine a_load1 (v := .int _ _) Try.underlying42 rfl M rfl (k := 0) (j := 0) rfl rfl rfl ?_
       refine s_unguard (yield_Fr rfl rfl) rfl ?_
       refine s_val (r_neq rfl rfl) ?_
       refine s_unguard (yield_Fr rfl rfl) rfl ?_
       refine s_val (r_move (v := .bool _) rfl) ?_
       refine s_splitD 49 rfl (fun g49 => ?_) (fun g49 => ?_)
       ·
        refine s_unguard (yield_Fr rfl rfl) rfl ?_
        refine s_val (r_fieldAddr (o' := 3) fb44_3 (by decide) rfl rfl) ?_
        refine s_unguard (yield_Fr rfl rfl) rfl ?_
        refine a_load1 (v := .int _ _) Try.underlying5 rfl M rfl (k := 0) (j := 0) rfl rfl rfl ?_
        refine s_unguard (yield_Fr rfl rfl) rfl ?_
        refine s_val (r_geq rfl rfl) ?_
        refine s_unguard (yield_Fr rfl rfl) rfl ?_
        refine s_val (r_pick (v := .bool _) rfl rfl) ?_
        refine s_val (r_pick (v := .bool _) rfl rfl) ?_
        refine s_val (r_move (v := .bool _) rfl) ?_
        refine s_splitD 55 rfl (fun g55 => ?_) (fun g55 => ?_)
        ·
         refine s_skip (yield_Fr rfl rfl) rfl ?_
         refine s_skip (yield_Fr rfl rfl) rfl ?_
         refine s_skip (yield_Fr rfl rfl) rfl ?_
         refine s_skip (yield_Fr rfl rfl) rfl ?_
         refine s_skipU (yield_U rfl rfl) ?_
         refine s_skipU (yield_U rfl rfl) ?_
         refine s_skipU (yield_U rfl rfl) ?_
         refine s_skip (yield_Fr rfl rfl) rfl ?_
         refine s_val (r_pick (v := .bool _) rfl rfl) ?_
         refine s_val (r_assign (v := .bool _) rfl) ?_
         refine s_nil (e_then ?_)
         refine c_yes rfl (by decide) ?_
         refine c_seq (c_region ?_)
         have hr : 2 = insCheck p i x d := by unfold insCheck; rw [if_neg hc1, if_pos (by omega)]
         refine s_val (r_assign (v := .int _ _) rfl) ?_
         refine s_nil (e_then (c_ret (e_blk_ret (e_then_ret ?_))))
         refine ret_run (res_1 (v := .int _ _) rfl rfl) ?_
         exact ⟨congrArg (fun n => Ending.returned (i64 n)) hr, M.keep⟩
        ·
         refine s_unguard (yield_Fr rfl rfl) rfl ?_
         refine s_val (r_fieldAddr (o' := 0) fb44_0 (by decide) rfl rfl) ?_
         refine s_unguard (yield_Fr rfl rfl) rfl ?_
         refine a_load1 (v := .int _ _) Try.underlying42 rfl M rfl (k := 0) (j := 0) rfl rfl rfl ?_
         refine s_unguard (yield_Fr rfl rfl) rfl ?_
         refine s_val (r_eql rfl rfl) ?_
         refine s_unguard (yield_Fr rfl rfl) rfl ?_
         refine s_val (r_move (v := .bool _) rfl) ?_
         refine s_splitD 59 rfl (fun g59 => ?_) (fun g59 => ?_)
         ·
          refine s_unguard (yield_Fr rfl rfl) rfl ?_
          refine s_val (r_fieldAddr (o' := 2) fb44_2 (by decide) rfl rfl) ?_
          refine s_unguard (yield_Fr rfl rfl) rfl ?_
          refine a_load1 (v := .int _ _) Try.underlying5 rfl M rfl (k := 0) (j := 0) rfl rfl rfl ?_
          refine s_unguard (yield_Fr rfl rfl) rfl ?_
          refine s_val (r_gtr rfl rfl) ?_
          refine s_unguard (yield_Fr rfl rfl) rfl ?_
          refine s_val (r_pick (v := .bool _) rfl rfl) ?_
          refine s_val (r_pick (v := .bool _) rfl rfl) ?_
          refine s_val (r_assign (v := .bool _) rfl) ?_
          refine s_nil (e_then ?_)
          refine c_if rfl (fun h36 => ?_) (fun h36 => ?_)
          ·
           refine c_seq (c_region ?_)
           have hr : 2 = insCheck p i x d := by unfold insCheck; rw [if_neg hc1, if_pos (by omega)]
           refine s_val (r_assign (v := .int _ _) rfl) ?_
           refine s_nil (e_then (c_ret (e_blk_ret (e_then_ret ?_))))
           refine ret_run (res_1 (v := .int _ _) rfl rfl) ?_
           exact ⟨congrArg (fun n => Ending.returned (i64 n)) hr, M.keep⟩
          ·
           refine c_seq (c_region ?_)
           have hc2 : ¬ (x.dst ≥ 12 ∨ x.a ≥ 12 ∨ (x.op ≠ 12 ∧ x.b ≥ 12) ∨ (x.op = 14 ∧ x.a > 8)) := by omega
           refine s_val (r_fieldAddr (o' := 0) fb44_0 (by decide) rfl rfl) ?_
           refine a_load1 (v := .int _ _) Try.underlying42 rfl M rfl (k := 0) (j := 0) rfl rfl rfl ?_
           refine s_val (r_eql rfl rfl) ?_
           refine s_val (r_move (v := .bool _) rfl) ?_
           refine s_splitD 69 rfl (fun g69 => ?_) (fun g69 => ?_)
           ·
            refine s_unguard (yield_Fr rfl rfl) rfl ?_
            refine s_val (r_move (v := .bool _) rfl) ?_
            refine s_unguard (yield_Fr rfl rfl) rfl ?_
            refine s_val (r_move (v := .bool _) rfl) ?_
            refine s_split 71 rfl (fun g71 => ?_) (fun g71 => ?_)
            ·
             refine s_skip (yield_Fr rfl rfl) rfl ?_
             refine s_skip (yield_Fr rfl rfl) rfl ?_
             refine s_skip (yield_Fr rfl rfl) rfl ?_
             refine s_unguard (yield_Fr rfl rfl) rfl ?_
             refine s_val (r_pick (v := .bool _) rfl rfl) ?_
             refine s_unguard (yield_Fr rfl rfl) rfl ?_
             refine s_val (r_move (v := .bool _) rfl) ?_
             refine s_skip (yield_Fr rfl rfl) rfl ?_
             refine s_skip (yield_Fr rfl rfl) rfl ?_
             refine s_skip (yield_Fr rfl rfl) rfl ?_
             refine s_skip (yield_Fr rfl rfl) rfl ?_
             refine s_skip (yield_Fr rfl rfl) rfl ?_
             refine s_skip (yield_Fr rfl rfl) rfl ?_
             refine s_skip (yield_Fr rfl rfl) rfl ?_
             refine s_skip (yield_Fr rfl rfl) rfl ?_
             refine s_skip (yield_Fr rfl rfl) rfl ?_
             refine s_unguard (yield_Fr rfl rfl) rfl ?_
             refine s_val (r_pick (v := .bool _) rfl rfl) ?_
             refine s_unguard (yield_Fr rfl rfl) rfl ?_
             refine s_val (r_move (v := .bool _) rfl) ?_
             refine s_skip (yield_Fr rfl rfl) rfl ?_
             refine s_skip (yield_Fr rfl rfl) rfl ?_
             refine s_skip (yield_Fr rfl rfl) rfl ?_
             refine s_unguard (yield_Fr rfl rfl) rfl ?_
             refine s_val (r_pick (v := .bool _) rfl rfl) ?_
             refine s_unguard (yield_Fr rfl rfl) rfl ?_
             refine s_val (r_move (v := .bool _) rfl) ?_
             refine s_skip (yield_Fr rfl rfl) rfl ?_
             refine s_skip (yield_Fr rfl rfl) rfl ?_
             refine s_skip (yield_Fr rfl rfl) rfl ?_
             refine s_unguard (yield_Fr rfl rfl) rfl ?_
             refine s_val (r_pick (v := .bool _) rfl rfl) ?_
             refine s_val (r_pick (v := .bool _) rfl rfl) ?_
             refine s_val (r_assign (v := .bool _) rfl) ?_
             refine s_nil (e_then ?_)
             refine c_yes rfl (by decide) ?_
             refine c_seq (c_region ?_)
             have hr : 12 = insCheck p i x d := by
               unfold insCheck
               rw [if_neg hc1, if_neg hc2, if_pos ⟨g69, by first | exact .inl g71 | (right; omega)⟩]
             refine s_val (r_assign (v := .int _ _) rfl) ?_
             refine s_nil (e_then (c_ret (e_blk_ret (e_then_ret ?_))))
             refine ret_run (res_1 (v := .int _ _) rfl rfl) ?_
             exact ⟨congrArg (fun n => Ending.returned (i64 n)) hr, M.keep⟩
            ·
             refine s_unguard (yield_Fr rfl rfl) rfl ?_
             refine s_val (r_fieldAddr (o' := 3) fb44_3 (by decide) rfl rfl) ?_
             refine s_unguard (yield_Fr rfl rfl) rfl ?_
             refine a_load1 (v := .int _ _) Try.underlying5 rfl M rfl (k := 0) (j := 0) rfl rfl rfl ?_
             refine s_unguard (yield_Fr rfl rfl) rfl ?_
             refine s_val (r_lss rfl rfl) ?_
             refine s_unguard (yield_Fr rfl rfl) rfl ?_
             refine s_val (r_pick (v := .bool _) rfl rfl) ?_
             refine s_unguard (yield_Fr rfl rfl) rfl ?_
             refine s_val (r_move (v := .bool _) rfl) ?_
             refine s_splitD 76 rfl (fun g76 => ?_) (fun g76 => ?_)
             ·
              refine s_skip (yield_Fr rfl rfl) rfl ?_
              refine s_skip (yield_Fr rfl rfl) rfl ?_
              refine s_skip (yield_Fr rfl rfl) rfl ?_
              refine s_skip (yield_Fr rfl rfl) rfl ?_
              refine s_skip (yield_Fr rfl rfl) rfl ?_
              refine s_skip (yield_Fr rfl rfl) rfl ?_
              refine s_skip (yield_Fr rfl rfl) rfl ?_
              refine s_skip (yield_Fr rfl rfl) rfl ?_
              refine s_skip (yield_Fr rfl rfl) rfl ?_
              refine s_unguard (yield_Fr rfl rfl) rfl ?_
              refine s_val (r_pick (v := .bool _) rfl rfl) ?_
              refine s_unguard (yield_Fr rfl rfl) rfl ?_
              refine s_val (r_move (v := .bool _) rfl) ?_
              refine s_skip (yield_Fr rfl rfl) rfl ?_
              refine s_skip (yield_Fr rfl rfl) rfl ?_
              refine s_skip (yield_Fr rfl rfl) rfl ?_
              refine s_unguard (yield_Fr rfl rfl) rfl ?_
              refine s_val (r_pick (v := .bool _) rfl rfl) ?_
              refine s_unguard (yield_Fr rfl rfl) rfl ?_
              refine s_val (r_move (v := .bool _) rfl) ?_
              refine s_skip (yield_Fr rfl rfl) rfl ?_
              refine s_skip (yield_Fr rfl rfl) rfl ?_
              refine s_skip (yield_Fr rfl rfl) rfl ?_
              refine s_unguard (yield_Fr rfl rfl) rfl ?_
              refine s_val (r_pick (v := .bool _) rfl rfl) ?_
              refine s_val (r_pick (v := .bool _) rfl rfl) ?_
              refine s_val (r_assign (v := .bool _) rfl) ?_
              refine s_nil (e_then ?_)
              refine c_yes rfl (by decide) ?_
              refine c_seq (c_region ?_)
              have hr : 12 = insCheck p i x d := by
                unfold insCheck
                rw [if_neg hc1, if_neg hc2, if_pos ⟨g69, by first | exact .inl g71 | (right; omega)⟩]
              refine s_val (r_assign (v := .int _ _) rfl) ?_
              refine s_nil (e_then (c_ret (e_blk_ret (e_then_ret ?_))))
              refine ret_run (res_1 (v := .int _ _) rfl rfl) ?_
              exact ⟨congrArg (fun n => Ending.returned (i64 n)) hr, M.keep⟩
             ·
              refine s_unguard (yield_Fr rfl rfl) rfl ?_
              refine s_val (r_fieldAddr (o' := 3) fb44_3 (by decide) rfl rfl) ?_
              refine s_unguard (yield_Fr rfl rfl) rfl ?_
              refine a_load1 (v := .int _ _) Try.underlying5 rfl M rfl (k := 0) (j := 0) rfl rfl rfl ?_
              refine s_unguard (yield_Fr rfl rfl) rfl ?_
              first | (refine s_val (r_conv Try.underlying5 Try.underlying3 rfl (w64 (by omega) (by omega))) ?_) | (refine s_val (r_conv Try.underlying5 Try.underlying3 rfl rfl) ?_)
              refine s_unguard (yield_Fr rfl rfl) rfl ?_
              refine s_val (r_move (v := .slice _ _ _) rfl) ?_
              refine s_unguard (yield_Fr rfl rfl) rfl ?_
              refine s_val (r_len Try.underlying46 rfl) ?_
              refine s_unguard (yield_Fr rfl rfl) rfl ?_
              refine s_val (r_move (v := .int _ _) rfl) ?_
              refine s_unguard (yield_Fr rfl rfl) rfl ?_
              first | (refine s_val (r_sub rfl rfl (w64 (by omega) (by omega))) ?_) | (refine s_val (r_sub rfl rfl rfl) ?_)
              refine s_unguard (yield_Fr rfl rfl) rfl ?_
              first | (refine s_val (r_sub rfl rfl (w64 (by omega) (by omega))) ?_) | (refine s_val (r_sub rfl rfl rfl) ?_)
              refine s_unguard (yield_Fr rfl rfl) rfl ?_
              refine s_val (r_gtr rfl rfl) ?_
              refine s_unguard (yield_Fr rfl rfl) rfl ?_
              refine s_val (r_pick (v := .bool _) rfl rfl) ?_
              refine s_unguard (yield_Fr rfl rfl) rfl ?_
              refine s_val (r_move (v := .bool _) rfl) ?_
              refine s_splitD 87 rfl (fun g87 => ?_) (fun g87 => ?_)
              ·
               refine s_skip (yield_Fr rfl rfl) rfl ?_
               refine s_skip (yield_Fr rfl rfl) rfl ?_
               refine s_skip (yield_Fr rfl rfl) rfl ?_
               refine s_unguard (yield_Fr rfl rfl) rfl ?_
               refine s_val (r_pick (v := .bool _) rfl rfl) ?_
               refine s_unguard (yield_Fr rfl rfl) rfl ?_
               refine s_val (r_move (v := .bool _) rfl) ?_
               refine s_skip (yield_Fr rfl rfl) rfl ?_
               refine s_skip (yield_Fr rfl rfl) rfl ?_
               refine s_skip (yield_Fr rfl rfl) rfl ?_
               refine s_unguard (yield_Fr rfl rfl) rfl ?_
               refine s_val (r_pick (v := .bool _) rfl rfl) ?_
               refine s_val (r_pick (v := .bool _) rfl rfl) ?_
               refine s_val (r_assign (v := .bool _) rfl) ?_
               refine s_nil (e_then ?_)
               refine c_yes rfl (by decide) ?_
               refine c_seq (c_region ?_)
               have hr : 12 = insCheck p i x d := by
                 unfold insCheck
                 rw [if_neg hc1, if_neg hc2, if_pos ⟨g69, by first | exact .inl g71 | (right; omega)⟩]
               refine s_val (r_assign (v := .int _ _) rfl) ?_
               refine s_nil (e_then (c_ret (e_blk_ret (e_then_ret ?_))))
               refine ret_run (res_1 (v := .int _ _) rfl rfl) ?_
               exact ⟨congrArg (fun n => Ending.returned (i64 n)) hr, M.keep⟩
              ·
               refine s_unguard (yield_Fr rfl rfl) rfl ?_
               refine s_val (r_fieldAddr (o' := 4) fb44_4 (by decide) rfl rfl) ?_
               refine s_unguard (yield_Fr rfl rfl) rfl ?_
               refine a_load1 (v := .int _ _) Try.underlying22 rfl M rfl (k := 0) (j := 0) rfl rfl rfl ?_
               refine s_unguard (yield_Fr rfl rfl) rfl ?_
               refine s_val (r_lss rfl rfl) ?_
               refine s_unguard (yield_Fr rfl rfl) rfl ?_
               refine s_val (r_pick (v := .bool _) rfl rfl) ?_
               refine s_unguard (yield_Fr rfl rfl) rfl ?_
               refine s_val (r_move (v := .bool _) rfl) ?_
               refine s_splitD 92 rfl (fun g92 => ?_) (fun g92 => ?_)
               ·
                refine s_skip (yield_Fr rfl rfl) rfl ?_
                refine s_skip (yield_Fr rfl rfl) rfl ?_
                refine s_skip (yield_Fr rfl rfl) rfl ?_
                refine s_unguard (yield_Fr rfl rfl) rfl ?_
                refine s_val (r_pick (v := .bool _) rfl rfl) ?_
                refine s_val (r_pick (v := .bool _) rfl rfl) ?_
                refine s_val (r_assign (v := .bool _) rfl) ?_
                refine s_nil (e_then ?_)
                refine c_yes rfl (by decide) ?_
                refine c_seq (c_region ?_)
                have hr : 12 = insCheck p i x d := by
                  unfold insCheck
                  rw [if_neg hc1, if_neg hc2, if_pos ⟨g69, by first | exact .inl g71 | (right; omega)⟩]
                refine s_val (r_assign (v := .int _ _) rfl) ?_
                refine s_nil (e_then (c_ret (e_blk_ret (e_then_ret ?_))))
                refine ret_run (res_1 (v := .int _ _) rfl rfl) ?_
                exact ⟨congrArg (fun n => Ending.returned (i64 n)) hr, M.keep⟩
               ·
                refine s_unguard (yield_Fr rfl rfl) rfl ?_
                refine s_val (r_fieldAddr (o' := 4) fb44_4 (by decide) rfl rfl) ?_
                refine s_unguard (yield_Fr rfl rfl) rfl ?_
                refine a_load1 (v := .int _ _) Try.underlying22 rfl M rfl (k := 0) (j := 0) rfl rfl rfl ?_
                refine s_unguard (yield_Fr rfl rfl) rfl ?_
                refine s_val (r_gtr rfl rfl) ?_
                refine s_unguard (yield_Fr rfl rfl) rfl ?_
                refine s_val (r_pick (v := .bool _) rfl rfl) ?_
                refine s_val (r_pick (v := .bool _) rfl rfl) ?_
                refine s_val (r_assign (v := .bool _) rfl) ?_
                refine s_nil (e_then ?_)
                refine c_if rfl (fun h65 => ?_) (fun h65 => ?_)
                ·
                 refine c_seq (c_region ?_)
                 have hr : 12 = insCheck p i x d := by
                   unfold insCheck
                   rw [if_neg hc1, if_neg hc2, if_pos ⟨g69, by first | exact .inl g71 | (right; omega)⟩]
                 refine s_val (r_assign (v := .int _ _) rfl) ?_
                 refine s_nil (e_then (c_ret (e_blk_ret (e_then_ret ?_))))
                 refine ret_run (res_1 (v := .int _ _) rfl rfl) ?_
                 exact ⟨congrArg (fun n => Ending.returned (i64 n)) hr, M.keep⟩
                ·
                 refine c_skip (e_blk (e_then ?_))
                 exact cut_end () (by repeat (first | exact ag_refl | exact ag_mask rfl ag_refl | refine ag_upd rfl ?_ | refine ag_mask rfl ?_)) trivial ⟨⟨hc1, hc2, by
                   rintro ⟨h, hl⟩
                   first
                     | exact g69 h
                     | (rcases hl with hl | hl
                        · rw [hl] at g71; cases g71
                        · omega)⟩, M⟩
           ·
            refine s_skip (yield_Fr rfl rfl) rfl ?_
            refine s_skip (yield_Fr rfl rfl) rfl ?_
            refine s_skipU (yield_U rfl rfl) ?_
            refine s_skipU (yield_U rfl rfl) ?_
            refine s_skipU (yield_U rfl rfl) ?_
            refine s_skip (yield_Fr rfl rfl) rfl ?_
            refine s_skip (yield_Fr rfl rfl) rfl ?_
            refine s_skipU (yield_U rfl rfl) ?_
            refine s_skipU (yield_U rfl rfl) ?_
            refine s_skipU (yield_U rfl rfl) ?_
            refine s_skipU (yield_U rfl rfl) ?_
            refine s_skipU (yield_U rfl rfl) ?_
            refine s_skipU (yield_U rfl rfl) ?_
            refine s_skipU (yield_U rfl rfl) ?_
            refine s_skipU (yield_U rfl rfl) ?_
            refine s_skipU (yield_U rfl rfl) ?_
            refine s_skip (yield_Fr rfl rfl) rfl ?_
            refine s_skip (yield_Fr rfl rfl) rfl ?_
            refine s_skipU (yield_U rfl rfl) ?_
            refine s_skipU (yield_U rfl rfl) ?_
            refine s_skipU (yield_U rfl rfl) ?_
            refine s_skip (yield_Fr rfl rfl) rfl ?_
            refine s_skip (yield_Fr rfl rfl) rfl ?_
            refine s_skipU (yield_U rfl rfl) ?_
            refine s_skipU (yield_U rfl rfl) ?_
            refine s_skipU (yield_U rfl rfl) ?_
            refine s_skip (yield_Fr rfl rfl) rfl ?_
            refine s_val (r_pick (v := .bool _) rfl rfl) ?_
            refine s_val (r_assign (v := .bool _) rfl) ?_
            refine s_nil (e_then ?_)
            refine c_no rfl (by decide) ?_
            refine c_skip (e_blk (e_then ?_))
            exact cut_end () (by repeat (first | exact ag_refl | exact ag_mask rfl ag_refl | refine ag_upd rfl ?_ | refine ag_mask rfl ?_)) trivial ⟨⟨hc1, hc2, by
              rintro ⟨h, hl⟩
              first
                | exact g69 h
                | (rcases hl with hl | hl
                   · rw [hl] at g71; cases g71
                   · omega)⟩, M⟩
         ·
          refine s_skip (yield_Fr rfl rfl) rfl ?_
          refine s_skip (yield_Fr rfl rfl) rfl ?_
          refine s_skip (yield_Fr rfl rfl) rfl ?_
          refine s_unguard (yield_Fr rfl rfl) rfl ?_
          refine s_val (r_pick (v := .bool _) rfl rfl) ?_
          refine s_val (r_pick (v := .bool _) rfl rfl) ?_
          refine s_val (r_assign (v := .bool _) rfl) ?_
          refine s_nil (e_then ?_)
          refine c_no rfl (by decide) ?_
          refine c_seq (c_region ?_)
          have hc2 : ¬ (x.dst ≥ 12 ∨ x.a ≥ 12 ∨ (x.op ≠ 12 ∧ x.b ≥ 12) ∨ (x.op = 14 ∧ x.a > 8)) := by omega
          refine s_val (r_fieldAddr (o' := 0) fb44_0 (by decide) rfl rfl) ?_
          refine a_load1 (v := .int _ _) Try.underlying42 rfl M rfl (k := 0) (j := 0) rfl rfl rfl ?_
          refine s_val (r_eql rfl rfl) ?_
          refine s_val (r_move (v := .bool _) rfl) ?_
          refine s_splitD 69 rfl (fun g69 => ?_) (fun g69 => ?_)
          ·
           refine s_unguard (yield_Fr rfl rfl) rfl ?_
           refine s_val (r_move (v := .bool _) rfl) ?_
           refine s_unguard (yield_Fr rfl rfl) rfl ?_
           refine s_val (r_move (v := .bool _) rfl) ?_
           refine s_split 71 rfl (fun g71 => ?_) (fun g71 => ?_)
           ·
            refine s_skip (yield_Fr rfl rfl) rfl ?_
            refine s_skip (yield_Fr rfl rfl) rfl ?_
            refine s_skip (yield_Fr rfl rfl) rfl ?_
            refine s_unguard (yield_Fr rfl rfl) rfl ?_
            refine s_val (r_pick (v := .bool _) rfl rfl) ?_
            refine s_unguard (yield_Fr rfl rfl) rfl ?_
            refine s_val (r_move (v := .bool _) rfl) ?_
            refine s_skip (yield_Fr rfl rfl) rfl ?_
            refine s_skip (yield_Fr rfl rfl) rfl ?_
            refine s_skip (yield_Fr rfl rfl) rfl ?_
            refine s_skip (yield_Fr rfl rfl) rfl ?_
            refine s_skip (yield_Fr rfl rfl) rfl ?_
            refine s_skip (yield_Fr rfl rfl) rfl ?_
            refine s_skip (yield_Fr rfl rfl) rfl ?_
            refine s_skip (yield_Fr rfl rfl) rfl ?_
            refine s_skip (yield_Fr rfl rfl) rfl ?_
            refine s_unguard (yield_Fr rfl rfl) rfl ?_
            refine s_val (r_pick (v := .bool _) rfl rfl) ?_
            refine s_unguard (yield_Fr rfl rfl) rfl ?_
            refine s_val (r_move (v := .bool _) rfl) ?_
            refine s_skip (yield_Fr rfl rfl) rfl ?_
            refine s_skip (yield_Fr rfl rfl) rfl ?_
            refine s_skip (yield_Fr rfl rfl) rfl ?_
            refine s_unguard (yield_Fr rfl rfl) rfl ?_
            refine s_val (r_pick (v := .bool _) rfl rfl) ?_
            refine s_unguard (yield_Fr rfl rfl) rfl ?_
            refine s_val (r_move (v := .bool _) rfl) ?_
            refine s_skip (yield_Fr rfl rfl) rfl ?_
            refine s_skip (yield_Fr rfl rfl) rfl ?_
            refine s_skip (yield_Fr rfl rfl) rfl ?_
            refine s_unguard (yield_Fr rfl rfl) rfl ?_
            refine s_val (r_pick (v := .bool _) rfl rfl) ?_
            refine s_val (r_pick (v := .bool _) rfl rfl) ?_
            refine s_val (r_assign (v := .bool _) rfl) ?_
            refine s_nil (e_then ?_)
            refine c_yes rfl (by decide) ?_
            refine c_seq (c_region ?_)
            have hr : 12 = insCheck p i x d := by
              unfold insCheck
              rw [if_neg hc1, if_neg hc2, if_pos ⟨g69, by first | exact .inl g71 | (right; omega)⟩]
            refine s_val (r_assign (v := .int _ _) rfl) ?_
            refine s_nil (e_then (c_ret (e_blk_ret (e_then_ret ?_))))
            refine ret_run (res_1 (v := .int _ _) rfl rfl) ?_
            exact ⟨congrArg (fun n => Ending.returned (i64 n)) hr, M.keep⟩
           ·
            refine s_unguard (yield_Fr rfl rfl) rfl ?_
            refine s_val (r_fieldAddr (o' := 3) fb44_3 (by decide) rfl rfl) ?_
            refine s_unguard (yield_Fr rfl rfl) rfl ?_
            refine a_load1 (v := .int _ _) Try.underlying5 rfl M rfl (k := 0) (j := 0) rfl rfl rfl ?_
            refine s_unguard (yield_Fr rfl rfl) rfl ?_
            refine s_val (r_lss rfl rfl) ?_
            refine s_unguard (yield_Fr rfl rfl) rfl ?_
            refine s_val (r_pick (v := .bool _) rfl rfl) ?_
            refine s_unguard (yield_Fr rfl rfl) rfl ?_
            refine s_val (r_move (v := .bool _) rfl) ?_
            refine s_splitD 76 rfl (fun g76 => ?_) (fun g76 => ?_)
            ·
             refine s_skip (yield_Fr rfl rfl) rfl ?_
             refine s_skip (yield_Fr rfl rfl) rfl ?_
             refine s_skip (yield_Fr rfl rfl) rfl ?_
             refine s_skip (yield_Fr rfl rfl) rfl ?_
             refine s_skip (yield_Fr rfl rfl) rfl ?_
             refine s_skip (yield_Fr rfl rfl) rfl ?_
             refine s_skip (yield_Fr rfl rfl) rfl ?_
             refine s_skip (yield_Fr rfl rfl) rfl ?_
             refine s_skip (yield_Fr rfl rfl) rfl ?_
             refine s_unguard (yield_Fr rfl rfl) rfl ?_
             refine s_val (r_pick (v := .bool _) rfl rfl) ?_
             refine s_unguard (yield_Fr rfl rfl) rfl ?_
             refine s_val (r_move (v := .bool _) rfl) ?_
             refine s_skip (yield_Fr rfl rfl) rfl ?_
             refine s_skip (yield_Fr rfl rfl) rfl ?_
             refine s_skip (yield_Fr rfl rfl) rfl ?_
             refine s_unguard (yield_Fr rfl rfl) rfl ?_
             refine s_val (r_pick (v := .bool _) rfl rfl) ?_
             refine s_unguard (yield_Fr rfl rfl) rfl ?_
             refine s_val (r_move (v := .bool _) rfl) ?_
             refine s_skip (yield_Fr rfl rfl) rfl ?_
             refine s_skip (yield_Fr rfl rfl) rfl ?_
             refine s_skip (yield_Fr rfl rfl) rfl ?_
             refine s_unguard (yield_Fr rfl rfl) rfl ?_
             refine s_val (r_pick (v := .bool _) rfl rfl) ?_
             refine s_val (r_pick (v := .bool _) rfl rfl) ?_
             refine s_val (r_assign (v := .bool _) rfl) ?_
             refine s_nil (e_then ?_)
             refine c_yes rfl (by decide) ?_
             refine c_seq (c_region ?_)
             have hr : 12 = insCheck p i x d := by
               unfold insCheck
               rw [if_neg hc1, if_neg hc2, if_pos ⟨g69, by first | exact .inl g71 | (right; omega)⟩]
             refine s_val (r_assign (v := .int _ _) rfl) ?_
             refine s_nil (e_then (c_ret (e_blk_ret (e_then_ret ?_))))
             refine ret_run (res_1 (v := .int _ _) rfl rfl) ?_
             exact ⟨congrArg (fun n => Ending.returned (i64 n)) hr, M.keep⟩
            ·
             refine s_unguard (yield_Fr rfl rfl) rfl ?_
             refine s_val (r_fieldAddr (o' := 3) fb44_3 (by decide) rfl rfl) ?_
             refine s_unguard (yield_Fr rfl rfl) rfl ?_
             refine a_load1 (v := .int _ _) Try.underlying5 rfl M rfl (k := 0) (j := 0) rfl rfl rfl ?_
             refine s_unguard (yield_Fr rfl rfl) rfl ?_
             first | (refine s_val (r_conv Try.underlying5 Try.underlying3 rfl (w64 (by omega) (by omega))) ?_) | (refine s_val (r_conv Try.underlying5 Try.underlying3 rfl rfl) ?_)
             refine s_unguard (yield_Fr rfl rfl) rfl ?_
             refine s_val (r_move (v := .slice _ _ _) rfl) ?_
             refine s_unguard (yield_Fr rfl rfl) rfl ?_
             refine s_val (r_len Try.underlying46 rfl) ?_
             refine s_unguard (yield_Fr rfl rfl) rfl ?_
             refine s_val (r_move (v := .int _ _) rfl) ?_
             refine s_unguard (yield_Fr rfl rfl) rfl ?_
             first | (refine s_val (r_sub rfl rfl (w64 (by omega) (by omega))) ?_) | (refine s_val (r_sub rfl rfl rfl) ?_)
             refine s_unguard (yield_Fr rfl rfl) rfl ?_
             first | (refine s_val (r_sub rfl rfl (w64 (by omega) (by omega))) ?_) | (refine s_val (r_sub rfl rfl rfl) ?_)
             refine s_unguard (yield_Fr rfl rfl) rfl ?_
             refine s_val (r_gtr rfl rfl) ?_
             refine s_unguard (yield_Fr rfl rfl) rfl ?_
             refine s_val (r_pick (v := .bool _) rfl rfl) ?_
             refine s_unguard (yield_Fr rfl rfl) rfl ?_
             refine s_val (r_move (v := .bool _) rfl) ?_
             refine s_splitD 87 rfl (fun g87 => ?_) (fun g87 => ?_)
             ·
              refine s_skip (yield_Fr rfl rfl) rfl ?_
              refine s_skip (yield_Fr rfl rfl) rfl ?_
              refine s_skip (yield_Fr rfl rfl) rfl ?_
              refine s_unguard (yield_Fr rfl rfl) rfl ?_
              refine s_val (r_pick (v := .bool _) rfl rfl) ?_
              refine s_unguard (yield_Fr rfl rfl) rfl ?_
              refine s_val (r_move (v := .bool _) rfl) ?_
              refine s_skip (yield_Fr rfl rfl) rfl ?_
              refine s_skip (yield_Fr rfl rfl) rfl ?_
              refine s_skip (yield_Fr rfl rfl) rfl ?_
              refine s_unguard (yield_Fr rfl rfl) rfl ?_
              refine s_val (r_pick (v := .bool _) rfl rfl) ?_
              refine s_val (r_pick (v := .bool _) rfl rfl) ?_
              refine s_val (r_assign (v := .bool _) rfl) ?_
              refine s_nil (e_then ?_)
              refine c_yes rfl (by decide) ?_
              refine c_seq (c_region ?_)
              have hr : 12 = insCheck p i x d := by
                unfold insCheck
                rw [if_neg hc1, if_neg hc2, if_pos ⟨g69, by first | exact .inl g71 | (right; omega)⟩]
              refine s_val (r_assign (v := .int _ _) rfl) ?_
              refine s_nil (e_then (c_ret (e_blk_ret (e_then_ret ?_))))
              refine ret_run (res_1 (v := .int _ _) rfl rfl) ?_
              exact ⟨congrArg (fun n => Ending.returned (i64 n)) hr, M.keep⟩
             ·
              refine s_unguard (yield_Fr rfl rfl) rfl ?_
              refine s_val (r_fieldAddr (o' := 4) fb44_4 (by decide) rfl rfl) ?_
              refine s_unguard (yield_Fr rfl rfl) rfl ?_
              refine a_load1 (v := .int _ _) Try.underlying22 rfl M rfl (k := 0) (j := 0) rfl rfl rfl ?_
              refine s_unguard (yield_Fr rfl rfl) rfl ?_
              refine s_val (r_lss rfl rfl) ?_
              refine s_unguard (yield_Fr rfl rfl) rfl ?_
              refine s_val (r_pick (v := .bool _) rfl rfl) ?_
              refine s_unguard (yield_Fr rfl rfl) rfl ?_
              refine s_val (r_move (v := .bool _) rfl) ?_
              refine s_splitD 92 rfl (fun g92 => ?_) (fun g92 => ?_)
              ·
               refine s_skip (yield_Fr rfl rfl) rfl ?_
               refine s_skip (yield_Fr rfl rfl) rfl ?_
               refine s_skip (yield_Fr rfl rfl) rfl ?_
               refine s_unguard (yield_Fr rfl rfl) rfl ?_
               refine s_val (r_pick (v := .bool _) rfl rfl) ?_
               refine s_val (r_pick (v := .bool _) rfl rfl) ?_
               refine s_val (r_assign (v := .bool _) rfl) ?_
               refine s_nil (e_then ?_)
               refine c_yes rfl (by decide) ?_
               refine c_seq (c_region ?_)
               have hr : 12 = insCheck p i x d := by
                 unfold insCheck
                 rw [if_neg hc1, if_neg hc2, if_pos ⟨g69, by first | exact .inl g71 | (right; omega)⟩]
               refine s_val (r_assign (v := .int _ _) rfl) ?_
               refine s_nil (e_then (c_ret (e_blk_ret (e_then_ret ?_))))
               refine ret_run (res_1 (v := .int _ _) rfl rfl) ?_
               exact ⟨congrArg (fun n => Ending.returned (i64 n)) hr, M.keep⟩
              ·
               refine s_unguard (yield_Fr rfl rfl) rfl ?_
               refine s_val (r_fieldAddr (o' := 4) fb44_4 (by decide) rfl rfl) ?_
               refine s_unguard (yield_Fr rfl rfl) rfl ?_
               refine a_load1 (v := .int _ _) Try.underlying22 rfl M rfl (k := 0) (j := 0) rfl rfl rfl ?_
               refine s_unguard (yield_Fr rfl rfl) rfl ?_
               refine s_val (r_gtr rfl rfl) ?_
               refine s_unguard (yield_Fr rfl rfl) rfl ?_
               refine s_val (r_pick (v := .bool _) rfl rfl) ?_
               refine s_val (r_pick (v := .bool _) rfl rfl) ?_
               refine s_val (r_assign (v := .bool _) rfl) ?_
               refine s_nil (e_then ?_)
               refine c_if rfl (fun h65 => ?_) (fun h65 => ?_)
               ·
                refine c_seq (c_region ?_)
                have hr : 12 = insCheck p i x d := by
                  unfold insCheck
                  rw [if_neg hc1, if_neg hc2, if_pos ⟨g69, by first | exact .inl g71 | (right; omega)⟩]
                refine s_val (r_assign (v := .int _ _) rfl) ?_
                refine s_nil (e_then (c_ret (e_blk_ret (e_then_ret ?_))))
                refine ret_run (res_1 (v := .int _ _) rfl rfl) ?_
                exact ⟨congrArg (fun n => Ending.returned (i64 n)) hr, M.keep⟩
               ·
                refine c_skip (e_blk (e_then ?_))
                exact cut_end () (by repeat (first | exact ag_refl | exact ag_mask rfl ag_refl | refine ag_upd rfl ?_ | refine ag_mask rfl ?_)) trivial ⟨⟨hc1, hc2, by
                  rintro ⟨h, hl⟩
                  first
                    | exact g69 h
                    | (rcases hl with hl | hl
                       · rw [hl] at g71; cases g71
                       · omega)⟩, M⟩
          ·
           refine s_skip (yield_Fr rfl rfl) rfl ?_
           refine s_skip (yield_Fr rfl rfl) rfl ?_
           refine s_skipU (yield_U rfl rfl) ?_
           refine s_skipU (yield_U rfl rfl) ?_
           refine s_skipU (yield_U rfl rfl) ?_
           refine s_skip (yield_Fr rfl rfl) rfl ?_
           refine s_skip (yield_Fr rfl rfl) rfl ?_
           refine s_skipU (yield_U rfl rfl) ?_
           refine s_skipU (yield_U rfl rfl) ?_
           refine s_skipU (yield_U rfl rfl) ?_
           refine s_skipU (yield_U rfl rfl) ?_
           refine s_skipU (yield_U rfl rfl) ?_
           refine s_skipU (yield_U rfl rfl) ?_
           refine s_skipU (yield_U rfl rfl) ?_
           refine s_skipU (yield_U rfl rfl) ?_
           refine s_skipU (yield_U rfl rfl) ?_
           refine s_skip (yield_Fr rfl rfl) rfl ?_
           refine s_skip (yield_Fr rfl rfl) rfl ?_
           refine s_skipU (yield_U rfl rfl) ?_
           refine s_skipU (yield_U rfl rfl) ?_
           refine s_skipU (yield_U rfl rfl) ?_
           refine s_skip (yield_Fr rfl rfl) rfl ?_
           refine s_skip (yield_Fr rfl rfl) rfl ?_
           refine s_skipU (yield_U rfl rfl) ?_
           refine s_skipU (yield_U rfl rfl) ?_
           refine s_skipU (yield_U rfl rfl) ?_
           refine s_skip (yield_Fr rfl rfl) rfl ?_
           refine s_val (r_pick (v := .bool _) rfl rfl) ?_
           refine s_val (r_assign (v := .bool _) rfl) ?_
           refine s_nil (e_then ?_)
           refine c_no rfl (by decide) ?_
           refine c_skip (e_blk (e_then ?_))
           exact cut_end () (by repeat (first | exact ag_refl | exact ag_mask rfl ag_refl | refine ag_upd rfl ?_ | refine ag_mask rfl ?_)) trivial ⟨⟨hc1, hc2, by
             rintro ⟨h, hl⟩
             first
               | exact g69 h
               | (rcases hl with hl | hl
                  · rw [hl] at g71; cases g71
                  · omega)⟩, M⟩
       ·
        refine s_skip (yield_Fr rfl rfl) rfl ?_
        refine s_skip (yield_Fr rfl rfl) rfl ?_
        refine s_skip (yield_Fr rfl rfl) rfl ?_
        refine s_unguard (yield_Fr rfl rfl) rfl ?_
        refine s_val (r_pick (v := .bool _) rfl rfl) ?_
        refine s_val (r_pick (v := .bool _) rfl rfl) ?_
        refine s_val (r_move (v := .bool _) rfl) ?_
        refine s_unguard (yield_Fr rfl rfl) rfl ?_
        refine s_val (r_fieldAddr (o' := 0) fb44_0 (by decide) rfl rfl) ?_
        refine s_unguard (yield_Fr rfl rfl) rfl ?_
        refine a_load1 (v := .int _ _) Try.underlying42 rfl M rfl (k := 0) (j := 0) rfl rfl rfl ?_
        refine s_unguard (yield_Fr rfl rfl) rfl ?_
        refine s_val (r_eql rfl rfl) ?_
        refine s_unguard (yield_Fr rfl rfl) rfl ?_
        refine s_val (r_move (v := .bool _) rfl) ?_
        refine s_splitD 59 rfl (fun g59 => ?_) (fun g59 => ?_)
        ·
         refine s_unguard (yield_Fr rfl rfl) rfl ?_
         refine s_val (r_fieldAddr (o' := 2) fb44_2 (by decide) rfl rfl) ?_
         refine s_unguard (yield_Fr rfl rfl) rfl ?_
         refine a_load1 (v := .int _ _) Try.underlying5 rfl M rfl (k := 0) (j := 0) rfl rfl rfl ?_
         refine s_unguard (yield_Fr rfl rfl) rfl ?_
         refine s_val (r_gtr rfl rfl) ?_
         refine s_unguard (yield_Fr rfl rfl) rfl ?_
         refine s_val (r_pick (v := .bool _) rfl rfl) ?_
         refine s_val (r_pick (v := .bool _) rfl rfl) ?_
         refine s_val (r_assign (v := .bool _) rfl) ?_
         refine s_nil (e_then ?_)
         refine c_if rfl (fun h36 => ?_) (fun h36 => ?_)
         ·
          refine c_seq (c_region ?_)
          have hr : 2 = insCheck p i x d := by unfold insCheck; rw [if_neg hc1, if_pos (by omega)]
          refine s_val (r_assign (v := .int _ _) rfl) ?_
          refine s_nil (e_then (c_ret (e_blk_ret (e_then_ret ?_))))
          refine ret_run (res_1 (v := .int _ _) rfl rfl) ?_
          exact ⟨congrArg (fun n => Ending.returned (i64 n)) hr, M.keep⟩
         ·
          refine c_seq (c_region ?_)
          have hc2 : ¬ (x.dst ≥ 12 ∨ x.a ≥ 12 ∨ (x.op ≠ 12 ∧ x.b ≥ 12) ∨ (x.op = 14 ∧ x.a > 8)) := by omega
          refine s_val (r_fieldAddr (o' := 0) fb44_0 (by decide) rfl rfl) ?_
          refine a_load1 (v := .int _ _) Try.underlying42 rfl M rfl (k := 0) (j := 0) rfl rfl rfl ?_
          refine s_val (r_eql rfl rfl) ?_
          refine s_val (r_move (v := .bool _) rfl) ?_
          refine s_splitD 69 rfl (fun g69 => ?_) (fun g69 => ?_)
          ·
           refine s_unguard (yield_Fr rfl rfl) rfl ?_
           refine s_val (r_move (v := .bool _) rfl) ?_
           refine s_unguard (yield_Fr rfl rfl) rfl ?_
           refine s_val (r_move (v := .bool _) rfl) ?_
           refine s_split 71 rfl (fun g71 => ?_) (fun g71 => ?_)
           ·
            refine s_skip (yield_Fr rfl rfl) rfl ?_
            refine s_skip (yield_Fr rfl rfl) rfl ?_
            refine s_skip (yield_Fr rfl rfl) rfl ?_
            refine s_unguard (yield_Fr rfl rfl) rfl ?_
            refine s_val (r_pick (v := .bool _) rfl rfl) ?_
            refine s_unguard (yield_Fr rfl rfl) rfl ?_
            refine s_val (r_move (v := .bool _) rfl) ?_
            refine s_skip (yield_Fr rfl rfl) rfl ?_
            refine s_skip (yield_Fr rfl rfl) rfl ?_
            refine s_skip (yield_Fr rfl rfl) rfl ?_
            refine s_skip (yield_Fr rfl rfl) rfl ?_
            refine s_skip (yield_Fr rfl rfl) rfl ?_
            refine s_skip (yield_Fr rfl rfl) rfl ?_
            refine s_skip (yield_Fr rfl rfl) rfl ?_
            refine s_skip (yield_Fr rfl rfl) rfl ?_
            refine s_skip (yield_Fr rfl rfl) rfl ?_
            refine s_unguard (yield_Fr rfl rfl) rfl ?_
            refine s_val (r_pick (v := .bool _) rfl rfl) ?_
            refine s_unguard (yield_Fr rfl rfl) rfl ?_
            refine s_val (r_move (v := .bool _) rfl) ?_
            refine s_skip (yield_Fr rfl rfl) rfl ?_
            refine s_skip (yield_Fr rfl rfl) rfl ?_
            refine s_skip (yield_Fr rfl rfl) rfl ?_
            refine s_unguard (yield_Fr rfl rfl) rfl ?_
            refine s_val (r_pick (v := .bool _) rfl rfl) ?_
            refine s_unguard (yield_Fr rfl rfl) rfl ?_
            refine s_val (r_move (v := .bool _) rfl) ?_
            refine s_skip (yield_Fr rfl rfl) rfl ?_
            refine s_skip (yield_Fr rfl rfl) rfl ?_
            refine s_skip (yield_Fr rfl rfl) rfl ?_
            refine s_unguard (yield_Fr rfl rfl) rfl ?_
            refine s_val (r_pick (v := .bool _) rfl rfl) ?_
            refine s_val (r_pick (v := .bool _) rfl rfl) ?_
            refine s_val (r_assign (v := .bool _) rfl) ?_
            refine s_nil (e_then ?_)
            refine c_yes rfl (by decide) ?_
            refine c_seq (c_region ?_)
            have hr : 12 = insCheck p i x d := by
              unfold insCheck
              rw [if_neg hc1, if_neg hc2, if_pos ⟨g69, by first | exact .inl g71 | (right; omega)⟩]
            refine s_val (r_assign (v := .int _ _) rfl) ?_
            refine s_nil (e_then (c_ret (e_blk_ret (e_then_ret ?_))))
            refine ret_run (res_1 (v := .int _ _) rfl rfl) ?_
            exact ⟨congrArg (fun n => Ending.returned (i64 n)) hr, M.keep⟩
           ·
            refine s_unguard (yield_Fr rfl rfl) rfl ?_
            refine s_val (r_fieldAddr (o' := 3) fb44_3 (by decide) rfl rfl) ?_
            refine s_unguard (yield_Fr rfl rfl) rfl ?_
            refine a_load1 (v := .int _ _) Try.underlying5 rfl M rfl (k := 0) (j := 0) rfl rfl rfl ?_
            refine s_unguard (yield_Fr rfl rfl) rfl ?_
            refine s_val (r_lss rfl rfl) ?_
            refine s_unguard (yield_Fr rfl rfl) rfl ?_
            refine s_val (r_pick (v := .bool _) rfl rfl) ?_
            refine s_unguard (yield_Fr rfl rfl) rfl ?_
            refine s_val (r_move (v := .bool _) rfl) ?_
            refine s_splitD 76 rfl (fun g76 => ?_) (fun g76 => ?_)
            ·
             refine s_skip (yield_Fr rfl rfl) rfl ?_
             refine s_skip (yield_Fr rfl rfl) rfl ?_
             refine s_skip (yield_Fr rfl rfl) rfl ?_
             refine s_skip (yield_Fr rfl rfl) rfl ?_
             refine s_skip (yield_Fr rfl rfl) rfl ?_
             refine s_skip (yield_Fr rfl rfl) rfl ?_
             refine s_skip (yield_Fr rfl rfl) rfl ?_
             refine s_skip (yield_Fr rfl rfl) rfl ?_
             refine s_skip (yield_Fr rfl rfl) rfl ?_
             refine s_unguard (yield_Fr rfl rfl) rfl ?_
             refine s_val (r_pick (v := .bool _) rfl rfl) ?_
             refine s_unguard (yield_Fr rfl rfl) rfl ?_
             refine s_val (r_move (v := .bool _) rfl) ?_
             refine s_skip (yield_Fr rfl rfl) rfl ?_
             refine s_skip (yield_Fr rfl rfl) rfl ?_
             refine s_skip (yield_Fr rfl rfl) rfl ?_
             refine s_unguard (yield_Fr rfl rfl) rfl ?_
             refine s_val (r_pick (v := .bool _) rfl rfl) ?_
             refine s_unguard (yield_Fr rfl rfl) rfl ?_
             refine s_val (r_move (v := .bool _) rfl) ?_
             refine s_skip (yield_Fr rfl rfl) rfl ?_
             refine s_skip (yield_Fr rfl rfl) rfl ?_
             refine s_skip (yield_Fr rfl rfl) rfl ?_
             refine s_unguard (yield_Fr rfl rfl) rfl ?_
             refine s_val (r_pick (v := .bool _) rfl rfl) ?_
             refine s_val (r_pick (v := .bool _) rfl rfl) ?_
             refine s_val (r_assign (v := .bool _) rfl) ?_
             refine s_nil (e_then ?_)
             refine c_yes rfl (by decide) ?_
             refine c_seq (c_region ?_)
             have hr : 12 = insCheck p i x d := by
               unfold insCheck
               rw [if_neg hc1, if_neg hc2, if_pos ⟨g69, by first | exact .inl g71 | (right; omega)⟩]
             refine s_val (r_assign (v := .int _ _) rfl) ?_
             refine s_nil (e_then (c_ret (e_blk_ret (e_then_ret ?_))))
             refine ret_run (res_1 (v := .int _ _) rfl rfl) ?_
             exact ⟨congrArg (fun n => Ending.returned (i64 n)) hr, M.keep⟩
            ·
             refine s_unguard (yield_Fr rfl rfl) rfl ?_
             refine s_val (r_fieldAddr (o' := 3) fb44_3 (by decide) rfl rfl) ?_
             refine s_unguard (yield_Fr rfl rfl) rfl ?_
             refine a_load1 (v := .int _ _) Try.underlying5 rfl M rfl (k := 0) (j := 0) rfl rfl rfl ?_
             refine s_unguard (yield_Fr rfl rfl) rfl ?_
             first | (refine s_val (r_conv Try.underlying5 Try.underlying3 rfl (w64 (by omega) (by omega))) ?_) | (refine s_val (r_conv Try.underlying5 Try.underlying3 rfl rfl) ?_)
             refine s_unguard (yield_Fr rfl rfl) rfl ?_
             refine s_val (r_move (v := .slice _ _ _) rfl) ?_
             refine s_unguard (yield_Fr rfl rfl) rfl ?_
             refine s_val (r_len Try.underlying46 rfl) ?_
             refine s_unguard (yield_Fr rfl rfl) rfl ?_
             refine s_val (r_move (v := .int _ _) rfl) ?_
             refine s_unguard (yield_Fr rfl rfl) rfl ?_
             first | (refine s_val (r_sub rfl rfl (w64 (by omega) (by omega))) ?_) | (refine s_val (r_sub rfl rfl rfl) ?_)
             refine s_unguard (yield_Fr rfl rfl) rfl ?_
             first | (refine s_val (r_sub rfl rfl (w64 (by omega) (by omega))) ?_) | (refine s_val (r_sub rfl rfl rfl) ?_)
             refine s_unguard (yield_Fr rfl rfl) rfl ?_
             refine s_val (r_gtr rfl rfl) ?_
             refine s_unguard (yield_Fr rfl rfl) rfl ?_
             refine s_val (r_pick (v := .bool _) rfl rfl) ?_
             refine s_unguard (yield_Fr rfl rfl) rfl ?_
             refine s_val (r_move (v := .bool _) rfl) ?_
             refine s_splitD 87 rfl (fun g87 => ?_) (fun g87 => ?_)
             ·
              refine s_skip (yield_Fr rfl rfl) rfl ?_
              refine s_skip (yield_Fr rfl rfl) rfl ?_
              refine s_skip (yield_Fr rfl rfl) rfl ?_
              refine s_unguard (yield_Fr rfl rfl) rfl ?_
              refine s_val (r_pick (v := .bool _) rfl rfl) ?_
              refine s_unguard (yield_Fr rfl rfl) rfl ?_
              refine s_val (r_move (v := .bool _) rfl) ?_
              refine s_skip (yield_Fr rfl rfl) rfl ?_
              refine s_skip (yield_Fr rfl rfl) rfl ?_
              refine s_skip (yield_Fr rfl rfl) rfl ?_
              refine s_unguard (yield_Fr rfl rfl) rfl ?_
              refine s_val (r_pick (v := .bool _) rfl rfl) ?_
              refine s_val (r_pick (v := .bool _) rfl rfl) ?_
              refine s_val (r_assign (v := .bool _) rfl) ?_
              refine s_nil (e_then ?_)
              refine c_yes rfl (by decide) ?_
              refine c_seq (c_region ?_)
              have hr : 12 = insCheck p i x d := by
                unfold insCheck
                rw [if_neg hc1, if_neg hc2, if_pos ⟨g69, by first | exact .inl g71 | (right; omega)⟩]
              refine s_val (r_assign (v := .int _ _) rfl) ?_
              refine s_nil (e_then (c_ret (e_blk_ret (e_then_ret ?_))))
              refine ret_run (res_1 (v := .int _ _) rfl rfl) ?_
              exact ⟨congrArg (fun n => Ending.returned (i64 n)) hr, M.keep⟩
             ·
              refine s_unguard (yield_Fr rfl rfl) rfl ?_
              refine s_val (r_fieldAddr (o' := 4) fb44_4 (by decide) rfl rfl) ?_
              refine s_unguard (yield_Fr rfl rfl) rfl ?_
              refine a_load1 (v := .int _ _) Try.underlying22 rfl M rfl (k := 0) (j := 0) rfl rfl rfl ?_
              refine s_unguard (yield_Fr rfl rfl) rfl ?_
              refine s_val (r_lss rfl rfl) ?_
              refine s_unguard (yield_Fr rfl rfl) rfl ?_
              refine s_val (r_pick (v := .bool _) rfl rfl) ?_
              refine s_unguard (yield_Fr rfl rfl) rfl ?_
              refine s_val (r_move (v := .bool _) rfl) ?_
              refine s_splitD 92 rfl (fun g92 => ?_) (fun g92 => ?_)
              ·
               refine s_skip (yield_Fr rfl rfl) rfl ?_
               refine s_skip (yield_Fr rfl rfl) rfl ?_
               refine s_skip (yield_Fr rfl rfl) rfl ?_
               refine s_unguard (yield_Fr rfl rfl) rfl ?_
               refine s_val (r_pick (v := .bool _) rfl rfl) ?_
               refine s_val (r_pick (v := .bool _) rfl rfl) ?_
               refine s_val (r_assign (v := .bool _) rfl) ?_
               refine s_nil (e_then ?_)
               refine c_yes rfl (by decide) ?_
               refine c_seq (c_region ?_)
               have hr : 12 = insCheck p i x d := by
                 unfold insCheck
                 rw [if_neg hc1, if_neg hc2, if_pos ⟨g69, by first | exact .inl g71 | (right; omega)⟩]
               refine s_val (r_assign (v := .int _ _) rfl) ?_
               refine s_nil (e_then (c_ret (e_blk_ret (e_then_ret ?_))))
               refine ret_run (res_1 (v := .int _ _) rfl rfl) ?_
               exact ⟨congrArg (fun n => Ending.returned (i64 n)) hr, M.keep⟩
              ·
               refine s_unguard (yield_Fr rfl rfl) rfl ?_
               refine s_val (r_fieldAddr (o' := 4) fb44_4 (by decide) rfl rfl) ?_
               refine s_unguard (yield_Fr rfl rfl) rfl ?_
               refine a_load1 (v := .int _ _) Try.underlying22 rfl M rfl (k := 0) (j := 0) rfl rfl rfl ?_
               refine s_unguard (yield_Fr rfl rfl) rfl ?_
               refine s_val (r_gtr rfl rfl) ?_
               refine s_unguard (yield_Fr rfl rfl) rfl ?_
               refine s_val (r_pick (v := .bool _) rfl rfl) ?_
               refine s_val (r_pick (v := .bool _) rfl rfl) ?_
               refine s_val (r_assign (v := .bool _) rfl) ?_
               refine s_nil (e_then ?_)
               refine c_if rfl (fun h65 => ?_) (fun h65 => ?_)
               ·
                refine c_seq (c_region ?_)
                have hr : 12 = insCheck p i x d := by
                  unfold insCheck
                  rw [if_neg hc1, if_neg hc2, if_pos ⟨g69, by first | exact .inl g71 | (right; omega)⟩]
                refine s_val (r_assign (v := .int _ _) rfl) ?_
                refine s_nil (e_then (c_ret (e_blk_ret (e_then_ret ?_))))
                refine ret_run (res_1 (v := .int _ _) rfl rfl) ?_
                exact ⟨congrArg (fun n => Ending.returned (i64 n)) hr, M.keep⟩
               ·
                refine c_skip (e_blk (e_then ?_))
                exact cut_end () (by repeat (first | exact ag_refl | exact ag_mask rfl ag_refl | refine ag_upd rfl ?_ | refine ag_mask rfl ?_)) trivial ⟨⟨hc1, hc2, by
                  rintro ⟨h, hl⟩
                  first
                    | exact g69 h
                    | (rcases hl with hl | hl
                       · rw [hl] at g71; cases g71
                       · omega)⟩, M⟩
          ·
           refine s_skip (yield_Fr rfl rfl) rfl ?_
           refine s_skip (yield_Fr rfl rfl) rfl ?_
           refine s_skipU (yield_U rfl rfl) ?_
           refine s_skipU (yield_U rfl rfl) ?_
           refine s_skipU (yield_U rfl rfl) ?_
           refine s_skip (yield_Fr rfl rfl) rfl ?_
           refine s_skip (yield_Fr rfl rfl) rfl ?_
           refine s_skipU (yield_U rfl rfl) ?_
           refine s_skipU (yield_U rfl rfl) ?_
           refine s_skipU (yield_U rfl rfl) ?_
           refine s_skipU (yield_U rfl rfl) ?_
           refine s_skipU (yield_U rfl rfl) ?_
           refine s_skipU (yield_U rfl rfl) ?_
           refine s_skipU (yield_U rfl rfl) ?_
           refine s_skipU (yield_U rfl rfl) ?_
           refine s_skipU (yield_U rfl rfl) ?_
           refine s_skip (yield_Fr rfl rfl) rfl ?_
           refine s_skip (yield_Fr rfl rfl) rfl ?_
           refine s_skipU (yield_U rfl rfl) ?_
           refine s_skipU (yield_U rfl rfl) ?_
           refine s_skipU (yield_U rfl rfl) ?_
           refine s_skip (yield_Fr rfl rfl) rfl ?_
           refine s_skip (yield_Fr rfl rfl) rfl ?_
           refine s_skipU (yield_U rfl rfl) ?_
           refine s_skipU (yield_U rfl rfl) ?_
           refine s_skipU (yield_U rfl rfl) ?_
           refine s_skip (yield_Fr rfl rfl) rfl ?_
           refine s_val (r_pick (v := .bool _) rfl rfl) ?_
           refine s_val (r_assign (v := .bool _) rfl) ?_
           refine s_nil (e_then ?_)
           refine c_no rfl (by decide) ?_
           refine c_skip (e_blk (e_then ?_))
           exact cut_end () (by repeat (first | exact ag_refl | exact ag_mask rfl ag_refl | refine ag_upd rfl ?_ | refine ag_mask rfl ?_)) trivial ⟨⟨hc1, hc2, by
             rintro ⟨h, hl⟩
             first
               | exact g69 h
               | (rcases hl with hl | hl
                  · rw [hl] at g71; cases g71
                  · omega)⟩, M⟩
        ·
         refine s_skip (yield_Fr rfl rfl) rfl ?_
         refine s_skip (yield_Fr rfl rfl) rfl ?_
         refine s_skip (yield_Fr rfl rfl) rfl ?_
         refine s_unguard (yield_Fr rfl rfl) rfl ?_
         refine s_val (r_pick (v := .bool _) rfl rfl) ?_
         refine s_val (r_pick (v := .bool _) rfl rfl) ?_
         refine s_val (r_assign (v := .bool _) rfl) ?_
         refine s_nil (e_then ?_)
         refine c_no rfl (by decide) ?_
         refine c_seq (c_region ?_)
         have hc2 : ¬ (x.dst ≥ 12 ∨ x.a ≥ 12 ∨ (x.op ≠ 12 ∧ x.b ≥ 12) ∨ (x.op = 14 ∧ x.a > 8)) := by omega
         refine s_val (r_fieldAddr (o' := 0) fb44_0 (by decide) rfl rfl) ?_
         refine a_load1 (v := .int _ _) Try.underlying42 rfl M rfl (k := 0) (j := 0) rfl rfl rfl ?_
         refine s_val (r_eql rfl rfl) ?_
         refine s_val (r_move (v := .bool _) rfl) ?_
         refine s_splitD 69 rfl (fun g69 => ?_) (fun g69 => ?_)
         ·
          refine s_unguard (yield_Fr rfl rfl) rfl ?_
          refine s_val (r_move (v := .bool _) rfl) ?_
          refine s_unguard (yield_Fr rfl rfl) rfl ?_
          refine s_val (r_move (v := .bool _) rfl) ?_
          refine s_split 71 rfl (fun g71 => ?_) (fun g71 => ?_)
          ·
           refine s_skip (yield_Fr rfl rfl) rfl ?_
           refine s_skip (yield_Fr rfl rfl) rfl ?_
           refine s_skip (yield_Fr rfl rfl) rfl ?_
           refine s_unguard (yield_Fr rfl rfl) rfl ?_
           refine s_val (r_pick (v := .bool _) rfl rfl) ?_
           refine s_unguard (yield_Fr rfl rfl) rfl ?_
           refine s_val (r_move (v := .bool _) rfl) ?_
           refine s_skip (yield_Fr rfl rfl) rfl ?_
           refine s_skip (yield_Fr rfl rfl) rfl ?_
           refine s_skip (yield_Fr rfl rfl) rfl ?_
           refine s_skip (yield_Fr rfl rfl) rfl ?_
           refine s_skip (yield_Fr rfl rfl) rfl ?_
           refine s_skip (yield_Fr rfl rfl) rfl ?_
           refine s_skip (yield_Fr rfl rfl) rfl ?_
           refine s_skip (yield_Fr rfl rfl) rfl ?_
           refine s_skip (yield_Fr rfl rfl) rfl ?_
           refine s_unguard (yield_Fr rfl rfl) rfl ?_
           refine s_val (r_pick (v := .bool _) rfl rfl) ?_
           refine s_unguard (yield_Fr rfl rfl) rfl ?_
           refine s_val (r_move (v := .bool _) rfl) ?_
           refine s_skip (yield_Fr rfl rfl) rfl ?_
           refine s_skip (yield_Fr rfl rfl) rfl ?_
           refine s_skip (yield_Fr rfl rfl) rfl ?_
           refine s_unguard (yield_Fr rfl rfl) rfl ?_
           refine s_val (r_pick (v := .bool _) rfl rfl) ?_
           refine s_unguard (yield_Fr rfl rfl) rfl ?_
           refine s_val (r_move (v := .bool _) rfl) ?_
           refine s_skip (yield_Fr rfl rfl) rfl ?_
           refine s_skip (yield_Fr rfl rfl) rfl ?_
           refine s_skip (yield_Fr rfl rfl) rfl ?_
           refine s_unguard (yield_Fr rfl rfl) rfl ?_
           refine s_val (r_pick (v := .bool _) rfl rfl) ?_
           refine s_val (r_pick (v := .bool _) rfl rfl) ?_
           refine s_val (r_assign (v := .bool _) rfl) ?_
           refine s_nil (e_then ?_)
           refine c_yes rfl (by decide) ?_
           refine c_seq (c_region ?_)
           have hr : 12 = insCheck p i x d := by
             unfold insCheck
             rw [if_neg hc1, if_neg hc2, if_pos ⟨g69, by first | exact .inl g71 | (right; omega)⟩]
           refine s_val (r_assign (v := .int _ _) rfl) ?_
           refine s_nil (e_then (c_ret (e_blk_ret (e_then_ret ?_))))
           refine ret_run (res_1 (v := .int _ _) rfl rfl) ?_
           exact ⟨congrArg (fun n => Ending.returned (i64 n)) hr, M.keep⟩
          ·
           refine s_unguard (yield_Fr rfl rfl) rfl ?_
           refine s_val (r_fieldAddr (o' := 3) fb44_3 (by decide) rfl rfl) ?_
           refine s_unguard (yield_Fr rfl rfl) rfl ?_
           refine a_load1 (v := .int _ _) Try.underlying5 rfl M rfl (k := 0) (j := 0) rfl rfl rfl ?_
           refine s_unguard (yield_Fr rfl rfl) rfl ?_
           refine s_val (r_lss rfl rfl) ?_
           refine s_unguard (yield_Fr rfl rfl) rfl ?_
           refine s_val (r_pick (v := .bool _) rfl rfl) ?_
           refine s_unguard (yield_Fr rfl rfl) rfl ?_
           refine s_val (r_move (v := .bool _) rfl) ?_
           refine s_splitD 76 rfl (fun g76 => ?_) (fun g76 => ?_)
           ·
            refine s_skip (yield_Fr rfl rfl) rfl ?_
            refine s_skip (yield_Fr rfl rfl) rfl ?_
            refine s_skip (yield_Fr rfl rfl) rfl ?_
            refine s_skip (yield_Fr rfl rfl) rfl ?_
            refine s_skip (yield_Fr rfl rfl) rfl ?_
            refine s_skip (yield_Fr rfl rfl) rfl ?_
            refine s_skip (yield_Fr rfl rfl) rfl ?_
            refine s_skip (yield_Fr rfl rfl) rfl ?_
            refine s_skip (yield_Fr rfl rfl) rfl ?_
            refine s_unguard (yield_Fr rfl rfl) rfl ?_
            refine s_val (r_pick (v := .bool _) rfl rfl) ?_
            refine s_unguard (yield_Fr rfl rfl) rfl ?_
            refine s_val (r_move (v := .bool _) rfl) ?_
            refine s_skip (yield_Fr rfl rfl) rfl ?_
            refine s_skip (yield_Fr rfl rfl) rfl ?_
            refine s_skip (yield_Fr rfl rfl) rfl ?_
            refine s_unguard (yield_Fr rfl rfl) rfl ?_
            refine s_val (r_pick (v := .bool _) rfl rfl) ?_
            refine s_unguard (yield_Fr rfl rfl) rfl ?_
            refine s_val (r_move (v := .bool _) rfl) ?_
            refine s_skip (yield_Fr rfl rfl) rfl ?_
            refine s_skip (yield_Fr rfl rfl) rfl ?_
            refine s_skip (yield_Fr rfl rfl) rfl ?_
            refine s_unguard (yield_Fr rfl rfl) rfl ?_
            refine s_val (r_pick (v := .bool _) rfl rfl) ?_
            refine s_val (r_pick (v := .bool _) rfl rfl) ?_
            refine s_val (r_assign (v := .bool _) rfl) ?_
            refine s_nil (e_then ?_)
            refine c_yes rfl (by decide) ?_
            refine c_seq (c_region ?_)
            have hr : 12 = insCheck p i x d := by
              unfold insCheck
              rw [if_neg hc1, if_neg hc2, if_pos ⟨g69, by first | exact .inl g71 | (right; omega)⟩]
            refine s_val (r_assign (v := .int _ _) rfl) ?_
            refine s_nil (e_then (c_ret (e_blk_ret (e_then_ret ?_))))
            refine ret_run (res_1 (v := .int _ _) rfl rfl) ?_
            exact ⟨congrArg (fun n => Ending.returned (i64 n)) hr, M.keep⟩
           ·
            refine s_unguard (yield_Fr rfl rfl) rfl ?_
            refine s_val (r_fieldAddr (o' := 3) fb44_3 (by decide) rfl rfl) ?_
            refine s_unguard (yield_Fr rfl rfl) rfl ?_
            refine a_load1 (v := .int _ _) Try.underlying5 rfl M rfl (k := 0) (j := 0) rfl rfl rfl ?_
            refine s_unguard (yield_Fr rfl rfl) rfl ?_
            first | (refine s_val (r_conv Try.underlying5 Try.underlying3 rfl (w64 (by omega) (by omega))) ?_) | (refine s_val (r_conv Try.underlying5 Try.underlying3 rfl rfl) ?_)
            refine s_unguard (yield_Fr rfl rfl) rfl ?_
            refine s_val (r_move (v := .slice _ _ _) rfl) ?_
            refine s_unguard (yield_Fr rfl rfl) rfl ?_
            refine s_val (r_len Try.underlying46 rfl) ?_
            refine s_unguard (yield_Fr rfl rfl) rfl ?_
            refine s_val (r_move (v := .int _ _) rfl) ?_
            refine s_unguard (yield_Fr rfl rfl) rfl ?_
            first | (refine s_val (r_sub rfl rfl (w64 (by omega) (by omega))) ?_) | (refine s_val (r_sub rfl rfl rfl) ?_)
            refine s_unguard (yield_Fr rfl rfl) rfl ?_
            first | (refine s_val (r_sub rfl rfl (w64 (by omega) (by omega))) ?_) | (refine s_val (r_sub rfl rfl rfl) ?_)
            refine s_unguard (yield_Fr rfl rfl) rfl ?_
            refine s_val (r_gtr rfl rfl) ?_
            refine s_unguard (yield_Fr rfl rfl) rfl ?_
            refine s_val (r_pick (v := .bool _) rfl rfl) ?_
            refine s_unguard (yield_Fr rfl rfl) rfl ?_
            refine s_val (r_move (v := .bool _) rfl) ?_
            refine s_splitD 87 rfl (fun g87 => ?_) (fun g87 => ?_)
            ·
             refine s_skip (yield_Fr rfl rfl) rfl ?_
             refine s_skip (yield_Fr rfl rfl) rfl ?_
             refine s_skip (yield_Fr rfl rfl) rfl ?_
             refine s_unguard (yield_Fr rfl rfl) rfl ?_
             refine s_val (r_pick (v := .bool _) rfl rfl) ?_
             refine s_unguard (yield_Fr rfl rfl) rfl ?_
             refine s_val (r_move (v := .bool _) rfl) ?_
             refine s_skip (yield_Fr rfl rfl) rfl ?_
             refine s_skip (yield_Fr rfl rfl) rfl ?_
             refine s_skip (yield_Fr rfl rfl) rfl ?_
             refine s_unguard (yield_Fr rfl rfl) rfl ?_
             refine s_val (r_pick (v := .bool _) rfl rfl) ?_
             refine s_val (r_pick (v := .bool _) rfl rfl) ?_
             refine s_val (r_assign (v := .bool _) rfl) ?_
             refine s_nil (e_then ?_)
             refine c_yes rfl (by decide) ?_
             refine c_seq (c_region ?_)
             have hr : 12 = insCheck p i x d := by
               unfold insCheck
               rw [if_neg hc1, if_neg hc2, if_pos ⟨g69, by first | exact .inl g71 | (right; omega)⟩]
             refine s_val (r_assign (v := .int _ _) rfl) ?_
             refine s_nil (e_then (c_ret (e_blk_ret (e_then_ret ?_))))
             refine ret_run (res_1 (v := .int _ _) rfl rfl) ?_
             exact ⟨congrArg (fun n => Ending.returned (i64 n)) hr, M.keep⟩
            ·
             refine s_unguard (yield_Fr rfl rfl) rfl ?_
             refine s_val (r_fieldAddr (o' := 4) fb44_4 (by decide) rfl rfl) ?_
             refine s_unguard (yield_Fr rfl rfl) rfl ?_
             refine a_load1 (v := .int _ _) Try.underlying22 rfl M rfl (k := 0) (j := 0) rfl rfl rfl ?_
             refine s_unguard (yield_Fr rfl rfl) rfl ?_
             refine s_val (r_lss rfl rfl) ?_
             refine s_unguard (yield_Fr rfl rfl) rfl ?_
             refine s_val (r_pick (v := .bool _) rfl rfl) ?_
             refine s_unguard (yield_Fr rfl rfl) rfl ?_
             refine s_val (r_move (v := .bool _) rfl) ?_
             refine s_splitD 92 rfl (fun g92 => ?_) (fun g92 => ?_)
             ·
              refine s_skip (yield_Fr rfl rfl) rfl ?_
              refine s_skip (yield_Fr rfl rfl) rfl ?_
              refine s_skip (yield_Fr rfl rfl) rfl ?_
              refine s_unguard (yield_Fr rfl rfl) rfl ?_
              refine s_val (r_pick (v := .bool _) rfl rfl) ?_
              refine s_val (r_pick (v := .bool _) rfl rfl) ?_
              refine s_val (r_assign (v := .bool _) rfl) ?_
              refine s_nil (e_then ?_)
              refine c_yes rfl (by decide) ?_
              refine c_seq (c_region ?_)
              have hr : 12 = insCheck p i x d := by
                unfold insCheck
                rw [if_neg hc1, if_neg hc2, if_pos ⟨g69, by first | exact .inl g71 | (right; omega)⟩]
              refine s_val (r_assign (v := .int _ _) rfl) ?_
              refine s_nil (e_then (c_ret (e_blk_ret (e_then_ret ?_))))
              refine ret_run (res_1 (v := .int _ _) rfl rfl) ?_
              exact ⟨congrArg (fun n => Ending.returned (i64 n)) hr, M.keep⟩
             ·
              refine s_unguard (yield_Fr rfl rfl) rfl ?_
              refine s_val (r_fieldAddr (o' := 4) fb44_4 (by decide) rfl rfl) ?_
              refine s_unguard (yield_Fr rfl rfl) rfl ?_
              refine a_load1 (v := .int _ _) Try.underlying22 rfl M rfl (k := 0) (j := 0) rfl rfl rfl ?_
              refine s_unguard (yield_Fr rfl rfl) rfl ?_
              refine s_val (r_gtr rfl rfl) ?_
              refine s_unguard (yield_Fr rfl rfl) rfl ?_
              refine s_val (r_pick (v := .bool _) rfl rfl) ?_
              refine s_val (r_pick (v := .bool _) rfl rfl) ?_
              refine s_val (r_assign (v := .bool _) rfl) ?_
              refine s_nil (e_then ?_)
              refine c_if rfl (fun h65 => ?_) (fun h65 => ?_)
              ·
               refine c_seq (c_region ?_)
               have hr : 12 = insCheck p i x d := by
                 unfold insCheck
                 rw [if_neg hc1, if_neg hc2, if_pos ⟨g69, by first | exact .inl g71 | (right; omega)⟩]
               refine s_val (r_assign (v := .int _ _) rfl) ?_
               refine s_nil (e_then (c_ret (e_blk_ret (e_then_ret ?_))))
               refine ret_run (res_1 (v := .int _ _) rfl rfl) ?_
               exact ⟨congrArg (fun n => Ending.returned (i64 n)) hr, M.keep⟩
              ·
               refine c_skip (e_blk (e_then ?_))
               exact cut_end () (by repeat (first | exact ag_refl | exact ag_mask rfl ag_refl | refine ag_upd rfl ?_ | refine ag_mask rfl ?_)) trivial ⟨⟨hc1, hc2, by
                 rintro ⟨h, hl⟩
                 first
                   | exact g69 h
                   | (rcases hl with hl | hl
                      · rw [hl] at g71; cases g71
                      · omega)⟩, M⟩
         ·
          refine s_skip (yield_Fr rfl rfl) rfl ?_
          refine s_skip (yield_Fr rfl rfl) rfl ?_
          refine s_skipU (yield_U rfl rfl) ?_
          refine s_skipU (yield_U rfl rfl) ?_
          refine s_skipU (yield_U rfl rfl) ?_
          refine s_skip (yield_Fr rfl rfl) rfl ?_
          refine s_skip (yield_Fr rfl rfl) rfl ?_
          refine s_skipU (yield_U rfl rfl) ?_
          refine s_skipU (yield_U rfl rfl) ?_
          refine s_skipU (yield_U rfl rfl) ?_
          refine s_skipU (yield_U rfl rfl) ?_
          refine s_skipU (yield_U rfl rfl) ?_
          refine s_skipU (yield_U rfl rfl) ?_
          refine s_skipU (yield_U rfl rfl) ?_
          refine s_skipU (yield_U rfl rfl) ?_
          refine s_skipU (yield_U rfl rfl) ?_
          refine s_skip (yield_Fr rfl rfl) rfl ?_
          refine s_skip (yield_Fr rfl rfl) rfl ?_
          refine s_skipU (yield_U rfl rfl) ?_
          refine s_skipU (yield_U rfl rfl) ?_
          refine s_skipU (yield_U rfl rfl) ?_
          refine s_skip (yield_Fr rfl rfl) rfl ?_
          refine s_skip (yield_Fr rfl rfl) rfl ?_
          refine s_skipU (yield_U rfl rfl) ?_
          refine s_skipU (yield_U rfl rfl) ?_
          refine s_skipU (yield_U rfl rfl) ?_
          refine s_skip (yield_Fr rfl rfl) rfl ?_
          refine s_val (r_pick (v := .bool _) rfl rfl) ?_
          refine s_val (r_assign (v := .bool _) rfl) ?_
          refine s_nil (e_then ?_)
          refine c_no rfl (by decide) ?_
          refine c_skip (e_blk (e_then ?_))
          exact cut_end () (by repeat (first | exact ag_refl | exact ag_mask rfl ag_refl | refine ag_upd rfl ?_ | refine ag_mask rfl ?_)) trivial ⟨⟨hc1, hc2, by
            rintro ⟨h, hl⟩
            first
              | exact g69 h
              | (rcases hl with hl | hl
                 · rw [hl] at g71; cases g71
                 · omega)⟩, M⟩
  rintro γ e w ⟨⟨hc1, hc2, hc3⟩, M⟩
  refine c_seq (c_seq (c_region ?_))
  refine s_val (r_fieldAddr (o' := 0) fb44_0 (by decide) rfl rfl) ?_
  refine a_load1 (v := .int _ _) Try.underlying42 rfl M rfl (k := 0) (j := 0) rfl rfl rfl ?_
  refine s_val (r_neq rfl rfl) ?_
  refine s_nil (e_then ?_)
  refine c_if rfl (fun h100 => ?_) (fun h100 => ?_)
  ·
   refine c_seq (c_region ?_)
   have hr : 0 = insCheck p i x d := by unfold insCheck; rw [if_neg hc1, if_neg hc2, if_neg hc3, if_pos h100]
   refine s_val (r_assign (v := .int _ _) rfl) ?_
   refine s_nil (e_then (c_ret (e_then_ret ?_)))
   refine ret_run (res_1 (v := .int _ _) rfl rfl) ?_
   exact ⟨congrArg (fun n => Ending.returned (i64 n)) hr, M.keep⟩
  ·
   refine c_skip (e_then (c_seq (c_region ?_)))
   refine s_val (r_move (v := .int _ _) rfl) ?_
   first | (refine s_val (r_add rfl rfl (w64 (by omega) (by omega))) ?_) | (refine s_val (r_add rfl rfl rfl) ?_)
   refine s_val (r_fieldAddr (o' := 4) fb44_4 (by decide) rfl rfl) ?_
   refine a_load1 (v := .int _ _) Try.underlying22 rfl M rfl (k := 0) (j := 0) rfl rfl rfl ?_
   first | (refine s_val (r_conv Try.underlying22 Try.underlying3 rfl (w64 (by omega) (by omega))) ?_) | (refine s_val (r_conv Try.underlying22 Try.underlying3 rfl rfl) ?_)
   first | (refine s_val (r_add rfl rfl (w64 (by omega) (by omega))) ?_) | (refine s_val (r_add rfl rfl rfl) ?_)
   refine s_val (r_assign (v := .int _ _) rfl) ?_
   refine s_nil (e_then (c_seq (c_seq (c_region ?_))))
   refine s_val (r_fieldAddr (o' := 4) fb44_4 (by decide) rfl rfl) ?_
   refine a_load1 (v := .int _ _) Try.underlying22 rfl M rfl (k := 0) (j := 0) rfl rfl rfl ?_
   refine s_val (r_lss rfl rfl) ?_
   refine s_val (r_move (v := .bool _) rfl) ?_
   refine s_splitD 110 rfl (fun g110 => ?_) (fun g110 => ?_)
   ·
    refine s_skip (yield_Fr rfl rfl) rfl ?_
    refine s_skip (yield_Fr rfl rfl) rfl ?_
    refine s_skip (yield_Fr rfl rfl) rfl ?_
    refine s_skip (yield_Fr rfl rfl) rfl ?_
    refine s_val (r_pick (v := .bool _) rfl rfl) ?_
    refine s_val (r_move (v := .bool _) rfl) ?_
    refine s_skip (yield_Fr rfl rfl) rfl ?_
    refine s_skip (yield_Fr rfl rfl) rfl ?_
    refine s_skipU (yield_U rfl rfl) ?_
    refine s_skipU (yield_U rfl rfl) ?_
    refine s_skipU (yield_U rfl rfl) ?_
    refine s_skip (yield_Fr rfl rfl) rfl ?_
    refine s_val (r_pick (v := .bool _) rfl rfl) ?_
    refine s_nil (e_then ?_)
    refine c_yes rfl (by decide) ?_
    refine c_seq (c_region ?_)
    have hr : 12 = insCheck p i x d := by
      unfold insCheck
      rw [if_neg hc1, if_neg hc2, if_neg hc3, if_neg h100, if_pos (by first | omega | exact .inr (.inr ⟨g118, h123⟩))]
    refine s_val (r_assign (v := .int _ _) rfl) ?_
    refine s_nil (e_then (c_ret (e_then_ret ?_)))
    refine ret_run (res_1 (v := .int _ _) rfl rfl) ?_
    exact ⟨congrArg (fun n => Ending.returned (i64 n)) hr, M.keep⟩
   ·
    refine s_unguard (yield_Fr rfl rfl) rfl ?_
    refine s_val (r_move (v := .int _ _) rfl) ?_
    refine s_unguard (yield_Fr rfl rfl) rfl ?_
    refine s_val (r_move (v := .slice _ _ _) rfl) ?_
    refine s_unguard (yield_Fr rfl rfl) rfl ?_
    refine s_val (r_len Try.underlying46 rfl) ?_
    refine s_unguard (yield_Fr rfl rfl) rfl ?_
    refine s_val (r_gtr rfl rfl) ?_
    refine s_val (r_pick (v := .bool _) rfl rfl) ?_
    refine s_val (r_move (v := .bool _) rfl) ?_
    refine s_splitD 116 rfl (fun g116 => ?_) (fun g116 => ?_)
    ·
     refine s_skip (yield_Fr rfl rfl) rfl ?_
     refine s_skip (yield_Fr rfl rfl) rfl ?_
     refine s_skipU (yield_U rfl rfl) ?_
     refine s_skipU (yield_U rfl rfl) ?_
     refine s_skipU (yield_U rfl rfl) ?_
     refine s_skip (yield_Fr rfl rfl) rfl ?_
     refine s_val (r_pick (v := .bool _) rfl rfl) ?_
     refine s_nil (e_then ?_)
     refine c_yes rfl (by decide) ?_
     refine c_seq (c_region ?_)
     have hr : 12 = insCheck p i x d := by
       unfold insCheck
       rw [if_neg hc1, if_neg hc2, if_neg hc3, if_neg h100, if_pos (by first | omega | exact .inr (.inr ⟨g118, h123⟩))]
     refine s_val (r_assign (v := .int _ _) rfl) ?_
     refine s_nil (e_then (c_ret (e_then_ret ?_)))
     refine ret_run (res_1 (v := .int _ _) rfl rfl) ?_
     exact ⟨congrArg (fun n => Ending.returned (i64 n)) hr, M.keep⟩
    ·
     refine s_unguard (yield_Fr rfl rfl) rfl ?_
     refine s_val (r_move (v := .bool _) rfl) ?_
     refine s_unguard (yield_Fr rfl rfl) rfl ?_
     refine s_val (r_move (v := .bool _) rfl) ?_
     refine s_split 118 rfl (fun g118 => ?_) (fun g118 => ?_)
     ·
      refine s_unguard (yield_Fr rfl rfl) rfl ?_
      refine s_val (r_move (v := .int _ _) rfl) ?_
      refine s_unguard (yield_Fr rfl rfl) rfl ?_
      refine s_val (r_move (v := .int _ _) rfl) ?_
      refine s_unguard (yield_Fr rfl rfl) rfl ?_
      refine s_val (r_gtr rfl rfl) ?_
      refine s_unguard (yield_Fr rfl rfl) rfl ?_
      refine s_val (r_pick (v := .bool _) rfl rfl) ?_
      refine s_val (r_pick (v := .bool _) rfl rfl) ?_
      refine s_nil (e_then ?_)
      refine c_if rfl (fun h123 => ?_) (fun h123 => ?_)
      ·
       refine c_seq (c_region ?_)
       have hr : 12 = insCheck p i x d := by
         unfold insCheck
         rw [if_neg hc1, if_neg hc2, if_neg hc3, if_neg h100, if_pos (by first | omega | exact .inr (.inr ⟨g118, h123⟩))]
       refine s_val (r_assign (v := .int _ _) rfl) ?_
       refine s_nil (e_then (c_ret (e_then_ret ?_)))
       refine ret_run (res_1 (v := .int _ _) rfl rfl) ?_
       exact ⟨congrArg (fun n => Ending.returned (i64 n)) hr, M.keep⟩
      ·
       refine c_skip (e_then (c_seq (c_seq (c_region ?_))))
       have hc5 : ¬ (x.imm < 1 ∨ i + 1 + x.imm > p.length ∨ ((loopOf p i).2.2 = true ∧ i + 1 + x.imm > (loopOf p i).2.1)) := by
         rintro (h | h | ⟨h1, h2⟩)
         · exact g110 h
         · exact g116 h
         · first | (rw [h1] at g118; cases g118; done) | exact h123 h2
       refine s_val (r_move (v := .slice _ _ _) rfl) ?_
       refine s_val (r_move (v := .int _ _) rfl) ?_
       refine s_callP (cl64 rfl) (withinOf _ _ hp hl _ _ (M.fact (j := 0) rfl)) M ?_
       intro w M
       refine s_val (r_move rfl) ?_
       refine s_val (r_extract rfl rfl) ?_
       refine s_val (r_extract rfl rfl) ?_
       refine s_val (r_extract rfl rfl) ?_
       refine s_val (r_assign (v := .int _ _) rfl) ?_
       refine s_val (r_assign (v := .int _ _) rfl) ?_
       refine s_val (r_assign (v := .bool _) rfl) ?_
       refine s_nil (e_then (c_seq (c_region ?_)))
       refine s_val (r_move (v := .bool _) rfl) ?_
       refine s_val (r_move (v := .bool _) rfl) ?_
       refine s_split 132 rfl (fun g132 => ?_) (fun g132 => ?_)
       ·
        refine s_unguard (yield_Fr rfl rfl) rfl ?_
        refine s_val (r_move (v := .bool _) rfl) ?_
        refine s_unguard (yield_Fr rfl rfl) rfl ?_
        refine s_val (r_move (v := .bool _) rfl) ?_
        refine s_split 134 rfl (fun g134 => ?_) (fun g134 => ?_)
        ·
         refine s_unguard (yield_Fr rfl rfl) rfl ?_
         refine s_val (r_move (v := .int _ _) rfl) ?_
         refine s_unguard (yield_Fr rfl rfl) rfl ?_
         refine s_val (r_move (v := .int _ _) rfl) ?_
         refine s_unguard (yield_Fr rfl rfl) rfl ?_
         refine s_val (r_eql rfl rfl) ?_
         refine s_unguard (yield_Fr rfl rfl) rfl ?_
         refine s_val (r_pick (v := .bool _) rfl rfl) ?_
         refine s_unguard (yield_Fr rfl rfl) rfl ?_
         refine s_val (r_not rfl) ?_
         refine s_val (r_pick (v := .bool _) rfl rfl) ?_
         refine s_nil (e_then ?_)
         refine c_not rfl (fun h140 => ?_) (fun h140 => ?_)
         ·
          refine c_seq (c_region ?_)
          have hr : 12 = insCheck p i x d := by
            unfold insCheck
            rw [if_neg hc1, if_neg hc2, if_neg hc3, if_neg h100, if_neg hc5, if_pos ⟨g132, by
              rintro ⟨a1, a2⟩
              first | (rw [a1] at g134; cases g134; done) | exact h140 a2⟩]
          refine s_val (r_assign (v := .int _ _) rfl) ?_
          refine s_nil (e_then (c_ret (e_then_ret ?_)))
          refine ret_run (res_1 (v := .int _ _) rfl rfl) ?_
          exact ⟨congrArg (fun n => Ending.returned (i64 n)) hr, M.keep⟩
         ·
          refine c_skip (e_then (c_seq (c_region ?_)))
          have hr : 0 = insCheck p i x d := by
            unfold insCheck
            rw [if_neg hc1, if_neg hc2, if_neg hc3, if_neg h100, if_neg hc5, if_neg (by
              rintro ⟨a1, a2⟩
              first | (rw [a1] at g132; cases g132; done) | exact a2 ⟨g134, h140⟩)]
          refine s_val (r_assign (v := .int _ _) rfl) ?_
          refine s_nil (e_then (c_ret ?_))
          refine ret_run (res_1 (v := .int _ _) rfl rfl) ?_
          exact ⟨congrArg (fun n => Ending.returned (i64 n)) hr, M.keep⟩
        ·
         refine s_skip (yield_Fr rfl rfl) rfl ?_
         refine s_skip (yield_Fr rfl rfl) rfl ?_
         refine s_skip (yield_Fr rfl rfl) rfl ?_
         refine s_unguard (yield_Fr rfl rfl) rfl ?_
         refine s_val (r_pick (v := .bool _) rfl rfl) ?_
         refine s_unguard (yield_Fr rfl rfl) rfl ?_
         refine s_val (r_not rfl) ?_
         refine s_val (r_pick (v := .bool _) rfl rfl) ?_
         refine s_nil (e_then ?_)
         refine c_yes rfl (by decide) ?_
         refine c_seq (c_region ?_)
         have hr : 12 = insCheck p i x d := by
           unfold insCheck
           rw [if_neg hc1, if_neg hc2, if_neg hc3, if_neg h100, if_neg hc5, if_pos ⟨g132, by
             rintro ⟨a1, a2⟩
             first | (rw [a1] at g134; cases g134; done) | exact h140 a2⟩]
         refine s_val (r_assign (v := .int _ _) rfl) ?_
         refine s_nil (e_then (c_ret (e_then_ret ?_)))
         refine ret_run (res_1 (v := .int _ _) rfl rfl) ?_
         exact ⟨congrArg (fun n => Ending.returned (i64 n)) hr, M.keep⟩
       ·
        refine s_skip (yield_Fr rfl rfl) rfl ?_
        refine s_skip (yield_Fr rfl rfl) rfl ?_
        refine s_skipU (yield_U rfl rfl) ?_
        refine s_skipU (yield_U rfl rfl) ?_
        refine s_skipU (yield_U rfl rfl) ?_
        refine s_skip (yield_Fr rfl rfl) rfl ?_
        refine s_skip (yield_Fr rfl rfl) rfl ?_
        refine s_val (r_pick (v := .bool _) rfl rfl) ?_
        refine s_nil (e_then ?_)
        refine c_no rfl (by decide) ?_
        refine c_skip (e_then (c_seq (c_region ?_)))
        have hr : 0 = insCheck p i x d := by
          unfold insCheck
          rw [if_neg hc1, if_neg hc2, if_neg hc3, if_neg h100, if_neg hc5, if_neg (by
            rintro ⟨a1, a2⟩
            first | (rw [a1] at g132; cases g132; done) | exact a2 ⟨g134, h140⟩)]
        refine s_val (r_assign (v := .int _ _) rfl) ?_
        refine s_nil (e_then (c_ret ?_))
        refine ret_run (res_1 (v := .int _ _) rfl rfl) ?_
        exact ⟨congrArg (fun n => Ending.returned (i64 n)) hr, M.keep⟩
     ·
      refine s_skip (yield_Fr rfl rfl) rfl ?_
      refine s_skip (yield_Fr rfl rfl) rfl ?_
      refine s_skip (yield_Fr rfl rfl) rfl ?_
      refine s_unguard (yield_Fr rfl rfl) rfl ?_
      refine s_val (r_pick (v := .bool _) rfl rfl) ?_
      refine s_val (r_pick (v := .bool _) rfl rfl) ?_
      refine s_nil (e_then ?_)
      refine c_no rfl (by decide) ?_
      refine c_skip (e_then (c_seq (c_seq (c_region ?_))))
      have hc5 : ¬ (x.imm < 1 ∨ i + 1 + x.imm > p.length ∨ ((loopOf p i).2.2 = true ∧ i + 1 + x.imm > (loopOf p i).2.1)) := by
        rintro (h | h | ⟨h1, h2⟩)
        · exact g110 h
        · exact g116 h
        · first | (rw [h1] at g118; cases g118; done) | exact h123 h2
      refine s_val (r_move (v := .slice _ _ _) rfl) ?_
      refine s_val (r_move (v := .int _ _) rfl) ?_
      refine s_callP (cl64 rfl) (withinOf _ _ hp hl _ _ (M.fact (j := 0) rfl)) M ?_
      intro w M
      refine s_val (r_move rfl) ?_
      refine s_val (r_extract rfl rfl) ?_
      refine s_val (r_extract rfl rfl) ?_
      refine s_val (r_extract rfl rfl) ?_
      refine s_val (r_assign (v := .int _ _) rfl) ?_
      refine s_val (r_assign (v := .int _ _) rfl) ?_
      refine s_val (r_assign (v := .bool _) rfl) ?_
      refine s_nil (e_then (c_seq (c_region ?_)))
      refine s_val (r_move (v := .bool _) rfl) ?_
      refine s_val (r_move (v := .bool _) rfl) ?_
      refine s_split 132 rfl (fun g132 => ?_) (fun g132 => ?_)
      ·
       refine s_unguard (yield_Fr rfl rfl) rfl ?_
       refine s_val (r_move (v := .bool _) rfl) ?_
       refine s_unguard (yield_Fr rfl rfl) rfl ?_
       refine s_val (r_move (v := .bool _) rfl) ?_
       refine s_split 134 rfl (fun g134 => ?_) (fun g134 => ?_)
       ·
        refine s_unguard (yield_Fr rfl rfl) rfl ?_
        refine s_val (r_move (v := .int _ _) rfl) ?_
        refine s_unguard (yield_Fr rfl rfl) rfl ?_
        refine s_val (r_move (v := .int _ _) rfl) ?_
        refine s_unguard (yield_Fr rfl rfl) rfl ?_
        refine s_val (r_eql rfl rfl) ?_
        refine s_unguard (yield_Fr rfl rfl) rfl ?_
        refine s_val (r_pick (v := .bool _) rfl rfl) ?_
        refine s_unguard (yield_Fr rfl rfl) rfl ?_
        refine s_val (r_not rfl) ?_
        refine s_val (r_pick (v := .bool _) rfl rfl) ?_
        refine s_nil (e_then ?_)
        refine c_not rfl (fun h140 => ?_) (fun h140 => ?_)
        ·
         refine c_seq (c_region ?_)
         have hr : 12 = insCheck p i x d := by
           unfold insCheck
           rw [if_neg hc1, if_neg hc2, if_neg hc3, if_neg h100, if_neg hc5, if_pos ⟨g132, by
             rintro ⟨a1, a2⟩
             first | (rw [a1] at g134; cases g134; done) | exact h140 a2⟩]
         refine s_val (r_assign (v := .int _ _) rfl) ?_
         refine s_nil (e_then (c_ret (e_then_ret ?_)))
         refine ret_run (res_1 (v := .int _ _) rfl rfl) ?_
         exact ⟨congrArg (fun n => Ending.returned (i64 n)) hr, M.keep⟩
        ·
         refine c_skip (e_then (c_seq (c_region ?_)))
         have hr : 0 = insCheck p i x d := by
           unfold insCheck
           rw [if_neg hc1, if_neg hc2, if_neg hc3, if_neg h100, if_neg hc5, if_neg (by
             rintro ⟨a1, a2⟩
             first | (rw [a1] at g132; cases g132; done) | exact a2 ⟨g134, h140⟩)]
         refine s_val (r_assign (v := .int _ _) rfl) ?_
         refine s_nil (e_then (c_ret ?_))
         refine ret_run (res_1 (v := .int _ _) rfl rfl) ?_
         exact ⟨congrArg (fun n => Ending.returned (i64 n)) hr, M.keep⟩
       ·
        refine s_skip (yield_Fr rfl rfl) rfl ?_
        refine s_skip (yield_Fr rfl rfl) rfl ?_
        refine s_skip (yield_Fr rfl rfl) rfl ?_
        refine s_unguard (yield_Fr rfl rfl) rfl ?_
        refine s_val (r_pick (v := .bool _) rfl rfl) ?_
        refine s_unguard (yield_Fr rfl rfl) rfl ?_
        refine s_val (r_not rfl) ?_
        refine s_val (r_pick (v := .bool _) rfl rfl) ?_
        refine s_nil (e_then ?_)
        refine c_yes rfl (by decide) ?_
        refine c_seq (c_region ?_)
        have hr : 12 = insCheck p i x d := by
          unfold insCheck
          rw [if_neg hc1, if_neg hc2, if_neg hc3, if_neg h100, if_neg hc5, if_pos ⟨g132, by
            rintro ⟨a1, a2⟩
            first | (rw [a1] at g134; cases g134; done) | exact h140 a2⟩]
        refine s_val (r_assign (v := .int _ _) rfl) ?_
        refine s_nil (e_then (c_ret (e_then_ret ?_)))
        refine ret_run (res_1 (v := .int _ _) rfl rfl) ?_
        exact ⟨congrArg (fun n => Ending.returned (i64 n)) hr, M.keep⟩
      ·
       refine s_skip (yield_Fr rfl rfl) rfl ?_
       refine s_skip (yield_Fr rfl rfl) rfl ?_
       refine s_skipU (yield_U rfl rfl) ?_
       refine s_skipU (yield_U rfl rfl) ?_
       refine s_skipU (yield_U rfl rfl) ?_
       refine s_skip (yield_Fr rfl rfl) rfl ?_
       refine s_skip (yield_Fr rfl rfl) rfl ?_
       refine s_val (r_pick (v := .bool _) rfl rfl) ?_
       refine s_nil (e_then ?_)
       refine c_no rfl (by decide) ?_
       refine c_skip (e_then (c_seq (c_region ?_)))
       have hr : 0 = insCheck p i x d := by
         unfold insCheck
         rw [if_neg hc1, if_neg hc2, if_neg hc3, if_neg h100, if_neg hc5, if_neg (by
           rintro ⟨a1, a2⟩
           first | (rw [a1] at g132; cases g132; done) | exact a2 ⟨g134, h140⟩)]
       refine s_val (r_assign (v := .int _ _) rfl) ?_
       refine s_nil (e_then (c_ret ?_))
       refine ret_run (res_1 (v := .int _ _) rfl rfl) ?_
       exact ⟨congrArg (fun n => Ending.returned (i64 n)) hr, M.keep⟩
end Go.Proofs.Ytcjnniigonaapaa
