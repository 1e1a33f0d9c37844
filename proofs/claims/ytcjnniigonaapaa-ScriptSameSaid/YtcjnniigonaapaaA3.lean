/-
  WALKS 3: == of programs, vertices, numbers, draws, scripts.
-/
import Derived.Test.YtcjnniigonaapaaA2
namespace Go.Proofs.Ytcjnniigonaapaa
open Go Go.Az Go.Proofs

theorem eqProg (s1 s2 : Sl) (p q : List Ins) (w0 : World) (h1 : LsF ins 5 s1 p w0) (h2 : LsF ins 5 s2 q w0) :
    Calls Try.prog 16 #[s1.v p.length, s2.v q.length] w0 fun e w' => e = .returned (bo (decide (p = q))) ∧ Keep [] w0 w' := by
  have M := St.begin w0 (LsF.nice.and LsF.nice) ⟨h1, h2⟩
  refine calls_of 26 Try.func16 rfl rfl rfl ?_
  refine c_seq (c_region ?_)
  refine s_val (r_assign (v := .bool _) rfl) ?_
  refine s_nil (e_then (c_seq (c_seq (c_region ?_))))
  refine s_val (r_move (v := .slice _ _ _) rfl) ?_
  refine s_val (r_len Try.underlying46 rfl) ?_
  refine s_val (r_move (v := .slice _ _ _) rfl) ?_
  refine s_val (r_len Try.underlying46 rfl) ?_
  refine s_val (r_neq rfl rfl) ?_
  refine s_nil (e_then ?_)
  refine c_if rfl (fun h10 => ?_) (fun h10 => ?_)
  ·
   have hr : decide (p = q) = false := decide_eq_false (by rintro rfl; exact h10 rfl)
   refine c_seq (c_region ?_)
   refine s_val (r_assign (v := .bool _) rfl) ?_
   refine s_nil (e_then (c_ret (e_then_ret ?_)))
   refine ret_run (res_1 (v := .bool _) rfl rfl) ?_
   exact ⟨by rw [hr], M.keep⟩
  ·
   refine c_skip (e_then (c_seq (c_seq (c_region ?_))))
   refine s_val (r_move (v := .slice _ _ _) rfl) ?_
   refine s_val (r_len Try.underlying46 rfl) ?_
   refine s_val (r_move (v := .int _ _) rfl) ?_
   refine s_nil (e_then (c_block ?_))
   refine c_loopG [4, 5, 13, 14, 15, 16, 17, 18, 19, 20, 21, 22, 23, 24, 25] (Γ := Nat) (vals := fun k => [(13, i64 k)]) (I := fun n k w => n + k = p.length ∧ p.take k = q.take k ∧ St [] [] w0 w [] [fun w => LsF ins 5 s1 p w ∧ LsF ins 5 s2 q w]) p.length 0 ⟨rfl, trivial⟩ ⟨rfl, rfl, M⟩ ?_
   rintro n k e w ⟨hk, ht, M⟩
   refine c_seq (c_region ?_)
   refine s_val (r_lss rfl rfl) ?_
   refine s_nil (e_then (c_seq ?_))
   refine c_if rfl (fun h14 => ?_) (fun h14 => ?_)
   ·
    have htop := (M.fact (j := 0) rfl).1.sl.top
    have hkp : k < p.length := by omega
    have hkq : k < q.length := by omega
    obtain ⟨x, hx⟩ : ∃ x, p[k]? = some x := ⟨_, List.getElem?_eq_getElem hkp⟩
    obtain ⟨y, hy⟩ : ∃ y, q[k]? = some y := ⟨_, List.getElem?_eq_getElem hkq⟩
    obtain ⟨b1, o1, ha1⟩ := (M.fact (j := 0) rfl).1.addr (by omega)
    obtain ⟨b2, o2, ha2⟩ := (M.fact (j := 0) rfl).2.addr (by omega)
    refine c_skip (e_then (c_seq (c_block (c_seq (c_region ?_)))))
    refine s_val (r_move (v := .int _ _) rfl) ?_
    refine s_val (r_assign (v := .int _ _) rfl) ?_
    refine s_nil (e_then (c_seq ?_))
    refine c_drawK (by kernel_rfl) [(.q, 0), (.q, 1), (.q, 2), (.q, 3), (.q, 4), (.q, 5), (.q, 6), (.q, 7), (.q, 8)] [[], [], [0, 1], [0, 1, 2], [], [], [4, 5], [4, 5, 6], [0, 1, 2, 3, 4, 5, 6, 7]] (by kernel_rfl) [] M ?_
    refine w_val rfl wt_none (fun w => (r_move (v := .slice _ _ _) rfl)) ?_
    refine w_val rfl wt_none (fun w => (r_move (v := .int _ _) rfl)) ?_
    refine w_val rfl wt_none (fun w => (r_indexAddrS Try.underlying46 sz44 rfl (ha1) rfl (by omega) (by omega) rfl)) ?_
    refine w_read rfl wt_none (fun w X G' M => r_loadN (cs := ins x) Try.underlying44 rfl sz44 rfl rfl (fun j v hv => (M.fact (j := 0) rfl).1.cell ha1 hx hv)) ?_
    refine w_val rfl wt_none (fun w => (r_move (v := .slice _ _ _) rfl)) ?_
    refine w_val rfl wt_none (fun w => (r_move (v := .int _ _) rfl)) ?_
    refine w_val rfl wt_none (fun w => (r_indexAddrS Try.underlying46 sz44 rfl (ha2) rfl (by omega) (by omega) rfl)) ?_
    refine w_read rfl wt_none (fun w X G' M => r_loadN (cs := ins y) Try.underlying44 rfl sz44 rfl rfl (fun j v hv => (M.fact (j := 0) rfl).2.cell ha2 hy hv)) ?_
    refine w_val rfl wt_none (fun w => (r_neqF (xs := [.int _ _, .int _ _, .int _ _, .int _ _, .int _ _]) (ys := [.int _ _, .int _ _, .int _ _, .int _ _, .int _ _]) fe44 rfl eg44 rfl rfl (by kernel_rfl) (by kernel_rfl))) ?_
    refine w_nil ?_
    intro w M
    refine e_then ?_
    refine c_cond rfl (fun h24 => ?_) (fun h24 => ?_)
    ·
     have hr : decide (p = q) = false := decide_eq_false (by rintro rfl; rw [hx] at hy; cases hy; simp [eqv_true, eqv_false] at h24)
     refine c_seq (c_region ?_)
     refine s_val (r_assign (v := .bool _) rfl) ?_
     refine s_nil (e_then (c_ret (e_blk_ret (e_then_ret (e_then_ret (e_blk_ret (e_then_ret ?_)))))))
     refine ret_run (res_1 (v := .bool _) rfl rfl) ?_
     exact ⟨by rw [hr], M.keep⟩
    ·
     refine c_skip (e_blk (e_then (c_region ?_)))
     first | (refine s_val (r_add rfl rfl (w64 (by omega) (by omega))) ?_) | (refine s_val (r_add rfl rfl rfl) ?_)
     refine s_val (r_move (v := .int _ _) rfl) ?_
     refine s_nil (e_then ?_)
     have hxy : x = y := by cases x; cases y; simp [eqv_true] at h24; simp [h24]
     subst hxy
     exact loop_end (n - 1) (k + 1) (by repeat (first | exact ag_refl | exact ag_mask rfl ag_refl | refine ag_upd rfl ?_ | refine ag_mask rfl ?_)) ⟨i64succ k, trivial⟩ (by omega) ⟨by omega, by rw [List.take_add_one, List.take_add_one, ht, hx, hy], M⟩
   ·
    have hr : decide (p = q) = true := decide_eq_true (by
      rwa [List.take_of_length_le (by omega), List.take_of_length_le (by omega)] at ht)
    refine c_exit (e_then_exit (e_then_exit (e_blk_here (e_then (c_seq (c_region ?_))))))
    refine s_val (r_assign (v := .bool _) rfl) ?_
    refine s_nil (e_then (c_ret ?_))
    refine ret_run (res_1 (v := .bool _) rfl rfl) ?_
    exact ⟨by rw [hr], M.keep⟩

theorem eqVtx (s1 s2 : Sl) (p q : List Vtx) (w0 : World) (h1 : LsF vtx 8 s1 p w0) (h2 : LsF vtx 8 s2 q w0) :
    Calls Try.prog 17 #[s1.v p.length, s2.v q.length] w0 fun e w' => e = .returned (bo (decide (p = q))) ∧ Keep [] w0 w' := by
  have M := St.begin w0 (LsF.nice.and LsF.nice) ⟨h1, h2⟩
  refine calls_of 26 Try.func17 rfl rfl rfl ?_
  refine c_seq (c_region ?_)
  refine s_val (r_assign (v := .bool _) rfl) ?_
  refine s_nil (e_then (c_seq (c_seq (c_region ?_))))
  refine s_val (r_move (v := .slice _ _ _) rfl) ?_
  refine s_val (r_len Try.underlying34 rfl) ?_
  refine s_val (r_move (v := .slice _ _ _) rfl) ?_
  refine s_val (r_len Try.underlying34 rfl) ?_
  refine s_val (r_neq rfl rfl) ?_
  refine s_nil (e_then ?_)
  refine c_if rfl (fun h10 => ?_) (fun h10 => ?_)
  ·
   have hr : decide (p = q) = false := decide_eq_false (by rintro rfl; exact h10 rfl)
   refine c_seq (c_region ?_)
   refine s_val (r_assign (v := .bool _) rfl) ?_
   refine s_nil (e_then (c_ret (e_then_ret ?_)))
   refine ret_run (res_1 (v := .bool _) rfl rfl) ?_
   exact ⟨by rw [hr], M.keep⟩
  ·
   refine c_skip (e_then (c_seq (c_seq (c_region ?_))))
   refine s_val (r_move (v := .slice _ _ _) rfl) ?_
   refine s_val (r_len Try.underlying34 rfl) ?_
   refine s_val (r_move (v := .int _ _) rfl) ?_
   refine s_nil (e_then (c_block ?_))
   refine c_loopG [4, 5, 13, 14, 15, 16, 17, 18, 19, 20, 21, 22, 23, 24, 25] (Γ := Nat) (vals := fun k => [(13, i64 k)]) (I := fun n k w => n + k = p.length ∧ p.take k = q.take k ∧ St [] [] w0 w [] [fun w => LsF vtx 8 s1 p w ∧ LsF vtx 8 s2 q w]) p.length 0 ⟨rfl, trivial⟩ ⟨rfl, rfl, M⟩ ?_
   rintro n k e w ⟨hk, ht, M⟩
   refine c_seq (c_region ?_)
   refine s_val (r_lss rfl rfl) ?_
   refine s_nil (e_then (c_seq ?_))
   refine c_if rfl (fun h14 => ?_) (fun h14 => ?_)
   ·
    have htop := (M.fact (j := 0) rfl).1.sl.top
    have hkp : k < p.length := by omega
    have hkq : k < q.length := by omega
    obtain ⟨x, hx⟩ : ∃ x, p[k]? = some x := ⟨_, List.getElem?_eq_getElem hkp⟩
    obtain ⟨y, hy⟩ : ∃ y, q[k]? = some y := ⟨_, List.getElem?_eq_getElem hkq⟩
    obtain ⟨b1, o1, ha1⟩ := (M.fact (j := 0) rfl).1.addr (by omega)
    obtain ⟨b2, o2, ha2⟩ := (M.fact (j := 0) rfl).2.addr (by omega)
    refine c_skip (e_then (c_seq (c_block (c_seq (c_region ?_)))))
    refine s_val (r_move (v := .int _ _) rfl) ?_
    refine s_val (r_assign (v := .int _ _) rfl) ?_
    refine s_nil (e_then (c_seq ?_))
    refine c_drawK (by kernel_rfl) [(.q, 0), (.q, 1), (.q, 2), (.q, 3), (.q, 4), (.q, 5), (.q, 6), (.q, 7), (.q, 8)] [[], [], [0, 1], [0, 1, 2], [], [], [4, 5], [4, 5, 6], [0, 1, 2, 3, 4, 5, 6, 7]] (by kernel_rfl) [] M ?_
    refine w_val rfl wt_none (fun w => (r_move (v := .slice _ _ _) rfl)) ?_
    refine w_val rfl wt_none (fun w => (r_move (v := .int _ _) rfl)) ?_
    refine w_val rfl wt_none (fun w => (r_indexAddrS Try.underlying34 sz41 rfl (ha1) rfl (by omega) (by omega) rfl)) ?_
    refine w_read rfl wt_none (fun w X G' M => r_loadN (cs := vtx x) Try.underlying41 rfl sz41 rfl rfl (fun j v hv => (M.fact (j := 0) rfl).1.cell ha1 hx hv)) ?_
    refine w_val rfl wt_none (fun w => (r_move (v := .slice _ _ _) rfl)) ?_
    refine w_val rfl wt_none (fun w => (r_move (v := .int _ _) rfl)) ?_
    refine w_val rfl wt_none (fun w => (r_indexAddrS Try.underlying34 sz41 rfl (ha2) rfl (by omega) (by omega) rfl)) ?_
    refine w_read rfl wt_none (fun w X G' M => r_loadN (cs := vtx y) Try.underlying41 rfl sz41 rfl rfl (fun j v hv => (M.fact (j := 0) rfl).2.cell ha2 hy hv)) ?_
    refine w_val rfl wt_none (fun w => (r_neqF (xs := [.int _ _, .int _ _, .int _ _, .int _ _, .int _ _, .int _ _, .int _ _, .int _ _]) (ys := [.int _ _, .int _ _, .int _ _, .int _ _, .int _ _, .int _ _, .int _ _, .int _ _]) fe41 rfl eg41 rfl rfl (by kernel_rfl) (by kernel_rfl))) ?_
    refine w_nil ?_
    intro w M
    refine e_then ?_
    refine c_cond rfl (fun h24 => ?_) (fun h24 => ?_)
    ·
     have hr : decide (p = q) = false := decide_eq_false (by rintro rfl; rw [hx] at hy; cases hy; simp [eqv_true, eqv_false] at h24)
     refine c_seq (c_region ?_)
     refine s_val (r_assign (v := .bool _) rfl) ?_
     refine s_nil (e_then (c_ret (e_blk_ret (e_then_ret (e_then_ret (e_blk_ret (e_then_ret ?_)))))))
     refine ret_run (res_1 (v := .bool _) rfl rfl) ?_
     exact ⟨by rw [hr], M.keep⟩
    ·
     refine c_skip (e_blk (e_then (c_region ?_)))
     first | (refine s_val (r_add rfl rfl (w64 (by omega) (by omega))) ?_) | (refine s_val (r_add rfl rfl rfl) ?_)
     refine s_val (r_move (v := .int _ _) rfl) ?_
     refine s_nil (e_then ?_)
     have hxy : x = y := by obtain ⟨⟨_, _, _, _⟩, ⟨_, _, _, _⟩⟩ := x; obtain ⟨⟨_, _, _, _⟩, ⟨_, _, _, _⟩⟩ := y; simp [eqv_true] at h24; simp [h24]
     subst hxy
     exact loop_end (n - 1) (k + 1) (by repeat (first | exact ag_refl | exact ag_mask rfl ag_refl | refine ag_upd rfl ?_ | refine ag_mask rfl ?_)) ⟨i64succ k, trivial⟩ (by omega) ⟨by omega, by rw [List.take_add_one, List.take_add_one, ht, hx, hy], M⟩
   ·
    have hr : decide (p = q) = true := decide_eq_true (by
      rwa [List.take_of_length_le (by omega), List.take_of_length_le (by omega)] at ht)
    refine c_exit (e_then_exit (e_then_exit (e_blk_here (e_then (c_seq (c_region ?_))))))
    refine s_val (r_assign (v := .bool _) rfl) ?_
    refine s_nil (e_then (c_ret ?_))
    refine ret_run (res_1 (v := .bool _) rfl rfl) ?_
    exact ⟨by rw [hr], M.keep⟩

theorem eqInts (s1 s2 : Sl) (p q : List Int) (w0 : World) (h1 : LsF encN 1 s1 p w0) (h2 : LsF encN 1 s2 q w0) :
    Calls Try.prog 44 #[s1.v p.length, s2.v q.length] w0 fun e w' => e = .returned (bo (decide (p = q))) ∧ Keep [] w0 w' := by
  have M := St.begin w0 (LsF.nice.and LsF.nice) ⟨h1, h2⟩
  refine calls_of 26 Try.func44 rfl rfl rfl ?_
  refine c_seq (c_region ?_)
  refine s_val (r_assign (v := .bool _) rfl) ?_
  refine s_nil (e_then (c_seq (c_seq (c_region ?_))))
  refine s_val (r_move (v := .slice _ _ _) rfl) ?_
  refine s_val (r_len Try.underlying59 rfl) ?_
  refine s_val (r_move (v := .slice _ _ _) rfl) ?_
  refine s_val (r_len Try.underlying59 rfl) ?_
  refine s_val (r_neq rfl rfl) ?_
  refine s_nil (e_then ?_)
  refine c_if rfl (fun h10 => ?_) (fun h10 => ?_)
  ·
   have hr : decide (p = q) = false := decide_eq_false (by rintro rfl; exact h10 rfl)
   refine c_seq (c_region ?_)
   refine s_val (r_assign (v := .bool _) rfl) ?_
   refine s_nil (e_then (c_ret (e_then_ret ?_)))
   refine ret_run (res_1 (v := .bool _) rfl rfl) ?_
   exact ⟨by rw [hr], M.keep⟩
  ·
   refine c_skip (e_then (c_seq (c_seq (c_region ?_))))
   refine s_val (r_move (v := .slice _ _ _) rfl) ?_
   refine s_val (r_len Try.underlying59 rfl) ?_
   refine s_val (r_move (v := .int _ _) rfl) ?_
   refine s_nil (e_then (c_block ?_))
   refine c_loopG [4, 5, 13, 14, 15, 16, 17, 18, 19, 20, 21, 22, 23, 24, 25] (Γ := Nat) (vals := fun k => [(13, i64 k)]) (I := fun n k w => n + k = p.length ∧ p.take k = q.take k ∧ St [] [] w0 w [] [fun w => LsF encN 1 s1 p w ∧ LsF encN 1 s2 q w]) p.length 0 ⟨rfl, trivial⟩ ⟨rfl, rfl, M⟩ ?_
   rintro n k e w ⟨hk, ht, M⟩
   refine c_seq (c_region ?_)
   refine s_val (r_lss rfl rfl) ?_
   refine s_nil (e_then (c_seq ?_))
   refine c_if rfl (fun h14 => ?_) (fun h14 => ?_)
   ·
    have htop := (M.fact (j := 0) rfl).1.sl.top
    have hkp : k < p.length := by omega
    have hkq : k < q.length := by omega
    obtain ⟨x, hx⟩ : ∃ x, p[k]? = some x := ⟨_, List.getElem?_eq_getElem hkp⟩
    obtain ⟨y, hy⟩ : ∃ y, q[k]? = some y := ⟨_, List.getElem?_eq_getElem hkq⟩
    obtain ⟨b1, o1, ha1⟩ := (M.fact (j := 0) rfl).1.addr (by omega)
    obtain ⟨b2, o2, ha2⟩ := (M.fact (j := 0) rfl).2.addr (by omega)
    refine c_skip (e_then (c_seq (c_block (c_seq (c_region ?_)))))
    refine s_val (r_move (v := .int _ _) rfl) ?_
    refine s_val (r_assign (v := .int _ _) rfl) ?_
    refine s_nil (e_then (c_seq ?_))
    refine c_drawK (by kernel_rfl) [(.q, 0), (.q, 1), (.q, 2), (.q, 3), (.q, 4), (.q, 5), (.q, 6), (.q, 7), (.q, 8)] [[], [], [0, 1], [0, 1, 2], [], [], [4, 5], [4, 5, 6], [0, 1, 2, 3, 4, 5, 6, 7]] (by kernel_rfl) [] M ?_
    refine w_val rfl wt_none (fun w => (r_move (v := .slice _ _ _) rfl)) ?_
    refine w_val rfl wt_none (fun w => (r_move (v := .int _ _) rfl)) ?_
    refine w_val rfl wt_none (fun w => (r_indexAddrS Try.underlying59 sz3 rfl (ha1) rfl (by omega) (by omega) rfl)) ?_
    refine w_read rfl wt_none (fun w X G' M => r_load1 Try.underlying3 rfl rfl ((M.fact (j := 0) rfl).1.cell0 ha1 hx rfl)) ?_
    refine w_val rfl wt_none (fun w => (r_move (v := .slice _ _ _) rfl)) ?_
    refine w_val rfl wt_none (fun w => (r_move (v := .int _ _) rfl)) ?_
    refine w_val rfl wt_none (fun w => (r_indexAddrS Try.underlying59 sz3 rfl (ha2) rfl (by omega) (by omega) rfl)) ?_
    refine w_read rfl wt_none (fun w X G' M => r_load1 Try.underlying3 rfl rfl ((M.fact (j := 0) rfl).2.cell0 ha2 hy rfl)) ?_
    refine w_val rfl wt_none (fun w => (r_neq rfl rfl)) ?_
    refine w_nil ?_
    intro w M
    refine e_then ?_
    refine c_if rfl (fun h24 => ?_) (fun h24 => ?_)
    ·
     have hr : decide (p = q) = false := decide_eq_false (by rintro rfl; rw [hx] at hy; cases hy; exact h24 rfl)
     refine c_seq (c_region ?_)
     refine s_val (r_assign (v := .bool _) rfl) ?_
     refine s_nil (e_then (c_ret (e_blk_ret (e_then_ret (e_then_ret (e_blk_ret (e_then_ret ?_)))))))
     refine ret_run (res_1 (v := .bool _) rfl rfl) ?_
     exact ⟨by rw [hr], M.keep⟩
    ·
     refine c_skip (e_blk (e_then (c_region ?_)))
     first | (refine s_val (r_add rfl rfl (w64 (by omega) (by omega))) ?_) | (refine s_val (r_add rfl rfl rfl) ?_)
     refine s_val (r_move (v := .int _ _) rfl) ?_
     refine s_nil (e_then ?_)
     have hxy : x = y := by exact Decidable.of_not_not h24
     subst hxy
     exact loop_end (n - 1) (k + 1) (by repeat (first | exact ag_refl | exact ag_mask rfl ag_refl | refine ag_upd rfl ?_ | refine ag_mask rfl ?_)) ⟨i64succ k, trivial⟩ (by omega) ⟨by omega, by rw [List.take_add_one, List.take_add_one, ht, hx, hy], M⟩
   ·
    have hr : decide (p = q) = true := decide_eq_true (by
      rwa [List.take_of_length_le (by omega), List.take_of_length_le (by omega)] at ht)
    refine c_exit (e_then_exit (e_then_exit (e_blk_here (e_then (c_seq (c_region ?_))))))
    refine s_val (r_assign (v := .bool _) rfl) ?_
    refine s_nil (e_then (c_ret ?_))
    refine ret_run (res_1 (v := .bool _) rfl rfl) ?_
    exact ⟨by rw [hr], M.keep⟩

theorem same1 (s1 s2 : Sl) (p q : Prog) (w : World) (h1 : PrF s1 p w) (h2 : PrF s2 q w) :
    Calls Try.prog 15 #[s1.v p.length, s2.v q.length] w fun e w' => e = .returned (bo (decide (p = q))) ∧ Keep [] w w' := by
  have M := St.nil w
  refine calls_of 8 Try.func15 rfl rfl rfl ?_
  refine c_seq (c_region ?_)
  refine s_val (r_assign (v := .bool _) rfl) ?_
  refine s_nil (e_then (c_seq (c_region ?_)))
  refine s_val (r_move (v := .slice _ _ _) rfl) ?_
  refine s_val (r_move (v := .slice _ _ _) rfl) ?_
  refine s_callP (cl16 rfl) (eqProg _ _ _ _ _ h1 h2) M ?_
  intro w M
  refine s_val (r_assign (v := .bool _) rfl) ?_
  refine s_nil (e_then (c_ret ?_))
  refine ret_run (res_1 (v := .bool _) rfl rfl) ?_
  exact ⟨rfl, M.keep⟩

theorem drawSame (s1 s2 : Sl) (d c : Drw) (w : World) (h1 : LsF encN 1 s1 d.indices w) (h2 : LsF encN 1 s2 c.indices w) :
    Calls Try.prog 20 #[.agg (drw s1 d).toArray, .agg (drw s2 c).toArray] w fun e w' => e = .returned (bo (decide (d = c))) ∧ Keep [] w w' := by
  have M := St.begin w (LsF.nice.and LsF.nice) ⟨h1, h2⟩
  refine calls_of 52 Try.func20 rfl rfl rfl ?_
  refine c_seq (c_region ?_)
  refine a_box (v := .agg _) rfl cells_agg M ?_
  intro b2 w M
  first | replace M := M.nf (L' := [[(_, _)]]) rfl | skip
  refine a_box (v := .agg _) rfl cells_agg M ?_
  intro b3 w M
  first | replace M := M.nf (L' := [[(_, _)], [(_, _)]]) rfl | skip
  refine s_val (r_assign (v := .bool _) rfl) ?_
  refine s_nil (e_then (c_seq (c_region ?_)))
  refine s_val (r_fieldAddr (o' := 0) fb61_0 (by decide) rfl rfl) ?_
  refine a_loadN (vs := [_, _, _, _, _, _, _, _, _, _, _, _, _, _, _]) Try.underlying54 rfl sz54 M rfl (k := 0) (j := 0) rfl rfl rfl rfl ?_
  refine s_val (r_fieldAddr (o' := 0) fb61_0 (by decide) rfl rfl) ?_
  refine a_loadN (vs := [_, _, _, _, _, _, _, _, _, _, _, _, _, _, _]) Try.underlying54 rfl sz54 M rfl (k := 1) (j := 0) rfl rfl rfl rfl ?_
  refine s_val (r_eqlF (xs := [.int _ _, .bool _, .int _ _, .int _ _, .int _ _, .int _ _, .int _ _, .int _ _, .int _ _, .int _ _, .int _ _, .int _ _, .int _ _, .int _ _, .int _ _]) (ys := [.int _ _, .bool _, .int _ _, .int _ _, .int _ _, .int _ _, .int _ _, .int _ _, .int _ _, .int _ _, .int _ _, .int _ _, .int _ _, .int _ _, .int _ _]) fe54 rfl eg54 rfl rfl (by kernel_rfl) (by kernel_rfl)) ?_
  refine s_val (r_move (v := .bool _) rfl) ?_
  refine s_split 10 rfl (fun g10 => ?_) (fun g10 => ?_)
  ·
   refine s_unguard (yield_Fr rfl rfl) rfl ?_
   refine s_val (r_fieldAddr (o' := 15) fb61_1 (by decide) rfl rfl) ?_
   refine s_unguard (yield_Fr rfl rfl) rfl ?_
   refine a_load1 (v := .bool _) Try.underlying4 rfl M rfl (k := 0) (j := 0) rfl rfl rfl ?_
   refine s_unguard (yield_Fr rfl rfl) rfl ?_
   refine s_val (r_fieldAddr (o' := 15) fb61_1 (by decide) rfl rfl) ?_
   refine s_unguard (yield_Fr rfl rfl) rfl ?_
   refine a_load1 (v := .bool _) Try.underlying4 rfl M rfl (k := 1) (j := 0) rfl rfl rfl ?_
   refine s_unguard (yield_Fr rfl rfl) rfl ?_
   refine s_val (r_eqlb Try.underlying4 rfl rfl) ?_
   refine s_val (r_pick (v := .bool _) rfl rfl) ?_
   refine s_val (r_move (v := .bool _) rfl) ?_
   refine s_split 17 rfl (fun g17 => ?_) (fun g17 => ?_)
   ·
    refine s_unguard (yield_Fr rfl rfl) rfl ?_
    refine s_val (r_fieldAddr (o' := 16) fb61_2 (by decide) rfl rfl) ?_
    refine s_unguard (yield_Fr rfl rfl) rfl ?_
    refine a_loadN (vs := [_, _, _, _, _, _, _]) Try.underlying57 rfl sz57 M rfl (k := 0) (j := 0) rfl rfl rfl rfl ?_
    refine s_unguard (yield_Fr rfl rfl) rfl ?_
    refine s_val (r_fieldAddr (o' := 16) fb61_2 (by decide) rfl rfl) ?_
    refine s_unguard (yield_Fr rfl rfl) rfl ?_
    refine a_loadN (vs := [_, _, _, _, _, _, _]) Try.underlying57 rfl sz57 M rfl (k := 1) (j := 0) rfl rfl rfl rfl ?_
    refine s_unguard (yield_Fr rfl rfl) rfl ?_
    refine s_val (r_eqlF (xs := [.int _ _, .int _ _, .int _ _, .int _ _, .int _ _, .int _ _, .int _ _]) (ys := [.int _ _, .int _ _, .int _ _, .int _ _, .int _ _, .int _ _, .int _ _]) fe57 rfl eg57 rfl rfl (by kernel_rfl) (by kernel_rfl)) ?_
    refine s_val (r_pick (v := .bool _) rfl rfl) ?_
    refine s_val (r_move (v := .bool _) rfl) ?_
    refine s_split 24 rfl (fun g24 => ?_) (fun g24 => ?_)
    ·
     refine s_unguard (yield_Fr rfl rfl) rfl ?_
     refine s_val (r_fieldAddr (o' := 23) fb61_3 (by decide) rfl rfl) ?_
     refine s_unguard (yield_Fr rfl rfl) rfl ?_
     refine a_load1 (v := .int _ _) Try.underlying3 rfl M rfl (k := 0) (j := 0) rfl rfl rfl ?_
     refine s_unguard (yield_Fr rfl rfl) rfl ?_
     refine s_val (r_fieldAddr (o' := 23) fb61_3 (by decide) rfl rfl) ?_
     refine s_unguard (yield_Fr rfl rfl) rfl ?_
     refine a_load1 (v := .int _ _) Try.underlying3 rfl M rfl (k := 1) (j := 0) rfl rfl rfl ?_
     refine s_unguard (yield_Fr rfl rfl) rfl ?_
     refine s_val (r_eql rfl rfl) ?_
     refine s_val (r_pick (v := .bool _) rfl rfl) ?_
     refine s_val (r_move (v := .bool _) rfl) ?_
     refine s_splitD 31 rfl (fun g31 => ?_) (fun g31 => ?_)
     ·
      refine s_unguard (yield_Fr rfl rfl) rfl ?_
      refine s_val (r_fieldAddr (o' := 24) fb61_4 (by decide) rfl rfl) ?_
      refine s_unguard (yield_Fr rfl rfl) rfl ?_
      refine a_load1 (v := .int _ _) Try.underlying3 rfl M rfl (k := 0) (j := 0) rfl rfl rfl ?_
      refine s_unguard (yield_Fr rfl rfl) rfl ?_
      refine s_val (r_fieldAddr (o' := 24) fb61_4 (by decide) rfl rfl) ?_
      refine s_unguard (yield_Fr rfl rfl) rfl ?_
      refine a_load1 (v := .int _ _) Try.underlying3 rfl M rfl (k := 1) (j := 0) rfl rfl rfl ?_
      refine s_unguard (yield_Fr rfl rfl) rfl ?_
      refine s_val (r_eql rfl rfl) ?_
      refine s_val (r_pick (v := .bool _) rfl rfl) ?_
      refine s_val (r_move (v := .bool _) rfl) ?_
      refine s_splitD 38 rfl (fun g38 => ?_) (fun g38 => ?_)
      ·
       refine s_unguard (yield_Fr rfl rfl) rfl ?_
       refine s_val (r_fieldAddr (o' := 25) fb61_5 (by decide) rfl rfl) ?_
       refine s_unguard (yield_Fr rfl rfl) rfl ?_
       refine a_load1 (v := .int _ _) Try.underlying58 rfl M rfl (k := 0) (j := 0) rfl rfl rfl ?_
       refine s_unguard (yield_Fr rfl rfl) rfl ?_
       refine s_val (r_fieldAddr (o' := 25) fb61_5 (by decide) rfl rfl) ?_
       refine s_unguard (yield_Fr rfl rfl) rfl ?_
       refine a_load1 (v := .int _ _) Try.underlying58 rfl M rfl (k := 1) (j := 0) rfl rfl rfl ?_
       refine s_unguard (yield_Fr rfl rfl) rfl ?_
       refine s_val (r_eql rfl rfl) ?_
       refine s_val (r_pick (v := .bool _) rfl rfl) ?_
       refine s_val (r_move (v := .bool _) rfl) ?_
       refine s_splitD 45 rfl (fun g45 => ?_) (fun g45 => ?_)
       ·
        refine s_unguard (yield_Fr rfl rfl) rfl ?_
        refine s_val (r_fieldAddr (o' := 26) fb61_6 (by decide) rfl rfl) ?_
        refine s_unguard (yield_Fr rfl rfl) rfl ?_
        refine a_load1 (v := .slice _ _ _) Try.underlying59 rfl M rfl (k := 0) (j := 0) rfl rfl rfl ?_
        refine s_unguard (yield_Fr rfl rfl) rfl ?_
        refine s_val (r_fieldAddr (o' := 26) fb61_6 (by decide) rfl rfl) ?_
        refine s_unguard (yield_Fr rfl rfl) rfl ?_
        refine a_load1 (v := .slice _ _ _) Try.underlying59 rfl M rfl (k := 1) (j := 0) rfl rfl rfl ?_
        refine s_unguard (yield_Fr rfl rfl) rfl ?_
        refine s_callP (cl44 rfl) (eqInts _ _ _ _ _ (M.fact (j := 0) rfl).1 (M.fact (j := 0) rfl).2) M ?_
        intro w M
        refine s_val (r_pick (v := .bool _) rfl rfl) ?_
        refine s_val (r_assign (v := .bool _) rfl) ?_
        refine s_nil (e_then (c_ret ?_))
        refine ret_run (res_1 (v := .bool _) rfl rfl) ?_
        refine ⟨?_, M.keep⟩
        first
          | (refine congrArg _ (congrArg _ (decide_eq_false ?_).symm); rintro rfl; simp_all [eqv_true, eqv_false]; done)
          | (refine congrArg _ (congrArg _ ?_); obtain ⟨⟨_, _, _, _, _, _, _, _, _, _, _, _, _, _, _⟩, _, _, _, _, _, _, _, _, _, _, _, _⟩ := d; obtain ⟨⟨_, _, _, _, _, _, _, _, _, _, _, _, _, _, _⟩, _, _, _, _, _, _, _, _, _, _, _, _⟩ := c; simp_all [eqv_true, eqv_false])
       ·
        refine s_skip (yield_Fr rfl rfl) rfl ?_
        refine s_skip (yield_Fr rfl rfl) rfl ?_
        refine s_skip (yield_Fr rfl rfl) rfl ?_
        refine s_skip (yield_Fr rfl rfl) rfl ?_
        refine s_skip (yield_Fr rfl rfl) rfl ?_
        refine s_val (r_pick (v := .bool _) rfl rfl) ?_
        refine s_val (r_assign (v := .bool _) rfl) ?_
        refine s_nil (e_then (c_ret ?_))
        refine ret_run (res_1 (v := .bool _) rfl rfl) ?_
        refine ⟨?_, M.keep⟩
        first
          | (refine congrArg _ (congrArg _ (decide_eq_false ?_).symm); rintro rfl; simp_all [eqv_true, eqv_false]; done)
          | (refine congrArg _ (congrArg _ ?_); obtain ⟨⟨_, _, _, _, _, _, _, _, _, _, _, _, _, _, _⟩, _, _, _, _, _, _, _, _, _, _, _, _⟩ := d; obtain ⟨⟨_, _, _, _, _, _, _, _, _, _, _, _, _, _, _⟩, _, _, _, _, _, _, _, _, _, _, _, _⟩ := c; simp_all [eqv_true, eqv_false])
      ·
       refine s_skip (yield_Fr rfl rfl) rfl ?_
       refine s_skip (yield_Fr rfl rfl) rfl ?_
       refine s_skip (yield_Fr rfl rfl) rfl ?_
       refine s_skip (yield_Fr rfl rfl) rfl ?_
       refine s_skip (yield_Fr rfl rfl) rfl ?_
       refine s_val (r_pick (v := .bool _) rfl rfl) ?_
       refine s_val (r_move (v := .bool _) rfl) ?_
       refine s_skip (yield_Fr rfl rfl) rfl ?_
       refine s_skip (yield_Fr rfl rfl) rfl ?_
       refine s_skip (yield_Fr rfl rfl) rfl ?_
       refine s_skip (yield_Fr rfl rfl) rfl ?_
       refine s_skip (yield_Fr rfl rfl) rfl ?_
       refine s_val (r_pick (v := .bool _) rfl rfl) ?_
       refine s_val (r_assign (v := .bool _) rfl) ?_
       refine s_nil (e_then (c_ret ?_))
       refine ret_run (res_1 (v := .bool _) rfl rfl) ?_
       refine ⟨?_, M.keep⟩
       first
         | (refine congrArg _ (congrArg _ (decide_eq_false ?_).symm); rintro rfl; simp_all [eqv_true, eqv_false]; done)
         | (refine congrArg _ (congrArg _ ?_); obtain ⟨⟨_, _, _, _, _, _, _, _, _, _, _, _, _, _, _⟩, _, _, _, _, _, _, _, _, _, _, _, _⟩ := d; obtain ⟨⟨_, _, _, _, _, _, _, _, _, _, _, _, _, _, _⟩, _, _, _, _, _, _, _, _, _, _, _, _⟩ := c; simp_all [eqv_true, eqv_false])
     ·
      refine s_skip (yield_Fr rfl rfl) rfl ?_
      refine s_skip (yield_Fr rfl rfl) rfl ?_
      refine s_skip (yield_Fr rfl rfl) rfl ?_
      refine s_skip (yield_Fr rfl rfl) rfl ?_
      refine s_skip (yield_Fr rfl rfl) rfl ?_
      refine s_val (r_pick (v := .bool _) rfl rfl) ?_
      refine s_val (r_move (v := .bool _) rfl) ?_
      refine s_skip (yield_Fr rfl rfl) rfl ?_
      refine s_skip (yield_Fr rfl rfl) rfl ?_
      refine s_skip (yield_Fr rfl rfl) rfl ?_
      refine s_skip (yield_Fr rfl rfl) rfl ?_
      refine s_skip (yield_Fr rfl rfl) rfl ?_
      refine s_val (r_pick (v := .bool _) rfl rfl) ?_
      refine s_val (r_move (v := .bool _) rfl) ?_
      refine s_skip (yield_Fr rfl rfl) rfl ?_
      refine s_skip (yield_Fr rfl rfl) rfl ?_
      refine s_skip (yield_Fr rfl rfl) rfl ?_
      refine s_skip (yield_Fr rfl rfl) rfl ?_
      refine s_skip (yield_Fr rfl rfl) rfl ?_
      refine s_val (r_pick (v := .bool _) rfl rfl) ?_
      refine s_val (r_assign (v := .bool _) rfl) ?_
      refine s_nil (e_then (c_ret ?_))
      refine ret_run (res_1 (v := .bool _) rfl rfl) ?_
      refine ⟨?_, M.keep⟩
      first
        | (refine congrArg _ (congrArg _ (decide_eq_false ?_).symm); rintro rfl; simp_all [eqv_true, eqv_false]; done)
        | (refine congrArg _ (congrArg _ ?_); obtain ⟨⟨_, _, _, _, _, _, _, _, _, _, _, _, _, _, _⟩, _, _, _, _, _, _, _, _, _, _, _, _⟩ := d; obtain ⟨⟨_, _, _, _, _, _, _, _, _, _, _, _, _, _, _⟩, _, _, _, _, _, _, _, _, _, _, _, _⟩ := c; simp_all [eqv_true, eqv_false])
    ·
     refine s_skip (yield_Fr rfl rfl) rfl ?_
     refine s_skip (yield_Fr rfl rfl) rfl ?_
     refine s_skip (yield_Fr rfl rfl) rfl ?_
     refine s_skip (yield_Fr rfl rfl) rfl ?_
     refine s_skip (yield_Fr rfl rfl) rfl ?_
     refine s_val (r_pick (v := .bool _) rfl rfl) ?_
     refine s_val (r_move (v := .bool _) rfl) ?_
     refine s_skip (yield_Fr rfl rfl) rfl ?_
     refine s_skip (yield_Fr rfl rfl) rfl ?_
     refine s_skip (yield_Fr rfl rfl) rfl ?_
     refine s_skip (yield_Fr rfl rfl) rfl ?_
     refine s_skip (yield_Fr rfl rfl) rfl ?_
     refine s_val (r_pick (v := .bool _) rfl rfl) ?_
     refine s_val (r_move (v := .bool _) rfl) ?_
     refine s_skip (yield_Fr rfl rfl) rfl ?_
     refine s_skip (yield_Fr rfl rfl) rfl ?_
     refine s_skip (yield_Fr rfl rfl) rfl ?_
     refine s_skip (yield_Fr rfl rfl) rfl ?_
     refine s_skip (yield_Fr rfl rfl) rfl ?_
     refine s_val (r_pick (v := .bool _) rfl rfl) ?_
     refine s_val (r_move (v := .bool _) rfl) ?_
     refine s_skip (yield_Fr rfl rfl) rfl ?_
     refine s_skip (yield_Fr rfl rfl) rfl ?_
     refine s_skip (yield_Fr rfl rfl) rfl ?_
     refine s_skip (yield_Fr rfl rfl) rfl ?_
     refine s_skip (yield_Fr rfl rfl) rfl ?_
     refine s_val (r_pick (v := .bool _) rfl rfl) ?_
     refine s_val (r_assign (v := .bool _) rfl) ?_
     refine s_nil (e_then (c_ret ?_))
     refine ret_run (res_1 (v := .bool _) rfl rfl) ?_
     refine ⟨?_, M.keep⟩
     first
       | (refine congrArg _ (congrArg _ (decide_eq_false ?_).symm); rintro rfl; simp_all [eqv_true, eqv_false]; done)
       | (refine congrArg _ (congrArg _ ?_); obtain ⟨⟨_, _, _, _, _, _, _, _, _, _, _, _, _, _, _⟩, _, _, _, _, _, _, _, _, _, _, _, _⟩ := d; obtain ⟨⟨_, _, _, _, _, _, _, _, _, _, _, _, _, _, _⟩, _, _, _, _, _, _, _, _, _, _, _, _⟩ := c; simp_all [eqv_true, eqv_false])
   ·
    refine s_skip (yield_Fr rfl rfl) rfl ?_
    refine s_skip (yield_Fr rfl rfl) rfl ?_
    refine s_skip (yield_Fr rfl rfl) rfl ?_
    refine s_skip (yield_Fr rfl rfl) rfl ?_
    refine s_skip (yield_Fr rfl rfl) rfl ?_
    refine s_val (r_pick (v := .bool _) rfl rfl) ?_
    refine s_val (r_move (v := .bool _) rfl) ?_
    refine s_skip (yield_Fr rfl rfl) rfl ?_
    refine s_skip (yield_Fr rfl rfl) rfl ?_
    refine s_skip (yield_Fr rfl rfl) rfl ?_
    refine s_skip (yield_Fr rfl rfl) rfl ?_
    refine s_skip (yield_Fr rfl rfl) rfl ?_
    refine s_val (r_pick (v := .bool _) rfl rfl) ?_
    refine s_val (r_move (v := .bool _) rfl) ?_
    refine s_skip (yield_Fr rfl rfl) rfl ?_
    refine s_skip (yield_Fr rfl rfl) rfl ?_
    refine s_skip (yield_Fr rfl rfl) rfl ?_
    refine s_skip (yield_Fr rfl rfl) rfl ?_
    refine s_skip (yield_Fr rfl rfl) rfl ?_
    refine s_val (r_pick (v := .bool _) rfl rfl) ?_
    refine s_val (r_move (v := .bool _) rfl) ?_
    refine s_skip (yield_Fr rfl rfl) rfl ?_
    refine s_skip (yield_Fr rfl rfl) rfl ?_
    refine s_skip (yield_Fr rfl rfl) rfl ?_
    refine s_skip (yield_Fr rfl rfl) rfl ?_
    refine s_skip (yield_Fr rfl rfl) rfl ?_
    refine s_val (r_pick (v := .bool _) rfl rfl) ?_
    refine s_val (r_move (v := .bool _) rfl) ?_
    refine s_skip (yield_Fr rfl rfl) rfl ?_
    refine s_skip (yield_Fr rfl rfl) rfl ?_
    refine s_skip (yield_Fr rfl rfl) rfl ?_
    refine s_skip (yield_Fr rfl rfl) rfl ?_
    refine s_skip (yield_Fr rfl rfl) rfl ?_
    refine s_val (r_pick (v := .bool _) rfl rfl) ?_
    refine s_val (r_assign (v := .bool _) rfl) ?_
    refine s_nil (e_then (c_ret ?_))
    refine ret_run (res_1 (v := .bool _) rfl rfl) ?_
    refine ⟨?_, M.keep⟩
    first
      | (refine congrArg _ (congrArg _ (decide_eq_false ?_).symm); rintro rfl; simp_all [eqv_true, eqv_false]; done)
      | (refine congrArg _ (congrArg _ ?_); obtain ⟨⟨_, _, _, _, _, _, _, _, _, _, _, _, _, _, _⟩, _, _, _, _, _, _, _, _, _, _, _, _⟩ := d; obtain ⟨⟨_, _, _, _, _, _, _, _, _, _, _, _, _, _, _⟩, _, _, _, _, _, _, _, _, _, _, _, _⟩ := c; simp_all [eqv_true, eqv_false])
  ·
   refine s_skip (yield_Fr rfl rfl) rfl ?_
   refine s_skip (yield_Fr rfl rfl) rfl ?_
   refine s_skip (yield_Fr rfl rfl) rfl ?_
   refine s_skip (yield_Fr rfl rfl) rfl ?_
   refine s_skip (yield_Fr rfl rfl) rfl ?_
   refine s_val (r_pick (v := .bool _) rfl rfl) ?_
   refine s_val (r_move (v := .bool _) rfl) ?_
   refine s_skip (yield_Fr rfl rfl) rfl ?_
   refine s_skip (yield_Fr rfl rfl) rfl ?_
   refine s_skip (yield_Fr rfl rfl) rfl ?_
   refine s_skip (yield_Fr rfl rfl) rfl ?_
   refine s_skip (yield_Fr rfl rfl) rfl ?_
   refine s_val (r_pick (v := .bool _) rfl rfl) ?_
   refine s_val (r_move (v := .bool _) rfl) ?_
   refine s_skip (yield_Fr rfl rfl) rfl ?_
   refine s_skip (yield_Fr rfl rfl) rfl ?_
   refine s_skip (yield_Fr rfl rfl) rfl ?_
   refine s_skip (yield_Fr rfl rfl) rfl ?_
   refine s_skip (yield_Fr rfl rfl) rfl ?_
   refine s_val (r_pick (v := .bool _) rfl rfl) ?_
   refine s_val (r_move (v := .bool _) rfl) ?_
   refine s_skip (yield_Fr rfl rfl) rfl ?_
   refine s_skip (yield_Fr rfl rfl) rfl ?_
   refine s_skip (yield_Fr rfl rfl) rfl ?_
   refine s_skip (yield_Fr rfl rfl) rfl ?_
   refine s_skip (yield_Fr rfl rfl) rfl ?_
   refine s_val (r_pick (v := .bool _) rfl rfl) ?_
   refine s_val (r_move (v := .bool _) rfl) ?_
   refine s_skip (yield_Fr rfl rfl) rfl ?_
   refine s_skip (yield_Fr rfl rfl) rfl ?_
   refine s_skip (yield_Fr rfl rfl) rfl ?_
   refine s_skip (yield_Fr rfl rfl) rfl ?_
   refine s_skip (yield_Fr rfl rfl) rfl ?_
   refine s_val (r_pick (v := .bool _) rfl rfl) ?_
   refine s_val (r_move (v := .bool _) rfl) ?_
   refine s_skip (yield_Fr rfl rfl) rfl ?_
   refine s_skip (yield_Fr rfl rfl) rfl ?_
   refine s_skip (yield_Fr rfl rfl) rfl ?_
   refine s_skip (yield_Fr rfl rfl) rfl ?_
   refine s_skip (yield_Fr rfl rfl) rfl ?_
   refine s_val (r_pick (v := .bool _) rfl rfl) ?_
   refine s_val (r_assign (v := .bool _) rfl) ?_
   refine s_nil (e_then (c_ret ?_))
   refine ret_run (res_1 (v := .bool _) rfl rfl) ?_
   refine ⟨?_, M.keep⟩
   first
     | (refine congrArg _ (congrArg _ (decide_eq_false ?_).symm); rintro rfl; simp_all [eqv_true, eqv_false]; done)
     | (refine congrArg _ (congrArg _ ?_); obtain ⟨⟨_, _, _, _, _, _, _, _, _, _, _, _, _, _, _⟩, _, _, _, _, _, _, _, _, _, _, _, _⟩ := d; obtain ⟨⟨_, _, _, _, _, _, _, _, _, _, _, _, _, _, _⟩, _, _, _, _, _, _, _, _, _, _, _, _⟩ := c; simp_all [eqv_true, eqv_false])
end Go.Proofs.Ytcjnniigonaapaa
