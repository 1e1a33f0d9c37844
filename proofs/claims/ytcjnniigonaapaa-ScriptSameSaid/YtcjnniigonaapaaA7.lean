/-
  WALKS 7: the law's programs.
-/
import Derived.Test.YtcjnniigonaapaaA6
namespace Go.Proofs.Ytcjnniigonaapaa
open Go Go.Az Go.Proofs
set_option maxHeartbeats 4000000
abbrev sins (x : SIns) : List Value := [u8 x.op, u8 x.dst, u8 x.a, u8 x.b, i16 x.imm, bo x.raw]

theorem ins_len (x : Ins) : (ins x).length = 5 := rfl
theorem insOf_wf {x : SIns} (h : x.wf) : (insOf x).wf := by
  obtain ⟨h1, h2, h3, h4, h5⟩ := h
  unfold insOf
  split <;> (simp only [Ins.wf]; omega)
theorem set_wf {p : Prog} (h : p.wf) (k : Nat) : Prog.wf (p.set k mov) := fun y hy => by
  rcases List.mem_or_eq_of_mem_set hy with h1 | h1
  · exact h y h1
  · subst h1; simp [Ins.wf, mov]
theorem progCheckN (s : Sl) (p : Prog) (hp : p.wf) (n : Nat) (hn : n = p.length) (d : Bool) (w0 : World) (h : PrF s p w0) :
    Calls Try.prog 46 #[s.v n, bo d] w0 fun e w' => e = .returned (i64 (progCheck p d)) ∧ Keep [] w0 w' := by
  subst hn; exact progCheckOf s p hp d w0 h

theorem program (sl : Sl) (l : List SIns) (hl : ∀ x ∈ l, x.wf) (d : Bool) (ks : List Nat) (w0 : World) (M : St ks [] w0 w0 [] [LsF sins 6 sl l]) :
    Calls Try.prog 42 #[sl.v l.length, bo d] w0 fun e w' => ∃ v, ∃ g : Sl × Seg, e = .returned v ∧
      (v = g.1.v (progOf l d).length ∧ Own 44 5 g.1 (progOf l d).length ((progOf l d).flatMap ins) g.2) ∧ St ks [] w0 w' [g.2] [] := by
  have hql : ((l.take 20).map insOf).length ≤ 20 := by simp; omega
  have hqw : Prog.wf ((l.take 20).map insOf) := fun y hy => by
    obtain ⟨x, hx, rfl⟩ := List.mem_map.1 hy
    exact insOf_wf (hl x (List.mem_of_mem_take hx))
  generalize hqq : (l.take 20).map insOf = q at hql hqw
  skip
  refine calls_of 135 Try.func42 rfl rfl rfl ?_
  refine c_seq (c_region ?_)
  refine s_val (r_assign (v := .slice _ _ _) rfl) ?_
  refine s_nil (e_then (c_seq (c_region ?_)))
  refine s_val (r_assign (v := .slice _ _ _) rfl) ?_
  refine s_nil (e_then (c_seq (c_seq (c_region ?_))))
  refine s_val (r_move (v := .slice _ _ _) rfl) ?_
  refine s_val (r_len Try.underlying71 rfl) ?_
  refine s_val (r_move (v := .int _ _) rfl) ?_
  refine s_nil (e_then (c_block ?_))
  refine c_loopG [5, 6, 7, 8, 14, 15, 16, 17, 18, 19, 20, 21, 22, 23, 24, 25, 26, 27, 28, 29, 30, 31, 32, 33, 34, 35, 36, 37, 38, 39, 40, 41, 42, 43, 44, 45, 46, 47, 48, 49, 50, 51, 52, 53, 54, 55, 56, 57, 58, 59, 60, 61, 62, 63, 64, 65, 66, 67, 68] (Γ := Nat × Nat × Sl × Seg) (vals := fun (k, n, s, sg) => [(14, i64 k), (5, s.v n)]) (I := fun m (k, n, s, sg) w => m + k = l.length ∧ n = (q.take k).length ∧ Own 44 5 s n ((q.take k).flatMap ins) sg ∧ St ks [] w0 w [sg] [LsF sins 6 sl l]) l.length (0, 0, ⟨none, 0⟩, []) ⟨rfl, rfl, trivial⟩ ⟨rfl, rfl, Own.nil _ _, M.flat rfl⟩ ?_
  rintro m ⟨k, n, s, sg⟩ e w ⟨hk, hn, hO, M⟩
  refine c_seq (c_region ?_)
  refine s_val (r_lss rfl rfl) ?_
  refine s_nil (e_then (c_seq ?_))
  refine c_if rfl (fun h15 => ?_) (fun h15 => ?_)
  ·
   have htop := (M.fact (j := 0) rfl).sl.top
   obtain ⟨x, hx⟩ : ∃ x, l[k]? = some x := ⟨_, List.getElem?_eq_getElem (by omega)⟩
   obtain ⟨b1, o1, ha⟩ := (M.fact (j := 0) rfl).addr (by omega)
   obtain ⟨⟨x1, x2⟩, ⟨x3, x4⟩, ⟨x5, x6⟩, ⟨x7, x8⟩, ⟨x9, x10⟩⟩ := hl x (List.mem_of_getElem? hx)
   refine c_skip (e_then (c_seq (c_block (c_seq (c_region ?_)))))
   refine s_val (r_move (v := .int _ _) rfl) ?_
   refine s_val (r_indexAddrS Try.underlying71 sz126 rfl (ha) rfl (by omega) (by omega) rfl) ?_
   refine s_val (r_loadN (cs := sins x) Try.underlying126 rfl sz126 rfl rfl (fun j v hv => (M.fact (j := 0) rfl).cell ha hx hv)) ?_
   refine a_alloc zr126 cells_agg M ?_
   intro b7 w M
   first | replace M := M.nf (L' := [_, [(_, _)]]) rfl | skip
   refine s_val (r_assign (v := .int _ _) rfl) ?_
   refine a_storeS (v := .agg _) (cs' := [_, _, _, _, _, _]) sz126 M rfl rfl cells_agg (k := 1) (j := 0) rfl rfl rfl rfl rfl rfl ?_
   intro w M
   first | replace M := M.nf (L' := [_, [(_, _)]]) rfl | skip
   refine s_nil (e_then (c_seq (c_region ?_)))
   refine s_val (r_move (v := .int _ _) rfl) ?_
   refine s_val (r_lss rfl rfl) ?_
   refine s_nil (e_then ?_)
   refine c_if rfl (fun h20 => ?_) (fun h20 => ?_)
   ·
    have hk20 : k < 20 := by omega
    have hqk : q[k]? = some (insOf x) := by rw [← hqq, List.getElem?_map, List.getElem?_take_of_lt hk20, hx]; rfl
    have hqk1 : q.take (k + 1) = q.take k ++ [insOf x] := by rw [List.take_add_one, hqk]; rfl
    have hnk : n = k := by
      have := (List.getElem?_eq_some_iff.1 hqk).1
      rw [hn, List.length_take]; omega
    refine c_seq (c_region ?_)
    refine s_val (r_move (v := .slice _ _ _) rfl) ?_
    refine s_val (r_fieldAddr (o' := 0) fb126_0 (by decide) rfl rfl) ?_
    refine a_load1 (v := .int _ _) Try.underlying5 rfl M rfl (k := 1) (j := 0) rfl rfl rfl ?_
    first | (refine s_val (r_rem rfl rfl (by omega) (Int.tmod_eq_emod_of_nonneg (by omega))) ?_) | (refine s_val (r_rem rfl rfl (by omega) rfl) ?_)
    refine s_val (r_fieldAddr (o' := 1) fb126_1 (by decide) rfl rfl) ?_
    refine a_load1 (v := .int _ _) Try.underlying5 rfl M rfl (k := 1) (j := 0) rfl rfl rfl ?_
    first | (refine s_val (r_rem rfl rfl (by omega) (Int.tmod_eq_emod_of_nonneg (by omega))) ?_) | (refine s_val (r_rem rfl rfl (by omega) rfl) ?_)
    refine s_val (r_fieldAddr (o' := 2) fb126_2 (by decide) rfl rfl) ?_
    refine a_load1 (v := .int _ _) Try.underlying5 rfl M rfl (k := 1) (j := 0) rfl rfl rfl ?_
    first | (refine s_val (r_rem rfl rfl (by omega) (Int.tmod_eq_emod_of_nonneg (by omega))) ?_) | (refine s_val (r_rem rfl rfl (by omega) rfl) ?_)
    refine s_val (r_fieldAddr (o' := 3) fb126_3 (by decide) rfl rfl) ?_
    refine a_load1 (v := .int _ _) Try.underlying5 rfl M rfl (k := 1) (j := 0) rfl rfl rfl ?_
    first | (refine s_val (r_rem rfl rfl (by omega) (Int.tmod_eq_emod_of_nonneg (by omega))) ?_) | (refine s_val (r_rem rfl rfl (by omega) rfl) ?_)
    refine s_val (r_fieldAddr (o' := 4) fb126_4 (by decide) rfl rfl) ?_
    refine a_load1 (v := .int _ _) Try.underlying22 rfl M rfl (k := 1) (j := 0) rfl rfl rfl ?_
    refine s_val (r_buildS (cs := [_, _, _, _, _]) zr44 cells_agg pl44 (ps := [(0, .int _ _), (1, .int _ _), (2, .int _ _), (3, .int _ _), (4, .int _ _)]) (qs := [(0, [_]), (1, [_]), (2, [_]), (3, [_]), (4, [_])]) rfl ⟨rfl, rfl, rfl, rfl, rfl, rfl, rfl, rfl, rfl, rfl, rfl, rfl, rfl, rfl, rfl, trivial⟩ rfl) ?_
    refine a_buildSliceS (cs := [_, _, _, _, _]) Try.underlying46 sz44 zr44 cells_agg rfl (by decide) rfl (ps := [(0, .agg _)]) (qs := [(0, [_, _, _, _, _])]) rfl ⟨cells_agg, rfl, rfl, trivial⟩ rfl M ?_
    intro b37 w M
    first | replace M := M.nf (L' := [_, [(_, _)], [(_, _)]]) rfl | skip
    refine a_append 0 Try.underlying46 sz44 by44 zr44 cells_agg rfl M rfl hO rfl rfl (SlF.src Try.underlying46 (slF_lit M (k := 2) (j := 0) rfl rfl rfl rfl) rfl) (by simp only [maxLen]; omega) (by omega) ?_
    intro s1 sg1 w hO1 M
    first | replace M := M.nf (L' := [_, [(_, _)], [(_, _)]]) rfl | skip
    refine s_val (r_assign (v := .slice _ _ _) rfl) ?_
    refine s_nil (e_then (c_seq (c_region ?_)))
    obtain ⟨y, hy⟩ : ∃ y : Ins, y = ⟨x.op % 15, x.dst % 12, x.a % 9, x.b % 12, x.imm⟩ := ⟨_, rfl⟩
    have hO2 : Own 44 5 s1 (n + 1) ((q.take k ++ [y]).flatMap ins) sg1 := by rw [List.flatMap_append, hy]; exact hO1
    have hyk : (q.take k ++ [y])[k]? = some y := by rw [List.getElem?_append_right (by omega)]; simp [← hn, hnk]
    have hnl : n + 1 = (q.take k ++ [y]).length := by simp [hn]
    obtain ⟨b, cur, hs1, rfl, hcl, hcc⟩ := hO2.blk (by omega)
    refine s_val (r_move (v := .slice _ _ _) rfl) ?_
    refine s_val (r_move (v := .int _ _) rfl) ?_
    refine s_val (r_indexAddrS Try.underlying46 sz44 rfl (hs1) rfl (by omega) (by omega) rfl) ?_
    refine s_val (r_assign (v := .pointer _) rfl) ?_
    refine s_nil (e_then (c_seq (c_region ?_)))
    refine s_val (r_move (v := .pointer _) rfl) ?_
    refine s_val (r_nil rfl) ?_
    refine s_val (r_fieldAddr fb44_0 (by decide) rfl rfl) ?_
    refine s_val (r_load1 (v := .int _ _) Try.underlying42 rfl rfl ((hO2.lsAt hnl ins_len (by decide) M (k := 0) rfl).cell hs1 hyk (j := 0) rfl)) ?_
    refine s_val (r_eql rfl rfl) ?_
    refine s_val (r_move (v := .bool _) rfl) ?_
    refine s_splitD 47 rfl (fun g47 => ?_) (fun g47 => ?_)
    ·
     refine s_skip (yield_Fr rfl rfl) rfl ?_
     refine s_skip (yield_Fr rfl rfl) rfl ?_
     refine s_skip (yield_Fr rfl rfl) rfl ?_
     refine s_skip (yield_Fr rfl rfl) rfl ?_
     refine s_skip (yield_Fr rfl rfl) rfl ?_
     refine s_val (r_pick (v := .bool _) rfl rfl) ?_
     refine s_nil (e_then ?_)
     refine c_yes rfl (by decide) ?_
     refine c_drawT (by kernel_rfl) [(.q, 0), (.q, 2), (.q, 3), (.q, 4), (.q, 5), (.q, 10), (.q, 11), (.ch, 12), (.q, 1), (.q, 6), (.q, 7), (.q, 8), (.q, 9), (.q, 13), (.q, 14)] [15] [[], [], [], [2], [2, 3], [2, 3, 4], [], [6], [6, 7], [6, 7, 8], [0, 2, 3, 4, 5], [0, 2, 3, 4, 5, 10], [0, 2, 3, 4, 5, 10, 11], [0, 1, 2, 3, 4, 5, 6, 7, 8, 9, 10, 11, 12], [0, 1, 2, 3, 4, 5, 6, 7, 8, 9, 10, 11, 12, 13], [0, 1, 2, 3, 4, 5, 6, 7, 8, 9, 10, 11, 12, 13, 14]] (by kernel_rfl) [0] M ?_
     refine w_val rfl wt_none (fun w => (r_move (v := .pointer _) rfl)) ?_
     refine w_val rfl wt_none (fun w => (r_fieldAddr (o' := 3) fb126_3 (by decide) rfl rfl)) ?_
     refine w_read (v := .int _ _) rfl wt_none (fun w X G' M => r_load1 Try.underlying5 rfl rfl (M.cell (k := 1) (j := 0) rfl rfl rfl)) ?_
     first | (refine w_val rfl wt_none (fun w => (r_rem rfl rfl (by omega) (Int.tmod_eq_emod_of_nonneg (by omega)))) ?_) | (refine w_val rfl wt_none (fun w => (r_rem rfl rfl (by omega) rfl)) ?_)
     first | (refine w_val rfl wt_none (fun w => (r_add rfl rfl (w8 (by omega) (by omega)))) ?_) | (refine w_val rfl wt_none (fun w => (r_add rfl rfl rfl)) ?_)
     refine w_val rfl wt_none (fun w => (r_nil rfl)) ?_
     refine w_val rfl wt_none (fun w => (r_fieldAddr fb44_3 (by decide) rfl rfl)) ?_
     refine w_store (v := .int _ _) (k := 0) (j := 0) rfl wt_none sz5 rfl rfl rfl rfl rfl rfl rfl (Nat.ble_eq_true_of_le (show 0 + k * 5 + 3 + 1 ≤ cur.length by omega)) (by repeat (first | exact trivial | refine ⟨.inr rfl, ?_⟩ | refine ⟨.inl rfl, ?_⟩)) (fun _ h => h) ?_
     first | refine w_nf (L' := [_, [(_, _)], [(_, _)]]) rfl ?_ | skip
     refine w_val rfl wt_none (fun w => (r_move (v := .pointer _) rfl)) ?_
     refine w_val rfl wt_none (fun w => (r_fieldAddr (o' := 4) fb126_4 (by decide) rfl rfl)) ?_
     refine w_read (v := .int _ _) rfl wt_none (fun w X G' M => r_load1 Try.underlying22 rfl rfl (M.cell (k := 1) (j := 0) rfl rfl rfl)) ?_
     refine w_val rfl wt_none (fun w => (r_and rfl rfl and3)) ?_
     first | (refine w_val rfl wt_none (fun w => (r_add rfl rfl (w16 (by omega) (by omega)))) ?_) | (refine w_val rfl wt_none (fun w => (r_add rfl rfl rfl)) ?_)
     refine w_val rfl wt_none (fun w => (r_nil rfl)) ?_
     refine w_val rfl wt_none (fun w => (r_fieldAddr fb44_4 (by decide) rfl rfl)) ?_
     refine w_nil ?_
     intro w M
     refine a_store (v := .int _ _) sz22 M rfl rfl rfl (k := 0) (j := 0) rfl rfl rfl rfl (Nat.ble_eq_true_of_le (show 0 + k * 5 + 4 + 1 ≤ (spl cur (0 + k * 5 + 3) [u8 (1 + x.b % 4)]).length by rw [spl_length (by simp; omega)]; omega)) ?_
     intro w M
     first | replace M := M.nf (L' := [_, [(_, _)], [(_, _)]]) rfl | skip
     refine s_nil (e_blk (e_then (c_region ?_)))
     first | (refine s_val (r_add rfl rfl (w64 (by omega) (by omega))) ?_) | (refine s_val (r_add rfl rfl rfl) ?_)
     refine s_val (r_move (v := .int _ _) rfl) ?_
     refine s_nil (e_then ?_)
     have hop : y.op = 12 ∨ y.op = 11 := by first | exact .inl g47 | exact .inr h53
     have hA := hO2.put ins_len (x' := { y with b := 1 + x.b % 4 }) (j := 3) (o := 0 + k * 5 + 3) (vs := [u8 (1 + x.b % 4)]) hyk rfl (Nat.le_of_ble_eq_true rfl) (by omega) hnl
     rw [set_last (by omega)] at hA
     have hB := hA.put ins_len (k := k) (x := { y with b := 1 + x.b % 4 }) (x' := { y with b := 1 + x.b % 4, imm := 1 + x.imm % 4 }) (j := 4) (o := 0 + k * 5 + 4) (vs := [i16 (1 + x.imm % 4)]) (by rw [List.getElem?_append_right (by omega)]; simp [← hn, hnk]) rfl (Nat.le_of_ble_eq_true rfl) (by omega) (by simp [hn])
     rw [set_last (by omega)] at hB
     have hio : insOf x = { y with b := 1 + x.b % 4, imm := 1 + x.imm % 4 } := by subst hy; unfold insOf; rw [if_pos hop]
     rw [← hio, ← hqk1] at hB
     exact loop_end (m - 1) (k + 1, n + 1, s1, _) (by repeat (first | exact ag_refl | exact ag_mask rfl ag_refl | refine ag_upd rfl ?_ | refine ag_mask rfl ?_)) ⟨i64succ k, rfl, trivial⟩ (by omega) ⟨by omega, by rw [hqk1]; simp [hn], hB, M.only ⟨.inr rfl, trivial⟩ ⟨rfl, trivial⟩⟩
    ·
     refine s_unguard (yield_Fr rfl rfl) rfl ?_
     refine s_val (r_move (v := .pointer _) rfl) ?_
     refine s_unguard (yield_Fr rfl rfl) rfl ?_
     refine s_val (r_nil rfl) ?_
     refine s_unguard (yield_Fr rfl rfl) rfl ?_
     refine s_val (r_fieldAddr fb44_0 (by decide) rfl rfl) ?_
     refine s_unguard (yield_Fr rfl rfl) rfl ?_
     refine s_val (r_load1 (v := .int _ _) Try.underlying42 rfl rfl ((hO2.lsAt hnl ins_len (by decide) M (k := 0) rfl).cell hs1 hyk (j := 0) rfl)) ?_
     refine s_unguard (yield_Fr rfl rfl) rfl ?_
     refine s_val (r_eql rfl rfl) ?_
     refine s_val (r_pick (v := .bool _) rfl rfl) ?_
     refine s_nil (e_then ?_)
     refine c_if rfl (fun h53 => ?_) (fun h53 => ?_)
     ·
      refine c_drawT (by kernel_rfl) [(.q, 0), (.q, 2), (.q, 3), (.q, 4), (.q, 5), (.q, 10), (.q, 11), (.ch, 12), (.q, 1), (.q, 6), (.q, 7), (.q, 8), (.q, 9), (.q, 13), (.q, 14)] [15] [[], [], [], [2], [2, 3], [2, 3, 4], [], [6], [6, 7], [6, 7, 8], [0, 2, 3, 4, 5], [0, 2, 3, 4, 5, 10], [0, 2, 3, 4, 5, 10, 11], [0, 1, 2, 3, 4, 5, 6, 7, 8, 9, 10, 11, 12], [0, 1, 2, 3, 4, 5, 6, 7, 8, 9, 10, 11, 12, 13], [0, 1, 2, 3, 4, 5, 6, 7, 8, 9, 10, 11, 12, 13, 14]] (by kernel_rfl) [0] M ?_
      refine w_val rfl wt_none (fun w => (r_move (v := .pointer _) rfl)) ?_
      refine w_val rfl wt_none (fun w => (r_fieldAddr (o' := 3) fb126_3 (by decide) rfl rfl)) ?_
      refine w_read (v := .int _ _) rfl wt_none (fun w X G' M => r_load1 Try.underlying5 rfl rfl (M.cell (k := 1) (j := 0) rfl rfl rfl)) ?_
      first | (refine w_val rfl wt_none (fun w => (r_rem rfl rfl (by omega) (Int.tmod_eq_emod_of_nonneg (by omega)))) ?_) | (refine w_val rfl wt_none (fun w => (r_rem rfl rfl (by omega) rfl)) ?_)
      first | (refine w_val rfl wt_none (fun w => (r_add rfl rfl (w8 (by omega) (by omega)))) ?_) | (refine w_val rfl wt_none (fun w => (r_add rfl rfl rfl)) ?_)
      refine w_val rfl wt_none (fun w => (r_nil rfl)) ?_
      refine w_val rfl wt_none (fun w => (r_fieldAddr fb44_3 (by decide) rfl rfl)) ?_
      refine w_store (v := .int _ _) (k := 0) (j := 0) rfl wt_none sz5 rfl rfl rfl rfl rfl rfl rfl (Nat.ble_eq_true_of_le (show 0 + k * 5 + 3 + 1 ≤ cur.length by omega)) (by repeat (first | exact trivial | refine ⟨.inr rfl, ?_⟩ | refine ⟨.inl rfl, ?_⟩)) (fun _ h => h) ?_
      first | refine w_nf (L' := [_, [(_, _)], [(_, _)]]) rfl ?_ | skip
      refine w_val rfl wt_none (fun w => (r_move (v := .pointer _) rfl)) ?_
      refine w_val rfl wt_none (fun w => (r_fieldAddr (o' := 4) fb126_4 (by decide) rfl rfl)) ?_
      refine w_read (v := .int _ _) rfl wt_none (fun w X G' M => r_load1 Try.underlying22 rfl rfl (M.cell (k := 1) (j := 0) rfl rfl rfl)) ?_
      refine w_val rfl wt_none (fun w => (r_and rfl rfl and3)) ?_
      first | (refine w_val rfl wt_none (fun w => (r_add rfl rfl (w16 (by omega) (by omega)))) ?_) | (refine w_val rfl wt_none (fun w => (r_add rfl rfl rfl)) ?_)
      refine w_val rfl wt_none (fun w => (r_nil rfl)) ?_
      refine w_val rfl wt_none (fun w => (r_fieldAddr fb44_4 (by decide) rfl rfl)) ?_
      refine w_nil ?_
      intro w M
      refine a_store (v := .int _ _) sz22 M rfl rfl rfl (k := 0) (j := 0) rfl rfl rfl rfl (Nat.ble_eq_true_of_le (show 0 + k * 5 + 4 + 1 ≤ (spl cur (0 + k * 5 + 3) [u8 (1 + x.b % 4)]).length by rw [spl_length (by simp; omega)]; omega)) ?_
      intro w M
      first | replace M := M.nf (L' := [_, [(_, _)], [(_, _)]]) rfl | skip
      refine s_nil (e_blk (e_then (c_region ?_)))
      first | (refine s_val (r_add rfl rfl (w64 (by omega) (by omega))) ?_) | (refine s_val (r_add rfl rfl rfl) ?_)
      refine s_val (r_move (v := .int _ _) rfl) ?_
      refine s_nil (e_then ?_)
      have hop : y.op = 12 ∨ y.op = 11 := by first | exact .inl g47 | exact .inr h53
      have hA := hO2.put ins_len (x' := { y with b := 1 + x.b % 4 }) (j := 3) (o := 0 + k * 5 + 3) (vs := [u8 (1 + x.b % 4)]) hyk rfl (Nat.le_of_ble_eq_true rfl) (by omega) hnl
      rw [set_last (by omega)] at hA
      have hB := hA.put ins_len (k := k) (x := { y with b := 1 + x.b % 4 }) (x' := { y with b := 1 + x.b % 4, imm := 1 + x.imm % 4 }) (j := 4) (o := 0 + k * 5 + 4) (vs := [i16 (1 + x.imm % 4)]) (by rw [List.getElem?_append_right (by omega)]; simp [← hn, hnk]) rfl (Nat.le_of_ble_eq_true rfl) (by omega) (by simp [hn])
      rw [set_last (by omega)] at hB
      have hio : insOf x = { y with b := 1 + x.b % 4, imm := 1 + x.imm % 4 } := by subst hy; unfold insOf; rw [if_pos hop]
      rw [← hio, ← hqk1] at hB
      exact loop_end (m - 1) (k + 1, n + 1, s1, _) (by repeat (first | exact ag_refl | exact ag_mask rfl ag_refl | refine ag_upd rfl ?_ | refine ag_mask rfl ?_)) ⟨i64succ k, rfl, trivial⟩ (by omega) ⟨by omega, by rw [hqk1]; simp [hn], hB, M.only ⟨.inr rfl, trivial⟩ ⟨rfl, trivial⟩⟩
     ·
      refine c_skip (e_blk (e_then (c_region ?_)))
      first | (refine s_val (r_add rfl rfl (w64 (by omega) (by omega))) ?_) | (refine s_val (r_add rfl rfl rfl) ?_)
      refine s_val (r_move (v := .int _ _) rfl) ?_
      refine s_nil (e_then ?_)
      have hop : ¬ (y.op = 12 ∨ y.op = 11) := by
        rintro (h | h)
        · exact g47 h
        · exact h53 h
      have hio : insOf x = y := by subst hy; unfold insOf; rw [if_neg hop]
      rw [← hio, ← hqk1] at hO2
      exact loop_end (m - 1) (k + 1, n + 1, s1, _) (by repeat (first | exact ag_refl | exact ag_mask rfl ag_refl | refine ag_upd rfl ?_ | refine ag_mask rfl ?_)) ⟨i64succ k, rfl, trivial⟩ (by omega) ⟨by omega, by rw [hqk1]; simp [hn], hO2, M.only ⟨.inr rfl, trivial⟩ ⟨rfl, trivial⟩⟩
   ·
    refine c_skip (e_blk (e_then (c_region ?_)))
    first | (refine s_val (r_add rfl rfl (w64 (by omega) (by omega))) ?_) | (refine s_val (r_add rfl rfl rfl) ?_)
    refine s_val (r_move (v := .int _ _) rfl) ?_
    refine s_nil (e_then ?_)
    have hsame : q.take (k + 1) = q.take k := by rw [List.take_of_length_le (by omega), List.take_of_length_le (by omega)]
    exact loop_end (m - 1) (k + 1, n, s, sg) (by repeat (first | exact ag_refl | exact ag_mask rfl ag_refl | refine ag_upd rfl ?_ | refine ag_mask rfl ?_)) ⟨i64succ k, rfl, trivial⟩ (by omega) ⟨by omega, by rw [hsame]; exact hn, by rw [hsame]; exact hO, M.only ⟨.inr rfl, trivial⟩ ⟨rfl, trivial⟩⟩
  ·
   have hqf : q.take k = q := List.take_of_length_le (by rw [← hqq]; simp; omega)
   rw [hqf] at hn hO
   refine c_exit (e_then_exit (e_then_exit (e_blk_here (e_then (c_seq (c_seq (c_region ?_)))))))
   refine s_val (r_move (v := .int _ _) rfl) ?_
   refine s_nil (e_then (c_block ?_))
   refine c_loopG [9, 10, 11, 69, 70, 71, 72, 73, 74, 75, 76, 77, 78, 79, 80, 81, 82, 83, 84, 85, 86, 87, 88, 89, 90, 91, 92, 93, 94, 95, 96, 97, 98, 99, 100, 101, 102, 103, 104, 105, 106, 107, 108, 109, 110, 111, 112, 113, 114, 115, 116, 117, 118, 119, 120, 121, 122, 123, 124, 125, 126, 127, 128, 129, 130, 131, 132, 133] (Γ := Nat × Prog × Seg) (vals := fun (c, p, sg) => [(69, i64 c)]) (I := fun m (c, p, sg) w => m + c = 60 ∧ fixGo d m p = progOf l d ∧ n = p.length ∧ Prog.wf p ∧ p.length ≤ 20 ∧ Own 44 5 s n (p.flatMap ins) sg ∧ St ks [] w0 w [sg] [LsF sins 6 sl l]) 60 (0, q, sg) ⟨rfl, trivial⟩ ⟨rfl, by rw [progOf, hqq], hn, hqw, hql, hO, M⟩ ?_
   rintro m ⟨c, p, sg⟩ e w ⟨hk, hg, hn, hw, hp20, hO, M⟩
   refine c_seq (c_region ?_)
   refine s_val (r_lss rfl rfl) ?_
   refine s_nil (e_then (c_seq ?_))
   refine c_if rfl (fun h70 => ?_) (fun h70 => ?_)
   ·
    obtain ⟨m, rfl⟩ : ∃ j, m = j + 1 := ⟨m - 1, by omega⟩
    refine c_skip (e_then (c_seq (c_block (c_seq (c_region ?_)))))
    refine s_val (r_assign (v := .int _ _) rfl) ?_
    refine s_nil (e_then (c_seq (c_seq (c_region ?_))))
    refine s_val (r_move (v := .slice _ _ _) rfl) ?_
    refine s_val (r_len Try.underlying46 rfl) ?_
    refine s_val (r_move (v := .int _ _) rfl) ?_
    refine s_nil (e_then (c_block ?_))
    refine c_loopG [9, 10, 11, 73, 74, 75, 76, 77, 78, 79, 80, 81, 82, 83, 84, 85, 86, 87, 88, 89, 90, 91, 92, 93, 94, 95, 96, 97, 98, 99, 100, 101, 102, 103, 104, 105, 106, 107, 108, 109, 110, 111, 112, 113, 114, 115, 116, 117, 118, 119, 120, 121, 122, 123, 124, 125, 126] (Γ := Nat × Int) (vals := fun (k, r) => [(73, i64 k), (9, i64 r)]) (I := fun j (k, r) w => j + k = p.length ∧ badGo p d j k r = badOf p d ∧ (-1 ≤ r ∧ r < p.length) ∧ St ks [] w0 w [sg] [LsF sins 6 sl l]) p.length (0, -1) ⟨rfl, rfl, trivial⟩ ⟨rfl, rfl, by omega, M⟩ ?_
    rintro j ⟨k, r⟩ e2 w ⟨hj, hb, hr, M⟩
    refine c_seq (c_region ?_)
    refine s_val (r_lss rfl rfl) ?_
    refine s_nil (e_then (c_seq ?_))
    refine c_if rfl (fun h74 => ?_) (fun h74 => ?_)
    ·
     obtain ⟨x, hx⟩ : ∃ x, p[k]? = some x := ⟨_, List.getElem?_eq_getElem (by omega)⟩
     obtain ⟨j, rfl⟩ : ∃ i, j = i + 1 := ⟨j - 1, by omega⟩
     have hins := insAt_of hx
     obtain ⟨b0, cur0, ha0, rfl, hcl0, hcc0⟩ := hO.blk (by omega)
     refine c_skip (e_then (c_seq (c_block (c_seq (c_region ?_)))))
     refine s_val (r_move (v := .int _ _) rfl) ?_
     refine s_val (r_assign (v := .int _ _) rfl) ?_
     refine s_nil (e_then (c_seq (c_region ?_)))
     refine a_buildSliceS (cs := []) Try.underlying46 sz44 zr44 cells_agg rfl (by decide) rfl (ps := []) (qs := []) rfl trivial rfl M ?_
     intro b76 w M
     first | replace M := M.nf (L' := [_, [(_, _)]]) rfl | skip
     refine s_val (r_move (v := .slice _ _ _) rfl) ?_
     refine a_append 1 Try.underlying46 sz44 by44 zr44 cells_agg rfl M rfl (own_lit (n := 0) rfl (by decide)) rfl rfl (Own.src Try.underlying46 (one_flat (fun _ => rfl) _) (by decide) M (k := 0) rfl hO) (by simp only [maxLen]; omega) (by omega) ?_
     intro s1 sg1 w hO1 M
     first | replace M := M.nf (L' := [_, _]) rfl | skip
     refine s_val (r_assign (v := .slice _ _ _) rfl) ?_
     refine s_nil (e_then (c_seq (c_region ?_)))
     have hq0 : Own 44 5 s1 (0 + n) (p.flatMap ins) sg1 := by simpa [fillL, zeros] using hO1
     obtain ⟨b2, cur2, ha2, rfl, hcl2, hcc2⟩ := hq0.blk (by omega)
     have hq2 : Own 44 5 s1 (0 + n) ((p.set k mov).flatMap ins) [(b2, C (spl cur2 (0 + k * 5) (ins mov)) 44)] := hq0.put ins_len hx (j := 0) rfl (by decide) (by omega) (by omega)
     refine s_val (r_move (v := .slice _ _ _) rfl) ?_
     refine s_val (r_move (v := .int _ _) rfl) ?_
     refine s_val (r_buildS (cs := [_, _, _, _, _]) zr44 cells_agg pl44 (ps := [(0, .int _ _)]) (qs := [(0, [_])]) rfl ⟨rfl, rfl, rfl, trivial⟩ rfl) ?_
     refine s_val (r_indexAddrS Try.underlying46 sz44 rfl (ha2) rfl (by omega) (by omega) rfl) ?_
     refine a_store (v := .agg _) sz44 M rfl rfl cells_agg (k := 1) (j := 0) rfl rfl rfl rfl (Nat.ble_eq_true_of_le (show 0 + k * 5 + 5 ≤ cur2.length by omega)) ?_
     intro w M
     first | replace M := M.nf (L' := [_, _]) rfl | skip
     refine s_nil (e_then (c_seq (c_region ?_)))
     refine s_val (r_move (v := .int _ _) rfl) ?_
     refine s_val (r_lss rfl rfl) ?_
     refine s_val (r_move (v := .bool _) rfl) ?_
     refine s_splitD 85 rfl (fun g85 => ?_) (fun g85 => ?_)
     ·
      refine s_unguard (yield_Fr rfl rfl) rfl ?_
      refine s_val (r_move (v := .slice _ _ _) rfl) ?_
      refine s_unguard (yield_Fr rfl rfl) rfl ?_
      refine s_val (r_move (v := .bool _) rfl) ?_
      refine s_unguard (yield_Fr rfl rfl) rfl ?_
      refine s_callP (cl46 rfl) (progCheckN _ p hw _ hn d _ (hO.lsAt hn ins_len (by decide) M (k := 0) rfl)) M ?_
      intro w M
      refine s_unguard (yield_Fr rfl rfl) rfl ?_
      refine s_val (r_neq rfl rfl) ?_
      refine s_val (r_pick (v := .bool _) rfl rfl) ?_
      refine s_val (r_move (v := .bool _) rfl) ?_
      refine s_splitD 91 rfl (fun g91 => ?_) (fun g91 => ?_)
      ·
       refine s_unguard (yield_Fr rfl rfl) rfl ?_
       refine s_val (r_move (v := .slice _ _ _) rfl) ?_
       refine s_unguard (yield_Fr rfl rfl) rfl ?_
       refine s_val (r_move (v := .bool _) rfl) ?_
       refine s_unguard (yield_Fr rfl rfl) rfl ?_
       refine s_callP (cl46 rfl) (progCheckN _ (p.set k mov) (set_wf hw k) _ (by simp; omega) d _ (hq2.lsAt (by simp; omega) ins_len (by decide) M (k := 1) rfl)) M ?_
       intro w M
       refine s_unguard (yield_Fr rfl rfl) rfl ?_
       refine s_val (r_eql rfl rfl) ?_
       refine s_unguard (yield_Fr rfl rfl) rfl ?_
       refine s_val (r_move (v := .bool _) rfl) ?_
       refine s_splitD 96 rfl (fun g96 => ?_) (fun g96 => ?_)
       ·
        refine s_skip (yield_Fr rfl rfl) rfl ?_
        refine s_skip (yield_Fr rfl rfl) rfl ?_
        refine s_skip (yield_Fr rfl rfl) rfl ?_
        refine s_skip (yield_Fr rfl rfl) rfl ?_
        refine s_skip (yield_Fr rfl rfl) rfl ?_
        refine s_skip (yield_Fr rfl rfl) rfl ?_
        refine s_unguard (yield_Fr rfl rfl) rfl ?_
        refine s_val (r_pick (v := .bool _) rfl rfl) ?_
        refine s_unguard (yield_Fr rfl rfl) rfl ?_
        refine s_val (r_move (v := .bool _) rfl) ?_
        refine s_skip (yield_Fr rfl rfl) rfl ?_
        refine s_skip (yield_Fr rfl rfl) rfl ?_
        refine s_skip (yield_Fr rfl rfl) rfl ?_
        refine s_skip (yield_Fr rfl rfl) rfl ?_
        refine s_skip (yield_Fr rfl rfl) rfl ?_
        refine s_skip (yield_Fr rfl rfl) rfl ?_
        refine s_unguard (yield_Fr rfl rfl) rfl ?_
        refine s_val (r_pick (v := .bool _) rfl rfl) ?_
        refine s_unguard (yield_Fr rfl rfl) rfl ?_
        refine s_val (r_move (v := .bool _) rfl) ?_
        refine s_skip (yield_Fr rfl rfl) rfl ?_
        refine s_skip (yield_Fr rfl rfl) rfl ?_
        refine s_skip (yield_Fr rfl rfl) rfl ?_
        refine s_skip (yield_Fr rfl rfl) rfl ?_
        refine s_skip (yield_Fr rfl rfl) rfl ?_
        refine s_skip (yield_Fr rfl rfl) rfl ?_
        refine s_skip (yield_Fr rfl rfl) rfl ?_
        refine s_skipU (yield_U rfl rfl) ?_
        refine s_skipU (yield_U rfl rfl) ?_
        refine s_skip (yield_Fr rfl rfl) rfl ?_
        refine s_unguard (yield_Fr rfl rfl) rfl ?_
        refine s_val (r_pick (v := .bool _) rfl rfl) ?_
        refine s_val (r_pick (v := .bool _) rfl rfl) ?_
        refine s_nil (e_then ?_)
        refine c_yes rfl (by decide) ?_
        refine c_region ?_
        have hbad : r < 0 ∧ isBad p d k = true := ⟨g85, by
          simp only [isBad, hins, Bool.and_eq_true, Bool.or_eq_true, bne_iff_ne, beq_iff_eq, ne_eq]
          exact ⟨g91, by first | exact .inl (.inl (.inl g96)) | exact .inl (.inl (.inr g104)) | exact .inl (.inr g112) | exact .inr ⟨g119, h124⟩⟩⟩
        refine s_val (r_move (v := .int _ _) rfl) ?_
        refine s_val (r_assign (v := .int _ _) rfl) ?_
        refine s_nil (e_blk (e_then (c_region ?_)))
        first | (refine s_val (r_add rfl rfl (w64 (by omega) (by omega))) ?_) | (refine s_val (r_add rfl rfl rfl) ?_)
        refine s_val (r_move (v := .int _ _) rfl) ?_
        refine s_nil (e_then ?_)
        first
          | exact loop_end j (k + 1, (k : Int)) (by repeat (first | exact ag_refl | exact ag_mask rfl ag_refl | refine ag_upd rfl ?_ | refine ag_mask rfl ?_)) ⟨i64succ k, rfl, trivial⟩ (by omega) ⟨by omega, by rw [← hb, badGo, if_pos hbad], by omega, M.only ⟨.inr rfl, trivial⟩ ⟨rfl, trivial⟩⟩
          | (have hnb : ¬ (r < 0 ∧ isBad p d k = true) := by
               rintro ⟨a1, a2⟩
               simp only [isBad, hins, Bool.and_eq_true, Bool.or_eq_true, bne_iff_ne, beq_iff_eq, ne_eq] at a2
               obtain ⟨a3, a4⟩ := a2
               first
                 | exact g85 a1
                 | exact g91 a3
                 | (rcases a4 with ((a4 | a4) | a4) | ⟨a4, a5⟩
                    · exact g96 a4
                    · exact g104 a4
                    · exact g112 a4
                    · first | exact g119 a4 | (rw [a5] at h124; cases h124))
             exact loop_end j (k + 1, r) (by repeat (first | exact ag_refl | exact ag_mask rfl ag_refl | refine ag_upd rfl ?_ | refine ag_mask rfl ?_)) ⟨i64succ k, rfl, trivial⟩ (by omega) ⟨by omega, by rw [← hb, badGo, if_neg hnb], by omega, M.only ⟨.inr rfl, trivial⟩ ⟨rfl, trivial⟩⟩)
       ·
        refine s_unguard (yield_Fr rfl rfl) rfl ?_
        refine s_val (r_move (v := .slice _ _ _) rfl) ?_
        refine s_unguard (yield_Fr rfl rfl) rfl ?_
        refine s_val (r_move (v := .int _ _) rfl) ?_
        refine s_unguard (yield_Fr rfl rfl) rfl ?_
        refine s_val (r_indexAddrS Try.underlying46 sz44 rfl (ha0) rfl (by omega) (by omega) rfl) ?_
        refine s_unguard (yield_Fr rfl rfl) rfl ?_
        refine s_val (r_fieldAddr fb44_0 (by decide) rfl rfl) ?_
        refine s_unguard (yield_Fr rfl rfl) rfl ?_
        refine s_val (r_load1 (v := .int _ _) Try.underlying42 rfl rfl ((hO.lsAt hn ins_len (by decide) M (k := 0) rfl).cell ha0 hx (j := 0) rfl)) ?_
        refine s_unguard (yield_Fr rfl rfl) rfl ?_
        refine s_val (r_eql rfl rfl) ?_
        refine s_unguard (yield_Fr rfl rfl) rfl ?_
        refine s_val (r_pick (v := .bool _) rfl rfl) ?_
        refine s_unguard (yield_Fr rfl rfl) rfl ?_
        refine s_val (r_move (v := .bool _) rfl) ?_
        refine s_splitD 104 rfl (fun g104 => ?_) (fun g104 => ?_)
        ·
         refine s_skip (yield_Fr rfl rfl) rfl ?_
         refine s_skip (yield_Fr rfl rfl) rfl ?_
         refine s_skip (yield_Fr rfl rfl) rfl ?_
         refine s_skip (yield_Fr rfl rfl) rfl ?_
         refine s_skip (yield_Fr rfl rfl) rfl ?_
         refine s_skip (yield_Fr rfl rfl) rfl ?_
         refine s_unguard (yield_Fr rfl rfl) rfl ?_
         refine s_val (r_pick (v := .bool _) rfl rfl) ?_
         refine s_unguard (yield_Fr rfl rfl) rfl ?_
         refine s_val (r_move (v := .bool _) rfl) ?_
         refine s_skip (yield_Fr rfl rfl) rfl ?_
         refine s_skip (yield_Fr rfl rfl) rfl ?_
         refine s_skip (yield_Fr rfl rfl) rfl ?_
         refine s_skip (yield_Fr rfl rfl) rfl ?_
         refine s_skip (yield_Fr rfl rfl) rfl ?_
         refine s_skip (yield_Fr rfl rfl) rfl ?_
         refine s_skip (yield_Fr rfl rfl) rfl ?_
         refine s_skipU (yield_U rfl rfl) ?_
         refine s_skipU (yield_U rfl rfl) ?_
         refine s_skip (yield_Fr rfl rfl) rfl ?_
         refine s_unguard (yield_Fr rfl rfl) rfl ?_
         refine s_val (r_pick (v := .bool _) rfl rfl) ?_
         refine s_val (r_pick (v := .bool _) rfl rfl) ?_
         refine s_nil (e_then ?_)
         refine c_yes rfl (by decide) ?_
         refine c_region ?_
         have hbad : r < 0 ∧ isBad p d k = true := ⟨g85, by
           simp only [isBad, hins, Bool.and_eq_true, Bool.or_eq_true, bne_iff_ne, beq_iff_eq, ne_eq]
           exact ⟨g91, by first | exact .inl (.inl (.inl g96)) | exact .inl (.inl (.inr g104)) | exact .inl (.inr g112) | exact .inr ⟨g119, h124⟩⟩⟩
         refine s_val (r_move (v := .int _ _) rfl) ?_
         refine s_val (r_assign (v := .int _ _) rfl) ?_
         refine s_nil (e_blk (e_then (c_region ?_)))
         first | (refine s_val (r_add rfl rfl (w64 (by omega) (by omega))) ?_) | (refine s_val (r_add rfl rfl rfl) ?_)
         refine s_val (r_move (v := .int _ _) rfl) ?_
         refine s_nil (e_then ?_)
         first
           | exact loop_end j (k + 1, (k : Int)) (by repeat (first | exact ag_refl | exact ag_mask rfl ag_refl | refine ag_upd rfl ?_ | refine ag_mask rfl ?_)) ⟨i64succ k, rfl, trivial⟩ (by omega) ⟨by omega, by rw [← hb, badGo, if_pos hbad], by omega, M.only ⟨.inr rfl, trivial⟩ ⟨rfl, trivial⟩⟩
           | (have hnb : ¬ (r < 0 ∧ isBad p d k = true) := by
                rintro ⟨a1, a2⟩
                simp only [isBad, hins, Bool.and_eq_true, Bool.or_eq_true, bne_iff_ne, beq_iff_eq, ne_eq] at a2
                obtain ⟨a3, a4⟩ := a2
                first
                  | exact g85 a1
                  | exact g91 a3
                  | (rcases a4 with ((a4 | a4) | a4) | ⟨a4, a5⟩
                     · exact g96 a4
                     · exact g104 a4
                     · exact g112 a4
                     · first | exact g119 a4 | (rw [a5] at h124; cases h124))
              exact loop_end j (k + 1, r) (by repeat (first | exact ag_refl | exact ag_mask rfl ag_refl | refine ag_upd rfl ?_ | refine ag_mask rfl ?_)) ⟨i64succ k, rfl, trivial⟩ (by omega) ⟨by omega, by rw [← hb, badGo, if_neg hnb], by omega, M.only ⟨.inr rfl, trivial⟩ ⟨rfl, trivial⟩⟩)
        ·
         refine s_unguard (yield_Fr rfl rfl) rfl ?_
         refine s_val (r_move (v := .slice _ _ _) rfl) ?_
         refine s_unguard (yield_Fr rfl rfl) rfl ?_
         refine s_val (r_move (v := .int _ _) rfl) ?_
         refine s_unguard (yield_Fr rfl rfl) rfl ?_
         refine s_val (r_indexAddrS Try.underlying46 sz44 rfl (ha0) rfl (by omega) (by omega) rfl) ?_
         refine s_unguard (yield_Fr rfl rfl) rfl ?_
         refine s_val (r_fieldAddr fb44_0 (by decide) rfl rfl) ?_
         refine s_unguard (yield_Fr rfl rfl) rfl ?_
         refine s_val (r_load1 (v := .int _ _) Try.underlying42 rfl rfl ((hO.lsAt hn ins_len (by decide) M (k := 0) rfl).cell ha0 hx (j := 0) rfl)) ?_
         refine s_unguard (yield_Fr rfl rfl) rfl ?_
         refine s_val (r_eql rfl rfl) ?_
         refine s_unguard (yield_Fr rfl rfl) rfl ?_
         refine s_val (r_pick (v := .bool _) rfl rfl) ?_
         refine s_unguard (yield_Fr rfl rfl) rfl ?_
         refine s_val (r_move (v := .bool _) rfl) ?_
         refine s_splitD 112 rfl (fun g112 => ?_) (fun g112 => ?_)
         ·
          refine s_skip (yield_Fr rfl rfl) rfl ?_
          refine s_skip (yield_Fr rfl rfl) rfl ?_
          refine s_skip (yield_Fr rfl rfl) rfl ?_
          refine s_skip (yield_Fr rfl rfl) rfl ?_
          refine s_skip (yield_Fr rfl rfl) rfl ?_
          refine s_skip (yield_Fr rfl rfl) rfl ?_
          refine s_skip (yield_Fr rfl rfl) rfl ?_
          refine s_skipU (yield_U rfl rfl) ?_
          refine s_skipU (yield_U rfl rfl) ?_
          refine s_skip (yield_Fr rfl rfl) rfl ?_
          refine s_unguard (yield_Fr rfl rfl) rfl ?_
          refine s_val (r_pick (v := .bool _) rfl rfl) ?_
          refine s_val (r_pick (v := .bool _) rfl rfl) ?_
          refine s_nil (e_then ?_)
          refine c_yes rfl (by decide) ?_
          refine c_region ?_
          have hbad : r < 0 ∧ isBad p d k = true := ⟨g85, by
            simp only [isBad, hins, Bool.and_eq_true, Bool.or_eq_true, bne_iff_ne, beq_iff_eq, ne_eq]
            exact ⟨g91, by first | exact .inl (.inl (.inl g96)) | exact .inl (.inl (.inr g104)) | exact .inl (.inr g112) | exact .inr ⟨g119, h124⟩⟩⟩
          refine s_val (r_move (v := .int _ _) rfl) ?_
          refine s_val (r_assign (v := .int _ _) rfl) ?_
          refine s_nil (e_blk (e_then (c_region ?_)))
          first | (refine s_val (r_add rfl rfl (w64 (by omega) (by omega))) ?_) | (refine s_val (r_add rfl rfl rfl) ?_)
          refine s_val (r_move (v := .int _ _) rfl) ?_
          refine s_nil (e_then ?_)
          first
            | exact loop_end j (k + 1, (k : Int)) (by repeat (first | exact ag_refl | exact ag_mask rfl ag_refl | refine ag_upd rfl ?_ | refine ag_mask rfl ?_)) ⟨i64succ k, rfl, trivial⟩ (by omega) ⟨by omega, by rw [← hb, badGo, if_pos hbad], by omega, M.only ⟨.inr rfl, trivial⟩ ⟨rfl, trivial⟩⟩
            | (have hnb : ¬ (r < 0 ∧ isBad p d k = true) := by
                 rintro ⟨a1, a2⟩
                 simp only [isBad, hins, Bool.and_eq_true, Bool.or_eq_true, bne_iff_ne, beq_iff_eq, ne_eq] at a2
                 obtain ⟨a3, a4⟩ := a2
                 first
                   | exact g85 a1
                   | exact g91 a3
                   | (rcases a4 with ((a4 | a4) | a4) | ⟨a4, a5⟩
                      · exact g96 a4
                      · exact g104 a4
                      · exact g112 a4
                      · first | exact g119 a4 | (rw [a5] at h124; cases h124))
               exact loop_end j (k + 1, r) (by repeat (first | exact ag_refl | exact ag_mask rfl ag_refl | refine ag_upd rfl ?_ | refine ag_mask rfl ?_)) ⟨i64succ k, rfl, trivial⟩ (by omega) ⟨by omega, by rw [← hb, badGo, if_neg hnb], by omega, M.only ⟨.inr rfl, trivial⟩ ⟨rfl, trivial⟩⟩)
         ·
          refine s_unguard (yield_Fr rfl rfl) rfl ?_
          refine s_val (r_move (v := .slice _ _ _) rfl) ?_
          refine s_unguard (yield_Fr rfl rfl) rfl ?_
          refine s_val (r_move (v := .int _ _) rfl) ?_
          refine s_unguard (yield_Fr rfl rfl) rfl ?_
          refine s_val (r_indexAddrS Try.underlying46 sz44 rfl (ha0) rfl (by omega) (by omega) rfl) ?_
          refine s_unguard (yield_Fr rfl rfl) rfl ?_
          refine s_val (r_fieldAddr fb44_0 (by decide) rfl rfl) ?_
          refine s_unguard (yield_Fr rfl rfl) rfl ?_
          refine s_val (r_load1 (v := .int _ _) Try.underlying42 rfl rfl ((hO.lsAt hn ins_len (by decide) M (k := 0) rfl).cell ha0 hx (j := 0) rfl)) ?_
          refine s_unguard (yield_Fr rfl rfl) rfl ?_
          refine s_val (r_eql rfl rfl) ?_
          refine s_unguard (yield_Fr rfl rfl) rfl ?_
          refine s_val (r_move (v := .bool _) rfl) ?_
          refine s_splitD 119 rfl (fun g119 => ?_) (fun g119 => ?_)
          ·
           refine s_unguard (yield_Fr rfl rfl) rfl ?_
           refine s_val (r_move (v := .bool _) rfl) ?_
           refine s_unguard (yield_Fr rfl rfl) rfl ?_
           refine s_val (r_not rfl) ?_
           refine s_unguard (yield_Fr rfl rfl) rfl ?_
           refine s_val (r_pick (v := .bool _) rfl rfl) ?_
           refine s_unguard (yield_Fr rfl rfl) rfl ?_
           refine s_val (r_pick (v := .bool _) rfl rfl) ?_
           refine s_val (r_pick (v := .bool _) rfl rfl) ?_
           refine s_nil (e_then ?_)
           refine c_cond rfl (fun h124 => ?_) (fun h124 => ?_)
           ·
            refine c_region ?_
            have hbad : r < 0 ∧ isBad p d k = true := ⟨g85, by
              simp only [isBad, hins, Bool.and_eq_true, Bool.or_eq_true, bne_iff_ne, beq_iff_eq, ne_eq]
              exact ⟨g91, by first | exact .inl (.inl (.inl g96)) | exact .inl (.inl (.inr g104)) | exact .inl (.inr g112) | exact .inr ⟨g119, h124⟩⟩⟩
            refine s_val (r_move (v := .int _ _) rfl) ?_
            refine s_val (r_assign (v := .int _ _) rfl) ?_
            refine s_nil (e_blk (e_then (c_region ?_)))
            first | (refine s_val (r_add rfl rfl (w64 (by omega) (by omega))) ?_) | (refine s_val (r_add rfl rfl rfl) ?_)
            refine s_val (r_move (v := .int _ _) rfl) ?_
            refine s_nil (e_then ?_)
            first
              | exact loop_end j (k + 1, (k : Int)) (by repeat (first | exact ag_refl | exact ag_mask rfl ag_refl | refine ag_upd rfl ?_ | refine ag_mask rfl ?_)) ⟨i64succ k, rfl, trivial⟩ (by omega) ⟨by omega, by rw [← hb, badGo, if_pos hbad], by omega, M.only ⟨.inr rfl, trivial⟩ ⟨rfl, trivial⟩⟩
              | (have hnb : ¬ (r < 0 ∧ isBad p d k = true) := by
                   rintro ⟨a1, a2⟩
                   simp only [isBad, hins, Bool.and_eq_true, Bool.or_eq_true, bne_iff_ne, beq_iff_eq, ne_eq] at a2
                   obtain ⟨a3, a4⟩ := a2
                   first
                     | exact g85 a1
                     | exact g91 a3
                     | (rcases a4 with ((a4 | a4) | a4) | ⟨a4, a5⟩
                        · exact g96 a4
                        · exact g104 a4
                        · exact g112 a4
                        · first | exact g119 a4 | (rw [a5] at h124; cases h124))
                 exact loop_end j (k + 1, r) (by repeat (first | exact ag_refl | exact ag_mask rfl ag_refl | refine ag_upd rfl ?_ | refine ag_mask rfl ?_)) ⟨i64succ k, rfl, trivial⟩ (by omega) ⟨by omega, by rw [← hb, badGo, if_neg hnb], by omega, M.only ⟨.inr rfl, trivial⟩ ⟨rfl, trivial⟩⟩)
           ·
            refine c_skip (e_blk (e_then (c_region ?_)))
            first | (refine s_val (r_add rfl rfl (w64 (by omega) (by omega))) ?_) | (refine s_val (r_add rfl rfl rfl) ?_)
            refine s_val (r_move (v := .int _ _) rfl) ?_
            refine s_nil (e_then ?_)
            first
              | exact loop_end j (k + 1, (k : Int)) (by repeat (first | exact ag_refl | exact ag_mask rfl ag_refl | refine ag_upd rfl ?_ | refine ag_mask rfl ?_)) ⟨i64succ k, rfl, trivial⟩ (by omega) ⟨by omega, by rw [← hb, badGo, if_pos hbad], by omega, M.only ⟨.inr rfl, trivial⟩ ⟨rfl, trivial⟩⟩
              | (have hnb : ¬ (r < 0 ∧ isBad p d k = true) := by
                   rintro ⟨a1, a2⟩
                   simp only [isBad, hins, Bool.and_eq_true, Bool.or_eq_true, bne_iff_ne, beq_iff_eq, ne_eq] at a2
                   obtain ⟨a3, a4⟩ := a2
                   first
                     | exact g85 a1
                     | exact g91 a3
                     | (rcases a4 with ((a4 | a4) | a4) | ⟨a4, a5⟩
                        · exact g96 a4
                        · exact g104 a4
                        · exact g112 a4
                        · first | exact g119 a4 | (rw [a5] at h124; cases h124))
                 exact loop_end j (k + 1, r) (by repeat (first | exact ag_refl | exact ag_mask rfl ag_refl | refine ag_upd rfl ?_ | refine ag_mask rfl ?_)) ⟨i64succ k, rfl, trivial⟩ (by omega) ⟨by omega, by rw [← hb, badGo, if_neg hnb], by omega, M.only ⟨.inr rfl, trivial⟩ ⟨rfl, trivial⟩⟩)
          ·
           refine s_skip (yield_Fr rfl rfl) rfl ?_
           refine s_skip (yield_Fr rfl rfl) rfl ?_
           refine s_unguard (yield_Fr rfl rfl) rfl ?_
           refine s_val (r_pick (v := .bool _) rfl rfl) ?_
           refine s_unguard (yield_Fr rfl rfl) rfl ?_
           refine s_val (r_pick (v := .bool _) rfl rfl) ?_
           refine s_val (r_pick (v := .bool _) rfl rfl) ?_
           refine s_nil (e_then ?_)
           refine c_no rfl (by decide) ?_
           refine c_skip (e_blk (e_then (c_region ?_)))
           first | (refine s_val (r_add rfl rfl (w64 (by omega) (by omega))) ?_) | (refine s_val (r_add rfl rfl rfl) ?_)
           refine s_val (r_move (v := .int _ _) rfl) ?_
           refine s_nil (e_then ?_)
           first
             | exact loop_end j (k + 1, (k : Int)) (by repeat (first | exact ag_refl | exact ag_mask rfl ag_refl | refine ag_upd rfl ?_ | refine ag_mask rfl ?_)) ⟨i64succ k, rfl, trivial⟩ (by omega) ⟨by omega, by rw [← hb, badGo, if_pos hbad], by omega, M.only ⟨.inr rfl, trivial⟩ ⟨rfl, trivial⟩⟩
             | (have hnb : ¬ (r < 0 ∧ isBad p d k = true) := by
                  rintro ⟨a1, a2⟩
                  simp only [isBad, hins, Bool.and_eq_true, Bool.or_eq_true, bne_iff_ne, beq_iff_eq, ne_eq] at a2
                  obtain ⟨a3, a4⟩ := a2
                  first
                    | exact g85 a1
                    | exact g91 a3
                    | (rcases a4 with ((a4 | a4) | a4) | ⟨a4, a5⟩
                       · exact g96 a4
                       · exact g104 a4
                       · exact g112 a4
                       · first | exact g119 a4 | (rw [a5] at h124; cases h124))
                exact loop_end j (k + 1, r) (by repeat (first | exact ag_refl | exact ag_mask rfl ag_refl | refine ag_upd rfl ?_ | refine ag_mask rfl ?_)) ⟨i64succ k, rfl, trivial⟩ (by omega) ⟨by omega, by rw [← hb, badGo, if_neg hnb], by omega, M.only ⟨.inr rfl, trivial⟩ ⟨rfl, trivial⟩⟩)
      ·
       refine s_skip (yield_Fr rfl rfl) rfl ?_
       refine s_skip (yield_Fr rfl rfl) rfl ?_
       refine s_skip (yield_Fr rfl rfl) rfl ?_
       refine s_skip (yield_Fr rfl rfl) rfl ?_
       refine s_skip (yield_Fr rfl rfl) rfl ?_
       refine s_skipU (yield_U rfl rfl) ?_
       refine s_skipU (yield_U rfl rfl) ?_
       refine s_skipU (yield_U rfl rfl) ?_
       refine s_skipU (yield_U rfl rfl) ?_
       refine s_skipU (yield_U rfl rfl) ?_
       refine s_skipU (yield_U rfl rfl) ?_
       refine s_skip (yield_Fr rfl rfl) rfl ?_
       refine s_skip (yield_Fr rfl rfl) rfl ?_
       refine s_skipU (yield_U rfl rfl) ?_
       refine s_skipU (yield_U rfl rfl) ?_
       refine s_skipU (yield_U rfl rfl) ?_
       refine s_skipU (yield_U rfl rfl) ?_
       refine s_skipU (yield_U rfl rfl) ?_
       refine s_skipU (yield_U rfl rfl) ?_
       refine s_skip (yield_Fr rfl rfl) rfl ?_
       refine s_skip (yield_Fr rfl rfl) rfl ?_
       refine s_skipU (yield_U rfl rfl) ?_
       refine s_skipU (yield_U rfl rfl) ?_
       refine s_skipU (yield_U rfl rfl) ?_
       refine s_skipU (yield_U rfl rfl) ?_
       refine s_skipU (yield_U rfl rfl) ?_
       refine s_skipU (yield_U rfl rfl) ?_
       refine s_skipU (yield_U rfl rfl) ?_
       refine s_skipU (yield_U rfl rfl) ?_
       refine s_skipU (yield_U rfl rfl) ?_
       refine s_skipU (yield_U rfl rfl) ?_
       refine s_skip (yield_Fr rfl rfl) rfl ?_
       refine s_val (r_pick (v := .bool _) rfl rfl) ?_
       refine s_nil (e_then ?_)
       refine c_no rfl (by decide) ?_
       refine c_skip (e_blk (e_then (c_region ?_)))
       first | (refine s_val (r_add rfl rfl (w64 (by omega) (by omega))) ?_) | (refine s_val (r_add rfl rfl rfl) ?_)
       refine s_val (r_move (v := .int _ _) rfl) ?_
       refine s_nil (e_then ?_)
       first
         | exact loop_end j (k + 1, (k : Int)) (by repeat (first | exact ag_refl | exact ag_mask rfl ag_refl | refine ag_upd rfl ?_ | refine ag_mask rfl ?_)) ⟨i64succ k, rfl, trivial⟩ (by omega) ⟨by omega, by rw [← hb, badGo, if_pos hbad], by omega, M.only ⟨.inr rfl, trivial⟩ ⟨rfl, trivial⟩⟩
         | (have hnb : ¬ (r < 0 ∧ isBad p d k = true) := by
              rintro ⟨a1, a2⟩
              simp only [isBad, hins, Bool.and_eq_true, Bool.or_eq_true, bne_iff_ne, beq_iff_eq, ne_eq] at a2
              obtain ⟨a3, a4⟩ := a2
              first
                | exact g85 a1
                | exact g91 a3
                | (rcases a4 with ((a4 | a4) | a4) | ⟨a4, a5⟩
                   · exact g96 a4
                   · exact g104 a4
                   · exact g112 a4
                   · first | exact g119 a4 | (rw [a5] at h124; cases h124))
            exact loop_end j (k + 1, r) (by repeat (first | exact ag_refl | exact ag_mask rfl ag_refl | refine ag_upd rfl ?_ | refine ag_mask rfl ?_)) ⟨i64succ k, rfl, trivial⟩ (by omega) ⟨by omega, by rw [← hb, badGo, if_neg hnb], by omega, M.only ⟨.inr rfl, trivial⟩ ⟨rfl, trivial⟩⟩)
     ·
      refine s_skip (yield_Fr rfl rfl) rfl ?_
      refine s_skip (yield_Fr rfl rfl) rfl ?_
      refine s_skip (yield_Fr rfl rfl) rfl ?_
      refine s_skip (yield_Fr rfl rfl) rfl ?_
      refine s_val (r_pick (v := .bool _) rfl rfl) ?_
      refine s_val (r_move (v := .bool _) rfl) ?_
      refine s_skip (yield_Fr rfl rfl) rfl ?_
      refine s_skip (yield_Fr rfl rfl) rfl ?_
      refine s_skip (yield_Fr rfl rfl) rfl ?_
      refine s_skip (yield_Fr rfl rfl) rfl ?_
      refine s_skip (yield_Fr rfl rfl) rfl ?_
      refine s_skipU (yield_U rfl rfl) ?_
      refine s_skipU (yield_U rfl rfl) ?_
      refine s_skipU (yield_U rfl rfl) ?_
      refine s_skipU (yield_U rfl rfl) ?_
      refine s_skipU (yield_U rfl rfl) ?_
      refine s_skipU (yield_U rfl rfl) ?_
      refine s_skip (yield_Fr rfl rfl) rfl ?_
      refine s_skip (yield_Fr rfl rfl) rfl ?_
      refine s_skipU (yield_U rfl rfl) ?_
      refine s_skipU (yield_U rfl rfl) ?_
      refine s_skipU (yield_U rfl rfl) ?_
      refine s_skipU (yield_U rfl rfl) ?_
      refine s_skipU (yield_U rfl rfl) ?_
      refine s_skipU (yield_U rfl rfl) ?_
      refine s_skip (yield_Fr rfl rfl) rfl ?_
      refine s_skip (yield_Fr rfl rfl) rfl ?_
      refine s_skipU (yield_U rfl rfl) ?_
      refine s_skipU (yield_U rfl rfl) ?_
      refine s_skipU (yield_U rfl rfl) ?_
      refine s_skipU (yield_U rfl rfl) ?_
      refine s_skipU (yield_U rfl rfl) ?_
      refine s_skipU (yield_U rfl rfl) ?_
      refine s_skipU (yield_U rfl rfl) ?_
      refine s_skipU (yield_U rfl rfl) ?_
      refine s_skipU (yield_U rfl rfl) ?_
      refine s_skipU (yield_U rfl rfl) ?_
      refine s_skip (yield_Fr rfl rfl) rfl ?_
      refine s_val (r_pick (v := .bool _) rfl rfl) ?_
      refine s_nil (e_then ?_)
      refine c_no rfl (by decide) ?_
      refine c_skip (e_blk (e_then (c_region ?_)))
      first | (refine s_val (r_add rfl rfl (w64 (by omega) (by omega))) ?_) | (refine s_val (r_add rfl rfl rfl) ?_)
      refine s_val (r_move (v := .int _ _) rfl) ?_
      refine s_nil (e_then ?_)
      first
        | exact loop_end j (k + 1, (k : Int)) (by repeat (first | exact ag_refl | exact ag_mask rfl ag_refl | refine ag_upd rfl ?_ | refine ag_mask rfl ?_)) ⟨i64succ k, rfl, trivial⟩ (by omega) ⟨by omega, by rw [← hb, badGo, if_pos hbad], by omega, M.only ⟨.inr rfl, trivial⟩ ⟨rfl, trivial⟩⟩
        | (have hnb : ¬ (r < 0 ∧ isBad p d k = true) := by
             rintro ⟨a1, a2⟩
             simp only [isBad, hins, Bool.and_eq_true, Bool.or_eq_true, bne_iff_ne, beq_iff_eq, ne_eq] at a2
             obtain ⟨a3, a4⟩ := a2
             first
               | exact g85 a1
               | exact g91 a3
               | (rcases a4 with ((a4 | a4) | a4) | ⟨a4, a5⟩
                  · exact g96 a4
                  · exact g104 a4
                  · exact g112 a4
                  · first | exact g119 a4 | (rw [a5] at h124; cases h124))
           exact loop_end j (k + 1, r) (by repeat (first | exact ag_refl | exact ag_mask rfl ag_refl | refine ag_upd rfl ?_ | refine ag_mask rfl ?_)) ⟨i64succ k, rfl, trivial⟩ (by omega) ⟨by omega, by rw [← hb, badGo, if_neg hnb], by omega, M.only ⟨.inr rfl, trivial⟩ ⟨rfl, trivial⟩⟩)
    ·
     obtain rfl : j = 0 := by omega
     have hbr : r = badOf p d := hb
     refine c_exit (e_then_exit (e_then_exit (e_blk_here (e_then (c_seq (c_seq (c_region ?_)))))))
     refine s_val (r_move (v := .int _ _) rfl) ?_
     refine s_val (r_lss rfl rfl) ?_
     refine s_nil (e_then ?_)
     refine c_if rfl (fun h128 => ?_) (fun h128 => ?_)
     ·
      have hres : p = progOf l d := by rw [← hg, fixGo, if_pos (by rw [← hbr]; exact h128)]
      refine c_exit (e_then_exit (e_blk_far rfl (e_then_exit (e_then_exit (e_blk_here (e_then (c_seq (c_region ?_))))))))
      refine s_val (r_move (v := .slice _ _ _) rfl) ?_
      refine s_val (r_assign (v := .slice _ _ _) rfl) ?_
      refine s_nil (e_then (c_ret ?_))
      refine ret_run (res_1 (v := .slice _ _ _) rfl rfl) ?_
      exact ⟨_, (s, sg), rfl, ⟨by rw [← hres, ← hn], by rw [← hres, ← hn]; exact hO⟩, M.lone ⟨.inr rfl, trivial⟩⟩
     ·
      obtain ⟨y, hy⟩ : ∃ y, p[r.toNat]? = some y := ⟨_, List.getElem?_eq_getElem (by omega)⟩
      have hg2 : fixGo d m (p.set r.toNat mov) = progOf l d := by rw [← hg, fixGo, if_neg (by rw [← hbr]; exact h128), hbr]
      obtain ⟨b3, cur3, ha3, rfl, hcl3, hcc3⟩ := hO.blk (by omega)
      refine c_skip (e_then (c_region ?_))
      refine s_val (r_move (v := .slice _ _ _) rfl) ?_
      refine s_val (r_move (v := .int _ _) rfl) ?_
      refine s_val (r_buildS (cs := [_, _, _, _, _]) zr44 cells_agg pl44 (ps := [(0, .int _ _)]) (qs := [(0, [_])]) rfl ⟨rfl, rfl, rfl, trivial⟩ rfl) ?_
      refine s_val (r_indexAddrS Try.underlying46 sz44 rfl (ha3) rfl (by omega) (by omega) rfl) ?_
      refine a_store (v := .agg _) sz44 M rfl rfl cells_agg (k := 0) (j := 0) rfl rfl rfl rfl (Nat.ble_eq_true_of_le (show 0 + r.toNat * 5 + 5 ≤ cur3.length by omega)) ?_
      intro w M
      first | replace M := M.nf (L' := [_]) rfl | skip
      refine s_nil (e_blk (e_then (c_region ?_)))
      first | (refine s_val (r_add rfl rfl (w64 (by omega) (by omega))) ?_) | (refine s_val (r_add rfl rfl rfl) ?_)
      refine s_val (r_move (v := .int _ _) rfl) ?_
      refine s_nil (e_then ?_)
      exact loop_end m (c + 1, p.set r.toNat mov, [(b3, C (spl cur3 (0 + r.toNat * 5) (ins mov)) 44)]) (by repeat (first | exact ag_refl | exact ag_mask rfl ag_refl | refine ag_upd rfl ?_ | refine ag_mask rfl ?_)) ⟨i64succ c, trivial⟩ (by omega) ⟨by omega, hg2, by simp [hn], set_wf hw _, by simp; exact hp20, hO.put ins_len hy (j := 0) rfl (by decide) (by omega) hn, M.only ⟨.inr rfl, trivial⟩ ⟨rfl, trivial⟩⟩
   ·
    obtain rfl : m = 0 := by omega
    have hres : p = progOf l d := hg
    refine c_exit (e_then_exit (e_then_exit (e_blk_here (e_then (c_seq (c_region ?_))))))
    refine s_val (r_move (v := .slice _ _ _) rfl) ?_
    refine s_val (r_assign (v := .slice _ _ _) rfl) ?_
    refine s_nil (e_then (c_ret ?_))
    refine ret_run (res_1 (v := .slice _ _ _) rfl rfl) ?_
    exact ⟨_, (s, sg), rfl, ⟨by rw [← hres, ← hn], by rw [← hres, ← hn]; exact hO⟩, M.lone ⟨.inr rfl, trivial⟩⟩
end Go.Proofs.Ytcjnniigonaapaa
