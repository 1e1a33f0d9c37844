/-
  WALKS B7: draws taken.
-/
import Derived.Test.YtcjnniigonaapaaB6
namespace Go.Proofs.Ytcjnniigonaapaa
open Go Go.Az Go.Proofs
set_option maxHeartbeats 1000000
theorem drawTake (b : Nat) (r : Rd) (sg : Seg) (hB : RdAt' b r sg) (ks : List Nat) (w0 : World) (M : St ks (keysOf [sg]) w0 w0 [sg] []) :
    Calls Try.prog 39 #[.pointer (some ⟨b, 0, none⟩)] w0 fun e w' => ∃ v, ∃ g : Seg × Sl × Seg, e = .returned v ∧ (v = .agg (drw g.2.1 (drwTk r).1).toArray ∧ RdAt' b (drwTk r).2 g.1 ∧ Own 3 1 g.2.1 (drwTk r).1.indices.length ((drwTk r).1.indices.flatMap encN) g.2.2) ∧ St ks (keysOf [sg]) w0 w' [g.1, g.2.2] [] := by
  skip
  refine calls_of 53 Try.func39 rfl rfl rfl ?_
  refine c_seq (c_region ?_)
  refine a_alloc zr61 cells_agg M ?_
  intro b2 w M
  first | replace M := M.nf (L' := [_, [(_, _)]]) rfl | skip
  refine s_nil (e_then (c_seq (c_region ?_)))
  refine s_val (r_move (v := .pointer _) rfl) ?_
  refine s_call1 0 (cl56 rfl) rfl (sttTake b r _ hB) M (fun _ h => nomatch h) ?_
  rintro v g w ⟨rfl, hB⟩ M
  first | replace M := M.nf (L' := [_, [(_, _)]]) rfl | skip
  refine s_val (r_buildS (cs := [_, _, _, _, _, _, _, _, _, _, _, _, _, _, _, _, _, _, _, _, _, _, _, _, _, _, _]) zr61 cells_agg pl61 (ps := [(0, .agg _)]) (qs := [(0, [_, _, _, _, _, _, _, _, _, _, _, _, _, _, _])]) rfl ⟨cells_agg, rfl, rfl, trivial⟩ rfl) ?_
  refine a_alloc zr61 cells_agg M ?_
  intro b3 w M
  first | replace M := M.nf (L' := [_, [(_, _)], [(_, _)]]) rfl | skip
  refine a_storeS (v := .agg _) (cs' := [_, _, _, _, _, _, _, _, _, _, _, _, _, _, _, _, _, _, _, _, _, _, _, _, _, _, _]) sz61 M rfl rfl cells_agg (k := 2) (j := 0) rfl rfl rfl rfl rfl rfl ?_
  intro w M
  first | replace M := M.nf (L' := [_, [(_, _)], [(_, _)]]) rfl | skip
  refine s_nil (e_then (c_seq (c_region ?_)))
  generalize hst : sttTk r = q at hB M
  obtain ⟨st, r1⟩ := q
  simp only [] at hB M
  refine s_val (r_move (v := .pointer _) rfl) ?_
  refine s_call1 0 (cl55 rfl) rfl (rdByte b _ _ hB) M (fun _ h => nomatch h) ?_
  rintro v g w ⟨rfl, hB⟩ M
  first | replace M := M.nf (L' := [_, [(_, _)], [(_, _)]]) rfl | skip
  refine s_val (r_assign (v := .int _ _) rfl) ?_
  refine s_nil (e_then (c_seq (c_seq (c_region ?_))))
  refine s_val (r_move (v := .int _ _) rfl) ?_
  refine s_val (r_eql rfl rfl) ?_
  refine s_nil (e_then ?_)
  refine c_if rfl (fun h12 => ?_) (fun h12 => ?_)
  ·
   have hbl := Rd.bytes_len hB.1 6
   have hbr := bAt_range (Rd.bytes_by8 hB.1 6)
   refine c_seq (c_region ?_)
   refine s_val (r_move (v := .pointer _) rfl) ?_
   refine s_call1 0 (cl35 rfl) rfl (rdBytes b _ _ hB 6 (by decide)) M (fun _ h => nomatch h) ?_
   rintro v ⟨g, sw, sgw⟩ w ⟨rfl, hB, hO⟩ M
   first | replace M := M.nf (L' := [_, [(_, _)], [(_, _)], _]) rfl | skip
   refine a_appendZ (m := 6) 3 Try.underlying63 Try.underlying3 sz5 by5 zr5 rfl rfl rfl (by decide) M rfl hO rfl rfl (by decide) (by simp only [maxLen]; omega) (by omega) ?_
   intro s2 sg2 w hO2 M
   replace hO2 : Own 5 1 s2 ((r1.byte.2.bytes 6).1.length + 6) (bv ((r1.byte.2.bytes 6).1 ++ List.replicate 6 0)) sg2 := by rw [← bv_pad]; exact hO2
   obtain ⟨bd, had⟩ := hO2.addrB (by simp)
   have hqa : ∀ i, i < 6 → ((r1.byte.2.bytes 6).1 ++ List.replicate 6 0)[i]? = some (bAt (r1.byte.2.bytes 6).1 i) := fun i hi => pad_at hbl hi
   have hcap := (hO2.slF M (k := 3) rfl (by decide)).cap
   obtain ⟨sa, sc⟩ := s2
   simp only at had
   subst had
   refine s_val (r_assign (v := .slice _ _ _) rfl) ?_
   refine s_nil (e_then (c_seq (c_region ?_)))
   refine s_val (r_fieldAddr (o' := 15) fb61_1 (by decide) rfl rfl) ?_
   refine a_storeS (v := .bool _) (cs' := [_, _, _, _, _, _, _, _, _, _, _, _, _, _, _, _, _, _, _, _, _, _, _, _, _, _, _]) sz4 M rfl rfl rfl (k := 2) (j := 0) rfl rfl rfl rfl rfl rfl ?_
   intro w M
   first | replace M := M.nf (L' := [_, [(_, _)], [(_, _)], _]) rfl | skip
   refine s_nil (e_then (c_seq ?_))
   refine c_drawT (by kernel_rfl) [(.q, 10), (.ch, 11), (.q, 0), (.q, 1), (.q, 2), (.q, 3), (.q, 4), (.q, 5), (.q, 6), (.q, 7), (.q, 8), (.q, 9), (.q, 12), (.q, 13)] [14] [[], [0], [0, 1], [0, 1, 2], [], [4], [4, 5], [], [7], [7, 8], [], [10], [0, 1, 2, 3, 4, 5, 6, 7, 8, 9, 10, 11], [0, 1, 2, 3, 4, 5, 6, 7, 8, 9, 10, 11, 12], [0, 1, 2, 3, 4, 5, 6, 7, 8, 9, 10, 11, 12, 13]] (by kernel_rfl) [0] M ?_
   refine w_val rfl wt_none (fun w => (r_move (v := .pointer _) rfl)) ?_
   refine w_call1 0 rfl wt_none (fun w => cl36 rfl) rfl (rdCount b _ _ hB 65535 (by decide)) (fun _ h => nomatch h) (fun _ _ => (by repeat (first | exact trivial | refine ⟨.inr rfl, ?_⟩ | refine ⟨.inl rfl, ?_⟩))) (fun _ h => h) ?_
   rintro v g ⟨rfl, hB⟩
   first | refine w_nf (L' := [_, [(_, _)], [(_, _)], _]) rfl ?_ | skip
   refine w_val rfl wt_none (fun w => (r_move (v := .slice _ _ _) rfl)) ?_
   refine w_val rfl wt_none (fun w => (r_sliceHi (s := ⟨some ⟨bd, 0, none⟩, sc⟩) Try.underlying63 sz5 rfl rfl (by omega) (by simp only [] at hcap ⊢; omega))) ?_
   refine w_val rfl wt_none (fun w => r_s2a (len := 4) Try.underlying55 rfl (by decide)) ?_
   refine w_read rfl wt_none (fun w X G' M => r_loadN (cs := [u8 (bAt (r1.byte.2.bytes 6).1 0), u8 (bAt (r1.byte.2.bytes 6).1 1), u8 (bAt (r1.byte.2.bytes 6).1 2), u8 (bAt (r1.byte.2.bytes 6).1 3)]) Try.underlying55 rfl sz55 rfl rfl (fun j v hv => by
     have hc := fun i (hi : i < 6) => hO2.cellB M (k := 3) rfl rfl (hqa i hi) rfl
     rcases (show j = 0 ∨ j = 1 ∨ j = 2 ∨ j = 3 ∨ 4 ≤ j by omega) with rfl | rfl | rfl | rfl | hj
     · cases hv; exact hc 0 (by decide)
     · cases hv; exact hc 1 (by decide)
     · cases hv; exact hc 2 (by decide)
     · cases hv; exact hc 3 (by decide)
     · rw [List.getElem?_eq_none (by simpa using hj)] at hv; cases hv)) ?_
   refine w_val rfl wt_none (fun w => (r_move (v := .slice _ _ _) rfl)) ?_
   refine w_val rfl wt_none (fun w => (r_indexAddrS Try.underlying63 sz5 rfl (rfl) rfl (by omega) (by omega) rfl)) ?_
   refine w_read rfl wt_none (fun w X G' M => r_load1 Try.underlying5 rfl rfl (hO2.cellB M (k := 3) rfl rfl (hqa 4 (by decide)) rfl)) ?_
   refine w_val rfl wt_none (fun w => (r_move (v := .slice _ _ _) rfl)) ?_
   refine w_val rfl wt_none (fun w => (r_indexAddrS Try.underlying63 sz5 rfl (rfl) rfl (by omega) (by omega) rfl)) ?_
   refine w_read rfl wt_none (fun w X G' M => r_load1 Try.underlying5 rfl rfl (hO2.cellB M (k := 3) rfl rfl (hqa 5 (by decide)) rfl)) ?_
   refine w_val rfl wt_none (fun w => (r_buildS (cs := [_, _, _, _, _, _, _]) zr57 cells_agg pl57 (ps := [(0, .agg _), (2, .int _ _), (3, .int _ _), (1, .int _ _)]) (qs := [(0, [_, _, _, _]), (5, [_]), (6, [_]), (4, [_])]) rfl ⟨cells_agg, rfl, rfl, rfl, rfl, rfl, rfl, rfl, rfl, rfl, rfl, rfl, trivial⟩ rfl)) ?_
   refine w_val rfl wt_none (fun w => (r_fieldAddr (o' := 16) fb61_2 (by decide) rfl rfl)) ?_
   refine w_nil ?_
   intro w M
   refine a_storeS (v := .agg _) (cs' := [_, _, _, _, _, _, _, _, _, _, _, _, _, _, _, _, _, _, _, _, _, _, _, _, _, _, _]) sz57 M rfl rfl cells_agg (k := 2) (j := 0) rfl rfl rfl rfl rfl rfl ?_
   intro w M
   first | replace M := M.nf (L' := [_, [(_, _)], [(_, _)], _]) rfl | skip
   refine s_nil (e_then (c_seq (c_region ?_)))
   refine a_loadA Try.underlying61 rfl sz61 M rfl (k := 2) (j := 0) rfl rfl rfl ?_
   refine a_storeS (v := .agg _) (cs' := [_, _, _, _, _, _, _, _, _, _, _, _, _, _, _, _, _, _, _, _, _, _, _, _, _, _, _]) sz61 M rfl rfl cells_agg (k := 1) (j := 0) rfl rfl rfl rfl rfl rfl ?_
   intro w M
   first | replace M := M.nf (L' := [_, [(_, _)], [(_, _)], _]) rfl | skip
   refine s_nil (e_then (c_ret (e_then_ret ?_)))
   refine ret_run (res_c rfl rfl (run_loadVarN Try.underlying61 rfl sz61 rfl (M.cellsA (k := 1) (j := 0) rfl rfl))) ?_
   have hr : drwTk r = (⟨st, true, bAt (r1.byte.2.bytes 6).1 0, bAt (r1.byte.2.bytes 6).1 1, bAt (r1.byte.2.bytes 6).1 2, bAt (r1.byte.2.bytes 6).1 3, ((r1.byte.2.bytes 6).2.count 65535).1, bAt (r1.byte.2.bytes 6).1 4, bAt (r1.byte.2.bytes 6).1 5, 0, 0, 0, []⟩, ((r1.byte.2.bytes 6).2.count 65535).2) := by
     unfold drwTk; rw [hst]; exact if_pos h12
   exact ⟨_, (g, ⟨none, 0⟩, []), rfl, ⟨by rw [hr]; rfl, by rw [hr]; exact hB, by rw [hr]; exact Own.nil _ _⟩, ((M.picks [0] rfl rfl).useG (by simp)).flat rfl⟩
  ·
   refine c_skip (e_then (c_seq (c_region ?_)))
   refine s_val (r_move (v := .int _ _) rfl) ?_
   refine s_val (r_fieldAddr (o' := 25) fb61_5 (by decide) rfl rfl) ?_
   refine a_storeS (v := .int _ _) (cs' := [_, _, _, _, _, _, _, _, _, _, _, _, _, _, _, _, _, _, _, _, _, _, _, _, _, _, _]) sz58 M rfl rfl rfl (k := 2) (j := 0) rfl rfl rfl rfl rfl rfl ?_
   intro w M
   first | replace M := M.nf (L' := [_, [(_, _)], [(_, _)]]) rfl | skip
   refine s_nil (e_then (c_seq (c_region ?_)))
   refine s_val (r_move (v := .pointer _) rfl) ?_
   refine s_call1 0 (cl36 rfl) rfl (rdCount b _ _ hB 3 (by decide)) M (fun _ h => nomatch h) ?_
   rintro v g w ⟨rfl, hB⟩ M
   first | replace M := M.nf (L' := [_, [(_, _)], [(_, _)]]) rfl | skip
   refine s_val (r_move (v := .pointer _) rfl) ?_
   refine s_call1 0 (cl36 rfl) rfl (rdCount b _ _ hB 3 (by decide)) M (fun _ h => nomatch h) ?_
   rintro v g w ⟨rfl, hB⟩ M
   first | replace M := M.nf (L' := [_, [(_, _)], [(_, _)]]) rfl | skip
   refine s_val (r_fieldAddr (o' := 23) fb61_3 (by decide) rfl rfl) ?_
   refine a_storeS (v := .int _ _) (cs' := [_, _, _, _, _, _, _, _, _, _, _, _, _, _, _, _, _, _, _, _, _, _, _, _, _, _, _]) sz3 M rfl rfl rfl (k := 2) (j := 0) rfl rfl rfl rfl rfl rfl ?_
   intro w M
   first | replace M := M.nf (L' := [_, [(_, _)], [(_, _)]]) rfl | skip
   refine s_val (r_fieldAddr (o' := 24) fb61_4 (by decide) rfl rfl) ?_
   refine a_storeS (v := .int _ _) (cs' := [_, _, _, _, _, _, _, _, _, _, _, _, _, _, _, _, _, _, _, _, _, _, _, _, _, _, _]) sz3 M rfl rfl rfl (k := 2) (j := 0) rfl rfl rfl rfl rfl rfl ?_
   intro w M
   first | replace M := M.nf (L' := [_, [(_, _)], [(_, _)]]) rfl | skip
   refine s_nil (e_then (c_seq (c_seq (c_region ?_))))
   have hcr := Rd.count_range hB.1 96
   refine s_val (r_move (v := .pointer _) rfl) ?_
   refine s_call1 0 (cl36 rfl) rfl (rdCount b _ _ hB 96 (by decide)) M (fun _ h => nomatch h) ?_
   rintro v g w ⟨rfl, hB⟩ M
   first | replace M := M.nf (L' := [_, [(_, _)], [(_, _)]]) rfl | skip
   generalize hRR : (((r1.byte.2.count 3).2.count 3).2.count 96) = rr at hB hcr M
   obtain ⟨n, r2⟩ := rr
   simp only [] at hB hcr
   refine s_val (r_move (v := .int _ _) rfl) ?_
   refine s_nil (e_then (c_block ?_))
   refine c_loopG [42, 43, 44, 45, 46, 47, 48, 49, 50, 51] (Γ := Nat × List Int × Rd × Seg × Sl × Seg) (vals := fun (k, l, r', sgr, s, sgp) => [(42, i64 k)]) (I := fun m (k, l, r', sgr, s, sgp) w => m + k = n.toNat ∧ idxGo m l r' = idxGo n.toNat [] r2 ∧ l.length = k ∧ Own 3 1 s l.length (l.flatMap encN) sgp ∧ RdAt' b r' sgr ∧ St ks (keysOf [sg]) w0 w [sgr, [(b2, C (drw ⟨none, 0⟩ ⟨zeroStt, false, 0, 0, 0, 0, 0, 0, 0, 0, 0, 0, []⟩) 61)], [(b3, C (drw s ⟨st, false, 0, 0, 0, 0, 0, 0, 0, (r1.byte.2.count 3).1, ((r1.byte.2.count 3).2.count 3).1, r1.byte.1, l⟩) 61)], sgp] []) n.toNat (0, [], r2, g, ⟨none, 0⟩, []) ⟨rfl, trivial⟩ ⟨rfl, rfl, rfl, Own.nil _ _, hB, ((M.picks [0, 1, 2] rfl rfl).useG (by simp)).flat rfl⟩ ?_
   rintro m ⟨k, l, r3, sgr, s, sgp⟩ e w ⟨hk, hg, hl, hO, hB, M⟩
   refine c_seq (c_region ?_)
   refine s_val (r_lss rfl rfl) ?_
   refine s_nil (e_then (c_seq ?_))
   refine c_if rfl (fun h43 => ?_) (fun h43 => ?_)
   ·
    obtain ⟨m, rfl⟩ : ∃ j, m = j + 1 := ⟨m - 1, by omega⟩
    rw [idxGo] at hg
    refine c_skip (e_then (c_seq (c_block ?_)))
    refine c_drawT (by kernel_rfl) [(.q, 2), (.ch, 3), (.q, 0), (.q, 1), (.fl, 4), (.ch, 5), (.q, 6)] [7] [[], [0], [], [2], [2, 3], [0, 1, 2, 3, 4], [0, 1, 2, 3, 4, 5], [0, 1, 2, 3, 4, 5, 6]] (by kernel_rfl) [0, 3] M ?_
    refine w_val rfl wt_none (fun w => (r_move (v := .pointer _) rfl)) ?_
    refine w_call1 0 rfl wt_none (fun w => cl36 rfl) rfl (rdCount b _ _ hB 63 (by decide)) (fun _ h => nomatch h) (fun _ _ => (by repeat (first | exact trivial | refine ⟨.inr rfl, ?_⟩ | refine ⟨.inl rfl, ?_⟩))) (fun _ h => h) ?_
    rintro v g ⟨rfl, hB⟩
    first | refine w_nf (L' := [_, _, _, _]) rfl ?_ | skip
    refine w_val rfl wt_none (fun w => (r_fieldAddr (o' := 26) fb61_6 (by decide) rfl rfl)) ?_
    refine w_read (v := .slice _ _ _) rfl wt_none (fun w X G' M => r_load1 Try.underlying59 rfl rfl (M.cell (k := 2) (j := 0) rfl rfl rfl)) ?_
    refine w_buildSliceS (cs := [_]) rfl wt_none Try.underlying59 sz3 zr3 rfl rfl (by decide) rfl (ps := [(0, .int _ _)]) (qs := [(0, [_])]) rfl ⟨rfl, rfl, rfl, trivial⟩ rfl ?_
    intro b48
    first | refine w_nf (L' := [_, _, _, _, [(_, _)]]) rfl ?_ | skip
    refine w_append 3 rfl wt_none Try.underlying59 sz3 by3 zr3 rfl rfl rfl hO rfl rfl (fun w X M => (SlF.src Try.underlying59 (slF_lit M (k := 4) (j := 0) rfl rfl rfl rfl) rfl)) (by simp only [maxLen]; omega) (by omega) (fun _ => (by repeat (first | exact trivial | refine ⟨.inr rfl, ?_⟩ | refine ⟨.inl rfl, ?_⟩))) (fun _ h => List.mem_append_left _ (h)) ?_
    intro s1 sg1 hO1
    first | refine w_nf (L' := [_, _, _, _, [(_, _)]]) rfl ?_ | skip
    refine w_val rfl wt_none (fun w => (r_fieldAddr (o' := 26) fb61_6 (by decide) rfl rfl)) ?_
    refine w_nil ?_
    intro w M
    refine a_storeS (v := .slice _ _ _) (cs' := [_, _, _, _, _, _, _, _, _, _, _, _, _, _, _, _, _, _, _, _, _, _, _, _, _, _, _]) sz59 M rfl rfl rfl (k := 2) (j := 0) rfl rfl rfl rfl rfl rfl ?_
    intro w M
    first | replace M := M.nf (L' := [_, _, _, _, [(_, _)]]) rfl | skip
    refine s_nil (e_blk (e_then (c_region ?_)))
    first | (refine s_val (r_add rfl rfl (w64 (by omega) (by omega))) ?_) | (refine s_val (r_add rfl rfl rfl) ?_)
    refine s_val (r_move (v := .int _ _) rfl) ?_
    refine s_nil (e_then ?_)
    exact loop_end m (k + 1, l ++ [(r3.count 63).1], (r3.count 63).2, g, s1, sg1) (by repeat (first | exact ag_refl | exact ag_mask rfl ag_refl | refine ag_upd rfl ?_ | refine ag_mask rfl ?_)) ⟨i64succ k, trivial⟩ (by omega) ⟨by omega, hg, by simp [hl], by rw [List.flatMap_append, List.length_append]; exact hO1, hB, by
      have e : (l ++ [(r3.count 63).1]).length = l.length + 1 := by simp
      simp only [drw, e]
      exact (M.picks [0, 1, 2, 3] rfl rfl).useG (by simp)⟩
   ·
    obtain rfl : m = 0 := by omega
    have hr : drwTk r = (⟨st, false, 0, 0, 0, 0, 0, 0, 0, (r1.byte.2.count 3).1, ((r1.byte.2.count 3).2.count 3).1, r1.byte.1, l⟩, r3) := by
      have hg2 : idxGo n.toNat [] r2 = (l, r3) := hg.symm
      unfold drwTk; rw [hst]
      simp only [if_neg h12, hRR, hg2]
    refine c_exit (e_then_exit (e_then_exit (e_blk_here (e_then (c_seq (c_region ?_))))))
    refine a_loadA Try.underlying61 rfl sz61 M rfl (k := 2) (j := 0) rfl rfl rfl ?_
    refine a_storeS (v := .agg _) (cs' := [_, _, _, _, _, _, _, _, _, _, _, _, _, _, _, _, _, _, _, _, _, _, _, _, _, _, _]) sz61 M rfl rfl cells_agg (k := 1) (j := 0) rfl rfl rfl rfl rfl rfl ?_
    intro w M
    first | replace M := M.nf (L' := [_, _, _, _]) rfl | skip
    refine s_nil (e_then (c_ret ?_))
    refine ret_run (res_c rfl rfl (run_loadVarN Try.underlying61 rfl sz61 rfl (M.cellsA (k := 1) (j := 0) rfl rfl))) ?_
    exact ⟨_, (sgr, s, sgp), rfl, ⟨by rw [hr], by rw [hr]; exact hB, by rw [hr]; exact hO⟩, (M.picks [0, 3] rfl rfl).useG (by simp)⟩
end Go.Proofs.Ytcjnniigonaapaa
