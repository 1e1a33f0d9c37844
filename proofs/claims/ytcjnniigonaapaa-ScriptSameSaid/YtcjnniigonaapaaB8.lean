/-
  WALKS B8: scripts taken.
-/
import Derived.Test.YtcjnniigonaapaaB7
namespace Go.Proofs.Ytcjnniigonaapaa
open Go Go.Az Go.Proofs
set_option maxHeartbeats 1000000
theorem strAZ {l : List Int} (h : By8 l) : ((strOfNums l).toList == (ByteArray.mk #[65, 90]).toList) = decide (l = [65, 90]) := by
  have e : (ByteArray.mk #[65, 90]) = strOfNums [65, 90] := rfl
  rw [e]
  by_cases hl : l = [65, 90]
  · subst hl; simp
  · rw [decide_eq_false hl]
    apply Bool.eq_false_iff.2
    intro hq
    exact hl (strOf_inj h (By8.cons (by decide) (by decide) (By8.cons (by decide) (by decide) By8.nil)) (by simpa using hq))
abbrev sc (w h : Int) (m : Mt) (V S P D : Value) : List Value := [i64 w, i64 h, i64 m.m0.a, i64 m.m0.b, i64 m.m0.c, i64 m.m0.d, i64 m.m1.a, i64 m.m1.b, i64 m.m1.c, i64 m.m1.d, i64 m.m2.a, i64 m.m2.b, i64 m.m2.c, i64 m.m2.d, i64 m.m3.a, i64 m.m3.b, i64 m.m3.c, i64 m.m3.d, V, S, P, D]
abbrev nilS : Value := .slice none 0 0
def zeroSV : SV := ⟨0, 0, ⟨0, 0, 0, 0⟩, ⟨0, 0, 0, 0⟩, ⟨0, 0, 0, 0⟩, ⟨0, 0, 0, 0⟩, ⟨none, 0⟩, [], ⟨none, 0⟩, [], ⟨none, 0⟩, [], ⟨none, 0⟩, []⟩
/-- what a script that was handed out is -/
abbrev ScrRes (g : SV × Seg × Seg × Seg × Seg) : Prop := Own 41 8 g.1.V g.1.vs.length (g.1.vs.flatMap vtx) g.2.1 ∧ Own 46 1 g.1.S g.1.ss.length (g.1.ss.flatMap encS) g.2.2.1 ∧
        Own 46 1 g.1.P g.1.ps.length (g.1.ps.flatMap encS) g.2.2.2.1 ∧ Own 61 27 g.1.D g.1.ds.length (g.1.ds.flatMap encD) g.2.2.2.2
theorem zero_res : ScrRes (zeroSV, [], [], [], []) := ⟨Own.nil _ _, Own.nil _ _, Own.nil _ _, Own.nil _ _⟩
theorem zero_in : ScrIn zeroSV := ⟨⟨(fun _ h => nomatch h), (fun _ h => nomatch h)⟩, (fun _ h => nomatch h)⟩

theorem _root_.Go.Az.St.zeroF {ks S0 : List Nat} {w0 w : World} {L : List Seg} (M : St ks S0 w0 w L []) : St ks S0 w0 w L [EaF zeroSV.ss, EaF zeroSV.ps, EdF zeroSV.ds] :=
  ((M.addFact (F := EaF zeroSV.ss) (fun _ _ x hx => absurd hx List.not_mem_nil)).addFact (F := EaF zeroSV.ps) (fun _ _ x hx => absurd hx List.not_mem_nil)).addFact (F := EdF zeroSV.ds) (fun _ _ x hx => absurd hx List.not_mem_nil)
theorem scrTakeOf (s : Sl) (n : Nat) (l : List Int) (hl : By8 l) (hn : n = l.length) (hn2 : n ≤ 1000000) (ks : List Nat) (w0 : World) (M : St ks [] w0 w0 [] [SlF s n 1 (bv l)]) :
    Calls Try.prog 10 #[s.v n] w0 fun e w' => ∃ v, ∃ g : SV × Seg × Seg × Seg × Seg, e = .returned v ∧
      (v = .tuple #[.agg g.1.cells.toArray, i64 (scrTk l).2] ∧ g.1.scr = (scrTk l).1 ∧ ScrIn g.1 ∧ ScrRes g) ∧ St ks [] w0 w' [g.2.1, g.2.2.1, g.2.2.2.1, g.2.2.2.2] [EaF g.1.ss, EaF g.1.ps, EdF g.1.ds] := by
  skip
  refine calls_of 98 Try.func10 rfl rfl rfl ?_
  refine c_seq (c_region ?_)
  refine a_alloc zr38 cells_agg M ?_
  intro b2 w M
  first | replace M := M.nf (L' := [[(_, _)]]) rfl | skip
  refine s_val (r_assign (v := .int _ _) rfl) ?_
  refine s_nil (e_then (c_seq (c_seq (c_region ?_))))
  refine s_val (r_move (v := .slice _ _ _) rfl) ?_
  refine s_val (r_len Try.underlying63 rfl) ?_
  refine s_val (r_gtr rfl rfl) ?_
  refine s_nil (e_then ?_)
  refine c_if rfl (fun h11 => ?_) (fun h11 => ?_)
  ·
   have hr : scrTk l = (zeroScr, 6) := if_pos (by omega)
   refine c_seq (c_region ?_)
   refine s_val (r_buildS (cs := [_, _, _, _, _, _, _, _, _, _, _, _, _, _, _, _, _, _, _, _, _, _]) zr38 cells_agg pl38 (ps := []) (qs := []) rfl trivial rfl) ?_
   refine a_storeS (v := .agg _) (cs' := [_, _, _, _, _, _, _, _, _, _, _, _, _, _, _, _, _, _, _, _, _, _]) sz38 M rfl rfl cells_agg (k := 0) (j := 0) rfl rfl rfl rfl rfl rfl ?_
   intro w M
   first | replace M := M.nf (L' := [[(_, _)]]) rfl | skip
   refine s_val (r_assign (v := .int _ _) rfl) ?_
   refine s_nil (e_then (c_ret (e_then_ret ?_)))
   refine ret_run (res_ct rfl rfl (run_loadVarN Try.underlying38 rfl sz38 rfl (M.cellsA (k := 0) (j := 0) rfl rfl)) rfl) ?_
   exact ⟨_, (zeroSV, [], [], [], []), rfl, ⟨by rw [hr]; rfl, by rw [hr]; rfl, zero_in, zero_res⟩, (((M.picks (L' := []) [] rfl rfl).useG (G' := []) (by simp)).flat (L' := [[], [], [], []]) rfl).zeroF⟩
  ·
   have hl1 : ¬ l.length > 20000 := by omega
   refine c_skip (e_then (c_seq (c_region ?_)))
   refine s_val (r_move (v := .slice _ _ _) rfl) ?_
   refine s_call0 (cl34 rfl) (rdRead s n l hl hn hn2) M (by simp) ?_
   rintro v ⟨b4, g⟩ w ⟨rfl, hB⟩ M
   first | replace M := M.nf (L' := [[(_, _)], _]) rfl | skip
   refine s_val (r_assign (v := .pointer _) rfl) ?_
   refine s_nil (e_then (c_seq (c_seq (c_region ?_))))
   refine s_val (r_move (v := .pointer _) rfl) ?_
   refine s_call1 1 (cl35 rfl) rfl (rdBytes b4 _ _ hB 2 (by decide)) M (fun _ h => nomatch h) ?_
   rintro v ⟨g, sw, sgw⟩ w ⟨rfl, hB, hO⟩ M
   first | replace M := M.nf (L' := [[(_, _)], _, _]) rfl | skip
   refine s_val (r_bytesStr (l := ((readB l).bytes 2).1) Try.underlying63 Try.underlying5 Try.underlying9 rfl (hO.slF M (k := 2) rfl (by decide))) ?_
   refine s_val (r_neqs rfl rfl) ?_
   refine s_nil (e_then ?_)
   refine c_cond rfl (fun h18 => ?_) (fun h18 => ?_)
   ·
    refine c_seq (c_region ?_)
    have hne : ((readB l).bytes 2).1 ≠ [65, 90] := by
      have q := h18
      rw [strAZ (Rd.bytes_by8 (r := readB l) ⟨Nat.zero_le _, hl, by show l.length ≤ 1000000; omega⟩ 2)] at q
      simpa using q
    have hr : scrTk l = (zeroScr, 4) := by rw [scrTk, if_neg hl1, if_pos hne]
    refine s_val (r_buildS (cs := [_, _, _, _, _, _, _, _, _, _, _, _, _, _, _, _, _, _, _, _, _, _]) zr38 cells_agg pl38 (ps := []) (qs := []) rfl trivial rfl) ?_
    refine a_storeS (v := .agg _) (cs' := [_, _, _, _, _, _, _, _, _, _, _, _, _, _, _, _, _, _, _, _, _, _]) sz38 M rfl rfl cells_agg (k := 0) (j := 0) rfl rfl rfl rfl rfl rfl ?_
    intro w M
    first | replace M := M.nf (L' := [[(_, _)], _, _]) rfl | skip
    refine s_val (r_assign (v := .int _ _) rfl) ?_
    refine s_nil (e_then (c_ret (e_then_ret ?_)))
    refine ret_run (res_ct rfl rfl (run_loadVarN Try.underlying38 rfl sz38 rfl (M.cellsA (k := 0) (j := 0) rfl rfl)) rfl) ?_
    exact ⟨_, (zeroSV, [], [], [], []), rfl, ⟨by rw [hr]; rfl, by rw [hr]; rfl, zero_in, zero_res⟩, (((M.picks (L' := []) [] rfl rfl).useG (G' := []) (by simp)).flat (L' := [[], [], [], []]) rfl).zeroF⟩
   ·
    refine c_skip (e_then (c_seq (c_region ?_)))
    have heq : ¬ ((readB l).bytes 2).1 ≠ [65, 90] := by
      have q := h18
      rw [strAZ (Rd.bytes_by8 (r := readB l) ⟨Nat.zero_le _, hl, by show l.length ≤ 1000000; omega⟩ 2)] at q
      simpa using q
    generalize hrr : ((readB l).bytes 2).2 = r at hB
    replace M := ((M.picks [1, 0] rfl rfl).useG (G' := []) (by simp))
    --nL=2 --slot 2=own(1,0,0)
    refine s_val (r_move (v := .pointer _) rfl) ?_
    refine s_call1 0 (cl36 rfl) rfl (rdCount b4 _ _ hB 64 (by decide)) M (fun _ h => nomatch h) ?_
    rintro v g w ⟨rfl, hB⟩ M
    first | replace M := M.nf (L' := [_, _]) rfl | skip
    refine s_val (r_move (v := .pointer _) rfl) ?_
    refine s_call1 0 (cl36 rfl) rfl (rdCount b4 _ _ hB 64 (by decide)) M (fun _ h => nomatch h) ?_
    rintro v g w ⟨rfl, hB⟩ M
    first | replace M := M.nf (L' := [_, _]) rfl | skip
    refine s_val (r_buildS (cs := [_, _, _, _, _, _, _, _, _, _, _, _, _, _, _, _, _, _, _, _, _, _]) zr38 cells_agg pl38 (ps := [(0, .int _ _), (1, .int _ _)]) (qs := [(0, [_]), (1, [_])]) rfl ⟨rfl, rfl, rfl, rfl, rfl, rfl, trivial⟩ rfl) ?_
    refine a_alloc zr38 cells_agg M ?_
    intro b5 w M
    first | replace M := M.nf (L' := [_, _, [(_, _)]]) rfl | skip
    refine a_storeS (v := .agg _) (cs' := [_, _, _, _, _, _, _, _, _, _, _, _, _, _, _, _, _, _, _, _, _, _]) sz38 M rfl rfl cells_agg (k := 2) (j := 0) rfl rfl rfl rfl rfl rfl ?_
    intro w M
    first | replace M := M.nf (L' := [_, _, [(_, _)]]) rfl | skip
    refine s_nil (e_then (c_seq (c_seq (c_region ?_))))
    refine s_val (r_move (v := .int _ _) rfl) ?_
    refine s_nil (e_then (c_block ?_))
    refine c_rounds 5 ?_
    refine c_round (c_seq (c_region ?_))
    refine s_val (r_lss rfl rfl) ?_
    refine s_nil (e_then (c_seq ?_))
    refine c_yes rfl (by decide) ?_
    refine c_skip (e_then (c_seq (c_block (c_seq (c_region ?_)))))
    refine s_val (r_move (v := .int _ _) rfl) ?_
    refine s_val (r_assign (v := .int _ _) rfl) ?_
    refine s_nil (e_then (c_region ?_))
    refine s_val (r_move (v := .int _ _) rfl) ?_
    refine s_val (r_move (v := .pointer _) rfl) ?_
    refine s_call1 0 (cl37 rfl) rfl (vectorOf b4 _ _ hB 2147483647 (by decide) (by decide)) M (fun _ h => nomatch h) ?_
    rintro v g w ⟨rfl, hB⟩ M
    first | replace M := M.nf (L' := [_, _, [(_, _)]]) rfl | skip
    refine s_val (r_fieldAddr (o' := 2) fb38_2 (by decide) rfl rfl) ?_
    refine s_val (r_indexAddrA (o' := 2) Try.underlying33 sz31 rfl rfl (by omega) (by omega) rfl) ?_
    refine a_storeS (v := .agg _) (cs' := [_, _, _, _, _, _, _, _, _, _, _, _, _, _, _, _, _, _, _, _, _, _]) sz31 M rfl rfl cells_agg (k := 2) (j := 0) rfl rfl rfl rfl rfl rfl ?_
    intro w M
    first | replace M := M.nf (L' := [_, _, [(_, _)]]) rfl | skip
    refine s_nil (e_blk (e_then (c_region ?_)))
    refine s_val (r_add (n := 1) rfl rfl (by decide)) ?_
    refine s_val (r_move (v := .int _ _) rfl) ?_
    refine s_nil (e_then (c_round (c_seq (c_region ?_))))
    refine s_val (r_lss rfl rfl) ?_
    refine s_nil (e_then (c_seq ?_))
    refine c_yes rfl (by decide) ?_
    refine c_skip (e_then (c_seq (c_block (c_seq (c_region ?_)))))
    refine s_val (r_move (v := .int _ _) rfl) ?_
    refine s_val (r_assign (v := .int _ _) rfl) ?_
    refine s_nil (e_then (c_region ?_))
    refine s_val (r_move (v := .int _ _) rfl) ?_
    refine s_val (r_move (v := .pointer _) rfl) ?_
    refine s_call1 0 (cl37 rfl) rfl (vectorOf b4 _ _ hB 2147483647 (by decide) (by decide)) M (fun _ h => nomatch h) ?_
    rintro v g w ⟨rfl, hB⟩ M
    first | replace M := M.nf (L' := [_, _, [(_, _)]]) rfl | skip
    refine s_val (r_fieldAddr (o' := 2) fb38_2 (by decide) rfl rfl) ?_
    refine s_val (r_indexAddrA (o' := 6) Try.underlying33 sz31 rfl rfl (by omega) (by omega) rfl) ?_
    refine a_storeS (v := .agg _) (cs' := [_, _, _, _, _, _, _, _, _, _, _, _, _, _, _, _, _, _, _, _, _, _]) sz31 M rfl rfl cells_agg (k := 2) (j := 0) rfl rfl rfl rfl rfl rfl ?_
    intro w M
    first | replace M := M.nf (L' := [_, _, [(_, _)]]) rfl | skip
    refine s_nil (e_blk (e_then (c_region ?_)))
    refine s_val (r_add (n := 2) rfl rfl (by decide)) ?_
    refine s_val (r_move (v := .int _ _) rfl) ?_
    refine s_nil (e_then (c_round (c_seq (c_region ?_))))
    refine s_val (r_lss rfl rfl) ?_
    refine s_nil (e_then (c_seq ?_))
    refine c_yes rfl (by decide) ?_
    refine c_skip (e_then (c_seq (c_block (c_seq (c_region ?_)))))
    refine s_val (r_move (v := .int _ _) rfl) ?_
    refine s_val (r_assign (v := .int _ _) rfl) ?_
    refine s_nil (e_then (c_region ?_))
    refine s_val (r_move (v := .int _ _) rfl) ?_
    refine s_val (r_move (v := .pointer _) rfl) ?_
    refine s_call1 0 (cl37 rfl) rfl (vectorOf b4 _ _ hB 2147483647 (by decide) (by decide)) M (fun _ h => nomatch h) ?_
    rintro v g w ⟨rfl, hB⟩ M
    first | replace M := M.nf (L' := [_, _, [(_, _)]]) rfl | skip
    refine s_val (r_fieldAddr (o' := 2) fb38_2 (by decide) rfl rfl) ?_
    refine s_val (r_indexAddrA (o' := 10) Try.underlying33 sz31 rfl rfl (by omega) (by omega) rfl) ?_
    refine a_storeS (v := .agg _) (cs' := [_, _, _, _, _, _, _, _, _, _, _, _, _, _, _, _, _, _, _, _, _, _]) sz31 M rfl rfl cells_agg (k := 2) (j := 0) rfl rfl rfl rfl rfl rfl ?_
    intro w M
    first | replace M := M.nf (L' := [_, _, [(_, _)]]) rfl | skip
    refine s_nil (e_blk (e_then (c_region ?_)))
    refine s_val (r_add (n := 3) rfl rfl (by decide)) ?_
    refine s_val (r_move (v := .int _ _) rfl) ?_
    refine s_nil (e_then (c_round (c_seq (c_region ?_))))
    refine s_val (r_lss rfl rfl) ?_
    refine s_nil (e_then (c_seq ?_))
    refine c_yes rfl (by decide) ?_
    refine c_skip (e_then (c_seq (c_block (c_seq (c_region ?_)))))
    refine s_val (r_move (v := .int _ _) rfl) ?_
    refine s_val (r_assign (v := .int _ _) rfl) ?_
    refine s_nil (e_then (c_region ?_))
    refine s_val (r_move (v := .int _ _) rfl) ?_
    refine s_val (r_move (v := .pointer _) rfl) ?_
    refine s_call1 0 (cl37 rfl) rfl (vectorOf b4 _ _ hB 2147483647 (by decide) (by decide)) M (fun _ h => nomatch h) ?_
    rintro v g w ⟨rfl, hB⟩ M
    first | replace M := M.nf (L' := [_, _, [(_, _)]]) rfl | skip
    refine s_val (r_fieldAddr (o' := 2) fb38_2 (by decide) rfl rfl) ?_
    refine s_val (r_indexAddrA (o' := 14) Try.underlying33 sz31 rfl rfl (by omega) (by omega) rfl) ?_
    refine a_storeS (v := .agg _) (cs' := [_, _, _, _, _, _, _, _, _, _, _, _, _, _, _, _, _, _, _, _, _, _]) sz31 M rfl rfl cells_agg (k := 2) (j := 0) rfl rfl rfl rfl rfl rfl ?_
    intro w M
    first | replace M := M.nf (L' := [_, _, [(_, _)]]) rfl | skip
    refine s_nil (e_blk (e_then (c_region ?_)))
    refine s_val (r_add (n := 4) rfl rfl (by decide)) ?_
    refine s_val (r_move (v := .int _ _) rfl) ?_
    refine s_nil (e_then (c_round (c_seq (c_region ?_))))
    refine s_val (r_lss rfl rfl) ?_
    refine s_nil (e_then (c_seq ?_))
    refine c_no rfl (by decide) ?_
    refine c_exit (e_then_exit (e_then_exit (e_blk_here (e_then (c_seq (c_seq (c_region ?_)))))))
    replace hB : RdAt' b4 (mtTk (hdTk r).2).2 g := by simp only [mtTk, hdTk]; exact hB
    replace M : St ks [] w0 w [g, [(b2, C zcells 38)], [(b5, C (sc (hdTk r).1.1 (hdTk r).1.2 (mtTk (hdTk r).2).1 nilS nilS nilS nilS) 38)]] [] := by simp only [mtTk, hdTk]; exact (M.picks [0, 1, 2] rfl rfl).useG (by simp)
    generalize hmm : mtTk (hdTk r).2 = mt at hB M
    generalize hhd : hdTk r = hd at hmm M
    have hcr := Rd.count_range hB.1 64
    refine s_val (r_move (v := .pointer _) rfl) ?_
    refine s_call1 0 (cl36 rfl) rfl (rdCount b4 _ _ hB 64 (by decide)) M (fun _ h => nomatch h) ?_
    rintro v g w ⟨rfl, hB⟩ M
    first | replace M := M.nf (L' := [_, _, [(_, _)]]) rfl | skip
    refine s_val (r_move (v := .int _ _) rfl) ?_
    refine s_nil (e_then (c_block ?_))
    refine c_loopG [36, 37, 38, 39, 40, 41, 42, 43, 44, 45, 46, 47, 48] (Γ := Nat × List Vtx × Rd × Seg × Sl × Seg) (vals := fun (k, l, r', sgr, s, sgp) => [(36, i64 k)]) (I := fun m (k, l, r', sgr, s, sgp) w => m + k = (mt.2.count 64).1.toNat ∧ vtxGo m l r' = vsTk mt.2 ∧ l.length = k ∧ Own 41 8 s l.length (l.flatMap vtx) sgp ∧ RdAt' b4 r' sgr ∧ St ks [] w0 w [sgr, [(b2, C zcells 38)], [(b5, C (sc hd.1.1 hd.1.2 mt.1 (s.v l.length) nilS nilS nilS) 38)], sgp] []) (mt.2.count 64).1.toNat (0, [], _, g, ⟨none, 0⟩, []) ⟨rfl, trivial⟩ ⟨rfl, rfl, rfl, Own.nil _ _, hB, ((M.picks [0, 1, 2] rfl rfl).useG (by simp)).flat rfl⟩ ?_
    rintro m ⟨k, lV, r1, sgr, sV, sgV⟩ e w ⟨hk, hg, hlV, hOV, hB, M⟩
    refine c_seq (c_region ?_)
    refine s_val (r_lss rfl rfl) ?_
    refine s_nil (e_then (c_seq ?_))
    refine c_if rfl (fun h37 => ?_) (fun h37 => ?_)
    ·
     obtain ⟨m, rfl⟩ : ∃ j, m = j + 1 := ⟨m - 1, by omega⟩
     rw [vtxGo] at hg
     refine c_skip (e_then (c_seq (c_block ?_)))
     refine c_drawT (by kernel_rfl) [(.q, 2), (.ch, 3), (.q, 4), (.ch, 5), (.q, 0), (.q, 1), (.q, 6), (.fl, 7), (.ch, 8), (.q, 9)] [10] [[], [0], [], [2], [], [2, 3, 4], [2, 3, 4, 5], [2, 3, 4, 5, 6], [0, 1, 2, 3, 4, 5, 6, 7], [0, 1, 2, 3, 4, 5, 6, 7, 8], [0, 1, 2, 3, 4, 5, 6, 7, 8, 9]] (by kernel_rfl) [0, 3] M ?_
     refine w_val rfl wt_none (fun w => (r_move (v := .pointer _) rfl)) ?_
     refine w_call1 0 rfl wt_none (fun w => cl37 rfl) rfl (vectorOf b4 _ _ hB 4194304 (by decide) (by decide)) (fun _ h => nomatch h) (fun _ _ => (by repeat (first | exact trivial | refine ⟨.inr rfl, ?_⟩ | refine ⟨.inl rfl, ?_⟩))) (fun _ h => h) ?_
     rintro v g ⟨rfl, hB⟩
     first | refine w_nf (L' := [_, _, _, _]) rfl ?_ | skip
     refine w_val rfl wt_none (fun w => (r_move (v := .pointer _) rfl)) ?_
     refine w_call1 0 rfl wt_none (fun w => cl37 rfl) rfl (vectorOf b4 _ _ hB 4194304 (by decide) (by decide)) (fun _ h => nomatch h) (fun _ _ => (by repeat (first | exact trivial | refine ⟨.inr rfl, ?_⟩ | refine ⟨.inl rfl, ?_⟩))) (fun _ h => List.mem_append_left _ (h)) ?_
     rintro v g ⟨rfl, hB⟩
     first | refine w_nf (L' := [_, _, _, _]) rfl ?_ | skip
     refine w_val rfl wt_none (fun w => (r_fieldAddr (o' := 18) fb38_3 (by decide) rfl rfl)) ?_
     refine w_read (v := .slice _ _ _) rfl wt_none (fun w X G' M => r_load1 Try.underlying34 rfl rfl (M.cell (k := 2) (j := 0) rfl rfl rfl)) ?_
     refine w_val rfl wt_none (fun w => (r_buildS (cs := [_, _, _, _, _, _, _, _]) zr41 cells_agg pl41 (ps := [(0, .agg _), (1, .agg _)]) (qs := [(0, [_, _, _, _]), (4, [_, _, _, _])]) rfl ⟨cells_agg, rfl, rfl, cells_agg, rfl, rfl, trivial⟩ rfl)) ?_
     refine w_buildSliceS (cs := [_, _, _, _, _, _, _, _]) rfl wt_none Try.underlying34 sz41 zr41 cells_agg rfl (by decide) rfl (ps := [(0, .agg _)]) (qs := [(0, [_, _, _, _, _, _, _, _])]) rfl ⟨cells_agg, rfl, rfl, trivial⟩ rfl ?_
     intro b45
     first | refine w_nf (L' := [_, _, _, _, [(_, _)]]) rfl ?_ | skip
     refine w_append 3 rfl wt_none Try.underlying34 sz41 by41 zr41 cells_agg rfl rfl hOV rfl rfl (fun w X M => (SlF.src Try.underlying34 (slF_lit M (k := 4) (j := 0) rfl rfl rfl rfl) rfl)) (by simp only [maxLen]; omega) (by omega) (fun _ => (by repeat (first | exact trivial | refine ⟨.inr rfl, ?_⟩ | refine ⟨.inl rfl, ?_⟩))) (fun _ h => List.mem_append_left _ (List.mem_append_left _ (h))) ?_
     intro s1 sg1 hO1
     first | refine w_nf (L' := [_, _, _, _, [(_, _)]]) rfl ?_ | skip
     refine w_val rfl wt_none (fun w => (r_fieldAddr (o' := 18) fb38_3 (by decide) rfl rfl)) ?_
     refine w_nil ?_
     intro w M
     refine a_storeS (v := .slice _ _ _) (cs' := [_, _, _, _, _, _, _, _, _, _, _, _, _, _, _, _, _, _, _, _, _, _]) sz34 M rfl rfl rfl (k := 2) (j := 0) rfl rfl rfl rfl rfl rfl ?_
     intro w M
     first | replace M := M.nf (L' := [_, _, _, _, [(_, _)]]) rfl | skip
     refine s_nil (e_blk (e_then (c_region ?_)))
     first | (refine s_val (r_add rfl rfl (w64 (by omega) (by omega))) ?_) | (refine s_val (r_add rfl rfl rfl) ?_)
     refine s_val (r_move (v := .int _ _) rfl) ?_
     refine s_nil (e_then ?_)
     exact loop_end m (k + 1, lV ++ [⟨(vecTk r1 4194304).1, (vecTk (vecTk r1 4194304).2 4194304).1⟩], (vecTk (vecTk r1 4194304).2 4194304).2, g, s1, sg1) (by repeat (first | exact ag_refl | exact ag_mask rfl ag_refl | refine ag_upd rfl ?_ | refine ag_mask rfl ?_)) ⟨i64succ k, trivial⟩ (by omega) ⟨by omega, hg, by simp [hlV], by rw [List.flatMap_append, List.length_append]; exact hO1, hB, by
       rw [List.length_append]
       exact (M.picks [0, 1, 2, 3] rfl rfl).useG (by simp)⟩
    ·
     obtain rfl : m = 0 := by omega
     have hvs : vsTk mt.2 = (lV, r1) := hg.symm
     have hcr2 := Rd.count_range hB.1 4
     refine c_exit (e_then_exit (e_then_exit (e_blk_here (e_then (c_seq (c_seq (c_region ?_)))))))
     refine s_val (r_move (v := .pointer _) rfl) ?_
     refine s_call1 0 (cl36 rfl) rfl (rdCount b4 _ _ hB 4 (by decide)) M (fun _ h => nomatch h) ?_
     rintro v g w ⟨rfl, hB⟩ M
     first | replace M := M.nf (L' := [_, _, _, _]) rfl | skip
     replace M := M.addFact (F := EaF []) (fun _ _ x hx => absurd hx List.not_mem_nil)
     refine s_val (r_move (v := .int _ _) rfl) ?_
     refine s_nil (e_then (c_block ?_))
     refine c_loopG [51, 52, 53, 54, 55, 56, 57, 58, 59, 60] (Γ := Nat × List (Sl × Prog) × Rd × Seg × Sl × Seg) (vals := fun (k, l, r', sgr, s, sgp) => [(51, i64 k)]) (I := fun m (k, l, r', sgr, s, sgp) w => m + k = (r1.count 4).1.toNat ∧ progsGo false m (l.map (·.2)) r' = psTk false r1 ∧ l.length = k ∧ (∀ y ∈ l, Prog.wf y.2) ∧ Own 46 1 s l.length (l.flatMap encS) sgp ∧ RdAt' b4 r' sgr ∧ St ks [] w0 w [sgr, [(b2, C zcells 38)], [(b5, C (sc hd.1.1 hd.1.2 mt.1 (sV.v lV.length) (s.v l.length) nilS nilS) 38)], sgV, sgp] [EaF l]) (r1.count 4).1.toNat (0, [], _, g, ⟨none, 0⟩, []) ⟨rfl, trivial⟩ ⟨rfl, rfl, rfl, (fun _ h => nomatch h), Own.nil _ _, hB, ((M.picks [0, 1, 2, 3] rfl rfl).useG (by simp)).flat rfl⟩ ?_
     rintro m ⟨k, lS, r2, sgr, sS, sgS⟩ e w ⟨hk, hg, hlS, hwS, hOS, hB, M⟩
     refine c_seq (c_region ?_)
     refine s_val (r_lss rfl rfl) ?_
     refine s_nil (e_then (c_seq ?_))
     refine c_if rfl (fun h52 => ?_) (fun h52 => ?_)
     ·
      obtain ⟨m, rfl⟩ : ∃ j, m = j + 1 := ⟨m - 1, by omega⟩
      rw [progsGo] at hg
      have hpw := progTk_wf hB.1 false
      refine c_skip (e_then (c_seq (c_block ?_)))
      refine c_drawT (by kernel_rfl) [(.q, 2), (.ch, 3), (.q, 0), (.q, 1), (.fl, 4), (.ch, 5), (.q, 6)] [7] [[], [0], [], [2], [2, 3], [0, 1, 2, 3, 4], [0, 1, 2, 3, 4, 5], [0, 1, 2, 3, 4, 5, 6]] (by kernel_rfl) [0, 4] M ?_
      refine w_val rfl wt_none (fun w => (r_move (v := .pointer _) rfl)) ?_
      refine w_call1 0 rfl wt_none (fun w => cl38 rfl) rfl (progTake b4 _ _ hB false) (fun _ h => nomatch h) (fun _ _ => (by repeat (first | exact trivial | refine ⟨.inr rfl, ?_⟩ | refine ⟨.inl rfl, ?_⟩))) (fun _ h => h) ?_
      rintro v ⟨g, sp, sgp⟩ ⟨rfl, hB, hOp⟩
      first | refine w_nf (L' := [_, _, _, _, _, _]) rfl ?_ | skip
      refine w_val rfl wt_none (fun w => (r_fieldAddr (o' := 19) fb38_4 (by decide) rfl rfl)) ?_
      refine w_read (v := .slice _ _ _) rfl wt_none (fun w X G' M => r_load1 Try.underlying35 rfl rfl (M.cell (k := 2) (j := 0) rfl rfl rfl)) ?_
      refine w_buildSliceS (cs := [_]) rfl wt_none Try.underlying35 sz46 zr46 rfl rfl (by decide) rfl (ps := [(0, .slice _ _ _)]) (qs := [(0, [_])]) rfl ⟨rfl, rfl, rfl, trivial⟩ rfl ?_
      intro b57
      first | refine w_nf (L' := [_, _, _, _, _, _, [(_, _)]]) rfl ?_ | skip
      refine w_append 4 rfl wt_none Try.underlying35 sz46 by46 zr46 rfl rfl rfl hOS rfl rfl (fun w X M => (SlF.src Try.underlying35 (slF_lit M (k := 6) (j := 0) rfl rfl rfl rfl) rfl)) (by simp only [maxLen]; omega) (by omega) (fun _ => (by repeat (first | exact trivial | refine ⟨.inr rfl, ?_⟩ | refine ⟨.inl rfl, ?_⟩))) (fun _ h => List.mem_append_left _ (h)) ?_
      intro s1 sg1 hO1
      first | refine w_nf (L' := [_, _, _, _, _, _, [(_, _)]]) rfl ?_ | skip
      refine w_val rfl wt_none (fun w => (r_fieldAddr (o' := 19) fb38_4 (by decide) rfl rfl)) ?_
      refine w_nil ?_
      intro w M
      refine a_storeS (v := .slice _ _ _) (cs' := [_, _, _, _, _, _, _, _, _, _, _, _, _, _, _, _, _, _, _, _, _, _]) sz35 M rfl rfl rfl (k := 2) (j := 0) rfl rfl rfl rfl rfl rfl ?_
      intro w M
      first | replace M := M.nf (L' := [_, _, _, _, _, _, [(_, _)]]) rfl | skip
      refine s_nil (e_blk (e_then (c_region ?_)))
      first | (refine s_val (r_add rfl rfl (w64 (by omega) (by omega))) ?_) | (refine s_val (r_add rfl rfl rfl) ?_)
      refine s_val (r_move (v := .int _ _) rfl) ?_
      refine s_nil (e_then ?_)
      replace M := M.frz (k := 5) rfl (PrF sp (progTk r2 false).1) (fun w' h => hOp.lsF (by decide) (fun _ _ => rfl) h)
      replace M := M.addFact (F := EaF (lS ++ [(sp, (progTk r2 false).1)])) (((M.stable (j := 0) rfl).and (M.stable (j := 1) rfl)).imp fun w' h y hy => by
        rcases List.mem_append.1 hy with hy | hy
        · exact h.1 y hy
        · rw [List.mem_singleton.1 hy]; exact h.2)
      exact loop_end m (k + 1, lS ++ [(sp, (progTk r2 false).1)], (progTk r2 false).2, g, s1, sg1) (by repeat (first | exact ag_refl | exact ag_mask rfl ag_refl | refine ag_upd rfl ?_ | refine ag_mask rfl ?_)) ⟨i64succ k, trivial⟩ (by omega) ⟨by omega, by rw [List.map_append]; exact hg, by simp [hlS], (fun y hy => by
        rcases List.mem_append.1 hy with hy | hy
        · exact hwS y hy
        · rw [List.mem_singleton.1 hy]; exact hpw.1), by rw [List.flatMap_append, List.length_append]; exact hO1, hB, by
        rw [List.length_append]
        exact (M.picks [0, 1, 2, 3, 4] rfl rfl).useG (by simp)⟩
     ·
      obtain rfl : m = 0 := by omega
      have hss : psTk false r1 = (lS.map (·.2), r2) := hg.symm
      have hcr3 := Rd.count_range hB.1 4
      refine c_exit (e_then_exit (e_then_exit (e_blk_here (e_then (c_seq (c_seq (c_region ?_)))))))
      refine s_val (r_move (v := .pointer _) rfl) ?_
      refine s_call1 0 (cl36 rfl) rfl (rdCount b4 _ _ hB 4 (by decide)) M (fun _ h => nomatch h) ?_
      rintro v g w ⟨rfl, hB⟩ M
      first | replace M := M.nf (L' := [_, _, _, _, _]) rfl | skip
      replace M := M.addFact (F := EaF []) (fun _ _ x hx => absurd hx List.not_mem_nil)
      refine s_val (r_move (v := .int _ _) rfl) ?_
      refine s_nil (e_then (c_block ?_))
      refine c_loopG [63, 64, 65, 66, 67, 68, 69, 70, 71, 72] (Γ := Nat × List (Sl × Prog) × Rd × Seg × Sl × Seg) (vals := fun (k, l, r', sgr, s, sgp) => [(63, i64 k)]) (I := fun m (k, l, r', sgr, s, sgp) w => m + k = (r2.count 4).1.toNat ∧ progsGo true m (l.map (·.2)) r' = psTk true r2 ∧ l.length = k ∧ (∀ y ∈ l, Prog.wf y.2) ∧ Own 46 1 s l.length (l.flatMap encS) sgp ∧ RdAt' b4 r' sgr ∧ St ks [] w0 w [sgr, [(b2, C zcells 38)], [(b5, C (sc hd.1.1 hd.1.2 mt.1 (sV.v lV.length) (sS.v lS.length) (s.v l.length) nilS) 38)], sgV, sgS, sgp] [EaF lS, EaF l]) (r2.count 4).1.toNat (0, [], _, g, ⟨none, 0⟩, []) ⟨rfl, trivial⟩ ⟨rfl, rfl, rfl, (fun _ h => nomatch h), Own.nil _ _, hB, ((M.picks [0, 1, 2, 3, 4] rfl rfl).useG (by simp)).flat rfl⟩ ?_
      rintro m ⟨k, lP, r3, sgr, sP, sgP⟩ e w ⟨hk, hg, hlP, hwP, hOP, hB, M⟩
      refine c_seq (c_region ?_)
      refine s_val (r_lss rfl rfl) ?_
      refine s_nil (e_then (c_seq ?_))
      refine c_if rfl (fun h64 => ?_) (fun h64 => ?_)
      ·
       obtain ⟨m, rfl⟩ : ∃ j, m = j + 1 := ⟨m - 1, by omega⟩
       rw [progsGo] at hg
       have hpw := progTk_wf hB.1 true
       refine c_skip (e_then (c_seq (c_block ?_)))
       refine c_drawT (by kernel_rfl) [(.q, 2), (.ch, 3), (.q, 0), (.q, 1), (.fl, 4), (.ch, 5), (.q, 6)] [7] [[], [0], [], [2], [2, 3], [0, 1, 2, 3, 4], [0, 1, 2, 3, 4, 5], [0, 1, 2, 3, 4, 5, 6]] (by kernel_rfl) [0, 5] M ?_
       refine w_val rfl wt_none (fun w => (r_move (v := .pointer _) rfl)) ?_
       refine w_call1 0 rfl wt_none (fun w => cl38 rfl) rfl (progTake b4 _ _ hB true) (fun _ h => nomatch h) (fun _ _ => (by repeat (first | exact trivial | refine ⟨.inr rfl, ?_⟩ | refine ⟨.inl rfl, ?_⟩))) (fun _ h => h) ?_
       rintro v ⟨g, sp, sgp⟩ ⟨rfl, hB, hOp⟩
       first | refine w_nf (L' := [_, _, _, _, _, _, _]) rfl ?_ | skip
       refine w_val rfl wt_none (fun w => (r_fieldAddr (o' := 20) fb38_5 (by decide) rfl rfl)) ?_
       refine w_read (v := .slice _ _ _) rfl wt_none (fun w X G' M => r_load1 Try.underlying35 rfl rfl (M.cell (k := 2) (j := 0) rfl rfl rfl)) ?_
       refine w_buildSliceS (cs := [_]) rfl wt_none Try.underlying35 sz46 zr46 rfl rfl (by decide) rfl (ps := [(0, .slice _ _ _)]) (qs := [(0, [_])]) rfl ⟨rfl, rfl, rfl, trivial⟩ rfl ?_
       intro b69
       first | refine w_nf (L' := [_, _, _, _, _, _, _, [(_, _)]]) rfl ?_ | skip
       refine w_append 5 rfl wt_none Try.underlying35 sz46 by46 zr46 rfl rfl rfl hOP rfl rfl (fun w X M => (SlF.src Try.underlying35 (slF_lit M (k := 7) (j := 0) rfl rfl rfl rfl) rfl)) (by simp only [maxLen]; omega) (by omega) (fun _ => (by repeat (first | exact trivial | refine ⟨.inr rfl, ?_⟩ | refine ⟨.inl rfl, ?_⟩))) (fun _ h => List.mem_append_left _ (h)) ?_
       intro s1 sg1 hO1
       first | refine w_nf (L' := [_, _, _, _, _, _, _, [(_, _)]]) rfl ?_ | skip
       refine w_val rfl wt_none (fun w => (r_fieldAddr (o' := 20) fb38_5 (by decide) rfl rfl)) ?_
       refine w_nil ?_
       intro w M
       refine a_storeS (v := .slice _ _ _) (cs' := [_, _, _, _, _, _, _, _, _, _, _, _, _, _, _, _, _, _, _, _, _, _]) sz35 M rfl rfl rfl (k := 2) (j := 0) rfl rfl rfl rfl rfl rfl ?_
       intro w M
       first | replace M := M.nf (L' := [_, _, _, _, _, _, _, [(_, _)]]) rfl | skip
       refine s_nil (e_blk (e_then (c_region ?_)))
       first | (refine s_val (r_add rfl rfl (w64 (by omega) (by omega))) ?_) | (refine s_val (r_add rfl rfl rfl) ?_)
       refine s_val (r_move (v := .int _ _) rfl) ?_
       refine s_nil (e_then ?_)
       replace M := M.frz (k := 6) rfl (PrF sp (progTk r3 true).1) (fun w' h => hOp.lsF (by decide) (fun _ _ => rfl) h)
       replace M := M.addFact (F := EaF (lP ++ [(sp, (progTk r3 true).1)])) (((M.stable (j := 1) rfl).and (M.stable (j := 2) rfl)).imp fun w' h y hy => by
         rcases List.mem_append.1 hy with hy | hy
         · exact h.1 y hy
         · rw [List.mem_singleton.1 hy]; exact h.2)
       exact loop_end m (k + 1, lP ++ [(sp, (progTk r3 true).1)], (progTk r3 true).2, g, s1, sg1) (by repeat (first | exact ag_refl | exact ag_mask rfl ag_refl | refine ag_upd rfl ?_ | refine ag_mask rfl ?_)) ⟨i64succ k, trivial⟩ (by omega) ⟨by omega, by rw [List.map_append]; exact hg, by simp [hlP], (fun y hy => by
         rcases List.mem_append.1 hy with hy | hy
         · exact hwP y hy
         · rw [List.mem_singleton.1 hy]; exact hpw.1), by rw [List.flatMap_append, List.length_append]; exact hO1, hB, by
         rw [List.length_append]
         exact (M.picks [0, 1, 2, 3, 4, 5] rfl rfl).useG (by simp)⟩
      ·
       obtain rfl : m = 0 := by omega
       have hps : psTk true r2 = (lP.map (·.2), r3) := hg.symm
       have hcr4 := Rd.count_range hB.1 32
       refine c_exit (e_then_exit (e_then_exit (e_blk_here (e_then (c_seq (c_seq (c_region ?_)))))))
       refine s_val (r_move (v := .pointer _) rfl) ?_
       refine s_call1 0 (cl36 rfl) rfl (rdCount b4 _ _ hB 32 (by decide)) M (fun _ h => nomatch h) ?_
       rintro v g w ⟨rfl, hB⟩ M
       first | replace M := M.nf (L' := [_, _, _, _, _, _]) rfl | skip
       replace M := M.addFact (F := EdF []) (fun _ _ x hx => absurd hx List.not_mem_nil)
       refine s_val (r_move (v := .int _ _) rfl) ?_
       refine s_nil (e_then (c_block ?_))
       refine c_loopG [75, 76, 77, 78, 79, 80, 81, 82, 83, 84] (Γ := Nat × List (Sl × Drw) × Rd × Seg × Sl × Seg) (vals := fun (k, l, r', sgr, s, sgp) => [(75, i64 k)]) (I := fun m (k, l, r', sgr, s, sgp) w => m + k = (r3.count 32).1.toNat ∧ drwGo m (l.map (·.2)) r' = dsTk r3 ∧ l.length = k ∧ (∀ y ∈ l, y.2.indices.length ≤ 1000) ∧ Own 61 27 s l.length (l.flatMap encD) sgp ∧ RdAt' b4 r' sgr ∧ St ks [] w0 w [sgr, [(b2, C zcells 38)], [(b5, C (sc hd.1.1 hd.1.2 mt.1 (sV.v lV.length) (sS.v lS.length) (sP.v lP.length) (s.v l.length)) 38)], sgV, sgS, sgP, sgp] [EaF lS, EaF lP, EdF l]) (r3.count 32).1.toNat (0, [], _, g, ⟨none, 0⟩, []) ⟨rfl, trivial⟩ ⟨rfl, rfl, rfl, (fun _ h => nomatch h), Own.nil _ _, hB, ((M.picks [0, 1, 2, 3, 4, 5] rfl rfl).useG (by simp)).flat rfl⟩ ?_
       rintro m ⟨k, lD, r4, sgr, sD, sgD⟩ e w ⟨hk, hg, hlD, hiD, hOD, hB, M⟩
       refine c_seq (c_region ?_)
       refine s_val (r_lss rfl rfl) ?_
       refine s_nil (e_then (c_seq ?_))
       refine c_if rfl (fun h76 => ?_) (fun h76 => ?_)
       ·
        obtain ⟨m, rfl⟩ : ∃ j, m = j + 1 := ⟨m - 1, by omega⟩
        rw [drwGo] at hg
        have hdi : (drwTk r4).1.indices.length ≤ 1000 := by
          have h1 := hB.1
          have := drwTk_idx (r := r4) (((sttTk_ok h1).byte.count 3).count 3)
          omega
        refine c_skip (e_then (c_seq (c_block ?_)))
        refine c_drawT (by kernel_rfl) [(.q, 2), (.ch, 3), (.q, 0), (.q, 1), (.fl, 4), (.ch, 5), (.q, 6)] [7] [[], [0], [], [2], [2, 3], [0, 1, 2, 3, 4], [0, 1, 2, 3, 4, 5], [0, 1, 2, 3, 4, 5, 6]] (by kernel_rfl) [0, 6] M ?_
        refine w_val rfl wt_none (fun w => (r_move (v := .pointer _) rfl)) ?_
        refine w_call1 0 rfl wt_none (fun w => cl39 rfl) rfl (drawTake b4 _ _ hB) (fun _ h => nomatch h) (fun _ _ => (by repeat (first | exact trivial | refine ⟨.inr rfl, ?_⟩ | refine ⟨.inl rfl, ?_⟩))) (fun _ h => h) ?_
        rintro v ⟨g, sp, sgp⟩ ⟨rfl, hB, hOp⟩
        first | refine w_nf (L' := [_, _, _, _, _, _, _, _]) rfl ?_ | skip
        refine w_val rfl wt_none (fun w => (r_fieldAddr (o' := 21) fb38_6 (by decide) rfl rfl)) ?_
        refine w_read (v := .slice _ _ _) rfl wt_none (fun w X G' M => r_load1 Try.underlying36 rfl rfl (M.cell (k := 2) (j := 0) rfl rfl rfl)) ?_
        refine w_buildSliceS (cs := [_, _, _, _, _, _, _, _, _, _, _, _, _, _, _, _, _, _, _, _, _, _, _, _, _, _, _]) rfl wt_none Try.underlying36 sz61 zr61 cells_agg rfl (by decide) rfl (ps := [(0, .agg _)]) (qs := [(0, [_, _, _, _, _, _, _, _, _, _, _, _, _, _, _, _, _, _, _, _, _, _, _, _, _, _, _])]) rfl ⟨cells_agg, rfl, rfl, trivial⟩ rfl ?_
        intro b81
        first | refine w_nf (L' := [_, _, _, _, _, _, _, _, [(_, _)]]) rfl ?_ | skip
        refine w_append 6 rfl wt_none Try.underlying36 sz61 by61 zr61 cells_agg rfl rfl hOD rfl rfl (fun w X M => (SlF.src Try.underlying36 (slF_lit M (k := 8) (j := 0) rfl rfl rfl rfl) rfl)) (by simp only [maxLen]; omega) (by omega) (fun _ => (by repeat (first | exact trivial | refine ⟨.inr rfl, ?_⟩ | refine ⟨.inl rfl, ?_⟩))) (fun _ h => List.mem_append_left _ (h)) ?_
        intro s1 sg1 hO1
        first | refine w_nf (L' := [_, _, _, _, _, _, _, _, [(_, _)]]) rfl ?_ | skip
        refine w_val rfl wt_none (fun w => (r_fieldAddr (o' := 21) fb38_6 (by decide) rfl rfl)) ?_
        refine w_nil ?_
        intro w M
        refine a_storeS (v := .slice _ _ _) (cs' := [_, _, _, _, _, _, _, _, _, _, _, _, _, _, _, _, _, _, _, _, _, _]) sz36 M rfl rfl rfl (k := 2) (j := 0) rfl rfl rfl rfl rfl rfl ?_
        intro w M
        first | replace M := M.nf (L' := [_, _, _, _, _, _, _, _, [(_, _)]]) rfl | skip
        refine s_nil (e_blk (e_then (c_region ?_)))
        first | (refine s_val (r_add rfl rfl (w64 (by omega) (by omega))) ?_) | (refine s_val (r_add rfl rfl rfl) ?_)
        refine s_val (r_move (v := .int _ _) rfl) ?_
        refine s_nil (e_then ?_)
        replace M := M.frz (k := 7) rfl (LsF encN 1 sp (drwTk r4).1.indices) (fun w' h => hOp.lsF (by decide) (fun _ _ => rfl) h)
        replace M := M.addFact (F := EdF (lD ++ [(sp, (drwTk r4).1)])) (((M.stable (j := 2) rfl).and (M.stable (j := 3) rfl)).imp fun w' h y hy => by
          rcases List.mem_append.1 hy with hy | hy
          · exact h.1 y hy
          · rw [List.mem_singleton.1 hy]; exact h.2)
        exact loop_end m (k + 1, lD ++ [(sp, (drwTk r4).1)], (drwTk r4).2, g, s1, sg1) (by repeat (first | exact ag_refl | exact ag_mask rfl ag_refl | refine ag_upd rfl ?_ | refine ag_mask rfl ?_)) ⟨i64succ k, trivial⟩ (by omega) ⟨by omega, by rw [List.map_append]; exact hg, by simp [hlD], (fun y hy => by
          rcases List.mem_append.1 hy with hy | hy
          · exact hiD y hy
          · rw [List.mem_singleton.1 hy]; exact hdi), by rw [List.flatMap_append, List.length_append]; exact hO1, hB, by
          rw [List.length_append]
          exact (M.picks [0, 1, 2, 3, 4, 5, 6] rfl rfl).useG (by simp)⟩
       ·
        obtain rfl : m = 0 := by omega
        have hdd : dsTk r3 = (lD.map (·.2), r4) := hg.symm
        have hraw : rawTk r = (⟨hd.1.1, hd.1.2, mt.1.m0, mt.1.m1, mt.1.m2, mt.1.m3, lV, lS.map (·.2), lP.map (·.2), lD.map (·.2)⟩, r4) := by
          simp only [rawTk, hhd, hmm, hvs, hss, hps, hdd]
        have hsv : SV.scr ⟨hd.1.1, hd.1.2, mt.1.m0, mt.1.m1, mt.1.m2, mt.1.m3, sV, lV, sS, lS, sP, lP, sD, lD⟩ = (rawTk r).1 := by rw [hraw]; rfl
        refine c_exit (e_then_exit (e_then_exit (e_blk_here (e_then (c_seq (c_seq (c_region ?_)))))))
        refine s_val (r_move (v := .pointer _) rfl) ?_
        refine s_call1 0 (cl40 rfl) rfl (rdEnd b4 _ _ hB) M (fun _ h => nomatch h) ?_
        rintro v g w ⟨rfl, hB⟩ M
        first | replace M := M.nf (L' := [_, _, _, _, _, _, _]) rfl | skip
        refine s_val (r_assign (v := .int _ _) rfl) ?_
        refine s_nil (e_then (c_seq (c_region ?_)))
        refine s_val (r_move (v := .int _ _) rfl) ?_
        refine s_val (r_neq rfl rfl) ?_
        refine s_nil (e_then ?_)
        refine c_if rfl (fun h88 => ?_) (fun h88 => ?_)
        ·
         have hr : scrTk l = (zeroScr, r4.fin) := by
           have e : (rawTk r).2 = r4 := by rw [hraw]
           rw [scrTk, if_neg hl1, if_neg heq, hrr, e, if_pos h88]
         replace M : St ks [] w0 w [g, [(b2, C zcells 38)], [(b5, C (sc hd.1.1 hd.1.2 mt.1 (sV.v lV.length) (sS.v lS.length) (sP.v lP.length) (sD.v lD.length)) 38)], sgV, sgS, sgP, sgD] [EaF lS, EaF lP, EdF lD] := (M.picks [0, 1, 2, 3, 4, 5, 6] rfl rfl).useG (by simp)
         refine c_seq (c_region ?_)
         refine s_val (r_buildS (cs := [_, _, _, _, _, _, _, _, _, _, _, _, _, _, _, _, _, _, _, _, _, _]) zr38 cells_agg pl38 (ps := []) (qs := []) rfl trivial rfl) ?_
         refine s_val (r_move (v := .int _ _) rfl) ?_
         refine a_store (v := .agg _) sz38 M rfl rfl cells_agg (k := 1) (j := 0) rfl rfl rfl rfl rfl ?_
         intro w M
         first | replace M := M.nf (L' := [_, _, _, _, _, _, _]) rfl | skip
         refine s_val (r_assign (v := .int _ _) rfl) ?_
         refine s_nil (e_then (c_ret (e_then_ret ?_)))
         refine ret_run (res_ct rfl rfl (run_loadVarN Try.underlying38 rfl sz38 rfl (M.cellsA (k := 1) (j := 0) rfl rfl)) rfl) ?_
         exact ⟨_, (zeroSV, [], [], [], []), rfl, ⟨by rw [hr]; rfl, by rw [hr]; rfl, zero_in, zero_res⟩, (((M.picks (L' := []) [] rfl rfl).useG (G' := []) (by simp)).flat (L' := [[], [], [], []]) rfl).zeroF⟩
        ·
         replace M : St ks [] w0 w [g, [(b2, C zcells 38)], [(b5, C (sc hd.1.1 hd.1.2 mt.1 (sV.v lV.length) (sS.v lS.length) (sP.v lP.length) (sD.v lD.length)) 38)], sgV, sgS, sgP, sgD] [EaF lS, EaF lP, EdF lD] := (M.picks [0, 1, 2, 3, 4, 5, 6] rfl rfl).useG (by simp)
         have hin : ScrIn ⟨hd.1.1, hd.1.2, mt.1.m0, mt.1.m1, mt.1.m2, mt.1.m3, sV, lV, sS, lS, sP, lP, sD, lD⟩ := ⟨⟨hwS, hwP⟩, hiD⟩
         refine c_skip (e_then (c_seq (c_seq (c_region ?_))))
         refine a_loadA Try.underlying38 rfl sz38 M rfl (k := 2) (j := 0) rfl rfl rfl ?_
         refine s_callP (cl27 rfl) (scrCheckOf ⟨hd.1.1, hd.1.2, mt.1.m0, mt.1.m1, mt.1.m2, mt.1.m3, sV, lV, sS, lS, sP, lP, sD, lD⟩ hin.wf _ ⟨hOV.lsAt rfl vtx_len (by decide) M (k := 3) rfl, ⟨hOS.lsAt rfl (fun _ => rfl) (by decide) M (k := 4) rfl, M.fact (j := 0) rfl⟩, ⟨hOP.lsAt rfl (fun _ => rfl) (by decide) M (k := 5) rfl, M.fact (j := 1) rfl⟩, ⟨hOD.lsAt rfl (fun _ => rfl) (by decide) M (k := 6) rfl, M.fact (j := 2) rfl⟩⟩) M ?_
         intro w M
         refine s_val (r_assign (v := .int _ _) rfl) ?_
         refine s_nil (e_then (c_seq (c_region ?_)))
         refine s_val (r_move (v := .int _ _) rfl) ?_
         refine s_val (r_neq rfl rfl) ?_
         refine s_nil (e_then ?_)
         refine c_if rfl (fun h94 => ?_) (fun h94 => ?_)
         ·
          have hr : scrTk l = (zeroScr, scrCheck (rawTk r).1) := by
            have e : (rawTk r).2 = r4 := by rw [hraw]
            rw [scrTk, if_neg hl1, if_neg heq, hrr, e, if_neg h88, if_pos (by rw [← hsv]; exact h94)]
          refine c_seq (c_region ?_)
          refine s_val (r_buildS (cs := [_, _, _, _, _, _, _, _, _, _, _, _, _, _, _, _, _, _, _, _, _, _]) zr38 cells_agg pl38 (ps := []) (qs := []) rfl trivial rfl) ?_
          refine s_val (r_move (v := .int _ _) rfl) ?_
          refine a_store (v := .agg _) sz38 M rfl rfl cells_agg (k := 1) (j := 0) rfl rfl rfl rfl rfl ?_
          intro w M
          first | replace M := M.nf (L' := [_, _, _, _, _, _, _]) rfl | skip
          refine s_val (r_assign (v := .int _ _) rfl) ?_
          refine s_nil (e_then (c_ret (e_then_ret ?_)))
          refine ret_run (res_ct rfl rfl (run_loadVarN Try.underlying38 rfl sz38 rfl (M.cellsA (k := 1) (j := 0) rfl rfl)) rfl) ?_
          exact ⟨_, (zeroSV, [], [], [], []), rfl, ⟨by rw [hr, ← hsv]; rfl, by rw [hr]; rfl, zero_in, zero_res⟩, (((M.picks (L' := []) [] rfl rfl).useG (G' := []) (by simp)).flat (L' := [[], [], [], []]) rfl).zeroF⟩
         ·
          have hr : scrTk l = ((rawTk r).1, 0) := by
            have e : (rawTk r).2 = r4 := by rw [hraw]
            rw [scrTk, if_neg hl1, if_neg heq, hrr, e, if_neg h88, if_neg (by rw [← hsv]; exact h94)]
          refine c_skip (e_then (c_seq (c_region ?_)))
          refine a_loadA Try.underlying38 rfl sz38 M rfl (k := 2) (j := 0) rfl rfl rfl ?_
          refine a_store (v := .agg _) sz38 M rfl rfl cells_agg (k := 1) (j := 0) rfl rfl rfl rfl rfl ?_
          intro w M
          first | replace M := M.nf (L' := [_, _, _, _, _, _, _]) rfl | skip
          refine s_val (r_assign (v := .int _ _) rfl) ?_
          refine s_nil (e_then (c_ret ?_))
          refine ret_run (res_ct rfl rfl (run_loadVarN Try.underlying38 rfl sz38 rfl (M.cellsA (k := 1) (j := 0) rfl rfl)) rfl) ?_
          exact ⟨_, (⟨hd.1.1, hd.1.2, mt.1.m0, mt.1.m1, mt.1.m2, mt.1.m3, sV, lV, sS, lS, sP, lP, sD, lD⟩, sgV, sgS, sgP, sgD), rfl, ⟨by rw [hr]; rfl, by rw [hr]; exact hsv, hin, hOV, hOS, hOP, hOD⟩, (M.picks [3, 4, 5, 6] rfl rfl).useG (by simp)⟩
end Go.Proofs.Ytcjnniigonaapaa
