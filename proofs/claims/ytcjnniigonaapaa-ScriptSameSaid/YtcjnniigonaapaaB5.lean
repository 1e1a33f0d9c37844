/-
  WALKS B5: a script put.
-/
import Derived.Test.YtcjnniigonaapaaB4
namespace Go.Proofs.Ytcjnniigonaapaa
open Go Go.Az Go.Proofs
set_option maxHeartbeats 1000000
def scrPut (x : Scr) : List Int × Int := if scrCheck x ≠ 0 then ([], scrCheck x) else if (scrB x).length > 20000 then ([], 6) else (scrB x, 0)
structure ScrIn (x : SV) : Prop where
  wf : ScrWf x
  ds : ∀ d ∈ x.ds, d.2.indices.length ≤ 1000

theorem scrPutOf (x : SV) (hx : ScrIn x) (ks : List Nat) (w0 : World) (M : St ks [] w0 w0 [] [SVF x]) :
    Calls Try.prog 9 #[.agg x.cells.toArray] w0 fun e w' => ∃ v, ∃ g : Sl × Seg, e = .returned v ∧ (v = .tuple #[g.1.v (scrPut x.scr).1.length, i64 (scrPut x.scr).2] ∧ Own 5 1 g.1 (scrPut x.scr).1.length (bv (scrPut x.scr).1) g.2) ∧ St ks [] w0 w' [g.2] [] := by
  skip
  refine calls_of 111 Try.func9 rfl rfl rfl ?_
  refine c_seq (c_region ?_)
  refine a_box (v := .agg _) rfl cells_agg M ?_
  intro b1 w M
  first | replace M := M.nf (L' := [[(_, _)]]) rfl | skip
  refine s_val (r_assign (v := .slice _ _ _) rfl) ?_
  refine s_val (r_assign (v := .int _ _) rfl) ?_
  refine s_nil (e_then (c_seq (c_seq (c_region ?_))))
  refine a_loadA Try.underlying38 rfl sz38 M rfl (k := 0) (j := 0) rfl rfl rfl ?_
  refine s_callP (cl27 rfl) (scrCheckOf x hx.wf _ (M.fact (j := 0) rfl)) M ?_
  intro w M
  refine s_val (r_assign (v := .int _ _) rfl) ?_
  refine s_nil (e_then (c_seq (c_region ?_)))
  refine s_val (r_move (v := .int _ _) rfl) ?_
  refine s_val (r_neq rfl rfl) ?_
  refine s_nil (e_then ?_)
  refine c_if rfl (fun h19 => ?_) (fun h19 => ?_)
  ·
   have hr : scrPut x.scr = ([], scrCheck x.scr) := if_pos h19
   refine c_seq (c_region ?_)
   refine s_val (r_move (v := .int _ _) rfl) ?_
   refine s_val (r_assign (v := .slice _ _ _) rfl) ?_
   refine s_val (r_assign (v := .int _ _) rfl) ?_
   refine s_nil (e_then (c_ret (e_then_ret ?_)))
   refine ret_run (res_2 rfl rfl rfl) ?_
   exact ⟨_, (⟨none, 0⟩, []), rfl, ⟨by rw [hr]; rfl, by rw [hr]; exact Own.nil _ _⟩, (M.picks (L' := [[]]) [9] rfl rfl).useG (by simp)⟩
  ·
   have hc0 : scrCheck x.scr = 0 := Decidable.not_not.1 h19
   obtain ⟨hok, hdc, hvl, hsl, hpl, hdl, ⟨hw1, hw2⟩, ⟨hh1, hh2⟩⟩ := scrOk_of (x := x.scr) (fun p hp => by obtain ⟨q, hq, rfl⟩ := List.mem_map.1 hp; exact hx.wf.ss q hq) (fun p hp => by obtain ⟨q, hq, rfl⟩ := List.mem_map.1 hp; exact hx.wf.ps q hq) (fun d hd => by obtain ⟨q, hq, rfl⟩ := List.mem_map.1 hd; exact hx.ds q hq) hc0
   replace hvl : x.vs.length ≤ 64 := hvl
   replace hsl : x.ss.length ≤ 4 := by simpa [SV.scr] using hsl
   replace hpl : x.ps.length ≤ 4 := by simpa [SV.scr] using hpl
   replace hdl : x.ds.length ≤ 32 := by simpa [SV.scr] using hdl
   replace hw1 : 1 ≤ x.w := hw1
   replace hw2 : x.w ≤ 64 := hw2
   replace hh1 : 1 ≤ x.h := hh1
   replace hh2 : x.h ≤ 64 := hh2
   have hds : ∀ y ∈ x.ds, DrwP y.2 := fun y hy => drwP_of (nv := x.scr.vs.length) (ns := x.scr.ss.length) (np := x.scr.ps.length) (by show x.vs.length ≤ 1000; omega) (by simp only [SV.scr, List.length_map]; omega) (by simp only [SV.scr, List.length_map]; omega) (hdc y.2 (List.mem_map.2 ⟨y, hy, rfl⟩))
   have hpw : ∀ y ∈ plOf x, y.2.length ≤ 1000 ∧ ∀ z ∈ y.2, Prog.wf z.2 ∧ z.2.length ≤ 1000 := fun y hy => by
     simp only [List.mem_cons, List.not_mem_nil, or_false] at hy
     rcases hy with rfl | rfl
     · exact ⟨by simp only []; omega, fun z hz => hok.ss z.2 (List.mem_map.2 ⟨z, hz, rfl⟩)⟩
     · exact ⟨by simp only []; omega, fun z hz => hok.ps z.2 (List.mem_map.2 ⟨z, hz, rfl⟩)⟩
   have q0 : x.m0.wf := hok.m0
   have q1 : x.m1.wf := hok.m1
   have q2 : x.m2.wf := hok.m2
   have q3 : x.m3.wf := hok.m3
   refine c_skip (e_then (c_seq (c_region ?_)))
   refine s_val (r_buildS (cs := [_]) zr97 cells_agg pl97 (ps := []) (qs := []) rfl trivial rfl) ?_
   refine a_box (v := .agg _) rfl cells_agg M ?_
   intro b22 w M
   first | replace M := M.nf (L' := [[(_, _)], [(_, _)]]) rfl | skip
   refine s_val (r_assign (v := .pointer _) rfl) ?_
   refine s_nil (e_then (c_seq (c_region ?_)))
   have hB : WrAt b22 [] [(b22, C [.slice none 0 0] 97)] := ⟨⟨none, 0⟩, 0, [], rfl, Own.nil _ _, rfl⟩
   refine s_val (r_move (v := .pointer _) rfl) ?_
   refine a_buildSliceS (cs := [_, _]) Try.underlying63 sz5 zr5 rfl rfl (by decide) rfl (ps := [(0, .int _ _), (1, .int _ _)]) (qs := [(0, [_]), (1, [_])]) rfl ⟨rfl, rfl, rfl, rfl, rfl, rfl, trivial⟩ rfl M ?_
   intro b24 w M
   first | replace M := M.nf (L' := [[(_, _)], [(_, _)], [(_, _)]]) rfl | skip
   refine a_mark (k := 2) (j := 0) Try.underlying63 Try.underlying5 M rfl rfl rfl ?_
   intro w M
   replace M := M.frz (k := 2) rfl (SlF ⟨some ⟨b24, 0, none⟩, 2⟩ 2 1 (bv [65, 90])) (fun w' h => slF_newm h rfl rfl)
   refine s_call1 1 (cl28 rfl) rfl (wrPut b22 _ _ ⟨some ⟨b24, 0, none⟩, 2⟩ 2 [65, 90] hB (by simp)) M (by simp) ?_
   rintro v g w ⟨rfl, hB⟩ M
   first | replace M := M.nf (L' := [[(_, _)], _, [(_, _)]]) rfl | skip
   refine s_nil (e_then (c_seq (c_region ?_)))
   replace M := (M.picks [0, 1] rfl rfl).useG (G' := [SVF x]) (by simp)
   have hl0 : ([] ++ [65, 90] : List Int).length = 2 := rfl
   --nL=2
   refine s_val (r_move (v := .pointer _) rfl) ?_
   refine s_val (r_fieldAddr (o' := 0) fb38_0 (by decide) rfl rfl) ?_
   refine a_load1 (v := .int _ _) Try.underlying3 rfl M rfl (k := 0) (j := 0) rfl rfl rfl ?_
   refine s_call1 1 (cl29 rfl) rfl (wrCount _ (by omega) (by omega) b22 _ _ hB (by omega)) M (fun _ h => nomatch h) ?_
   rintro v g w ⟨rfl, hB, hlk1⟩ M
   first | replace M := M.nf (L' := [_, _]) rfl | skip
   refine s_nil (e_then (c_seq (c_region ?_)))
   refine s_val (r_move (v := .pointer _) rfl) ?_
   refine s_val (r_fieldAddr (o' := 1) fb38_1 (by decide) rfl rfl) ?_
   refine a_load1 (v := .int _ _) Try.underlying3 rfl M rfl (k := 0) (j := 0) rfl rfl rfl ?_
   refine s_call1 1 (cl29 rfl) rfl (wrCount _ (by omega) (by omega) b22 _ _ hB (by omega)) M (fun _ h => nomatch h) ?_
   rintro v g w ⟨rfl, hB, hlk2⟩ M
   first | replace M := M.nf (L' := [_, _]) rfl | skip
   refine s_nil (e_then (c_seq (c_seq (c_region ?_))))
   refine s_val (r_fieldAddr (o' := 2) fb38_2 (by decide) rfl rfl) ?_
   refine a_loadN (vs := [_, _, _, _, _, _, _, _, _, _, _, _, _, _, _, _]) Try.underlying33 rfl sz33 M rfl (k := 0) (j := 0) rfl rfl rfl rfl ?_
   refine s_val (r_move (v := .int _ _) rfl) ?_
   refine s_nil (e_then (c_block ?_))
   refine c_rounds 5 ?_
   refine c_round (c_seq (c_region ?_))
   replace M := (M.picks [0, 1] rfl rfl).useG (G' := [SVF x]) (by simp) --nL=2
   refine s_val (r_lss rfl rfl) ?_
   refine s_nil (e_then (c_seq ?_))
   refine c_yes rfl (by decide) ?_
   refine c_skip (e_then (c_seq (c_block (c_seq (c_region ?_)))))
   first | (refine s_val (r_indexN (vs := [_, _, _, _]) Try.underlying33 Try.underlying31 rfl sz31 rfl rfl (by omega) (by omega) rfl) ?_) | (refine s_val (r_indexN Try.underlying33 Try.underlying31 rfl sz31 rfl rfl (by omega) (by omega) rfl) ?_)
   refine a_alloc zr31 cells_agg M ?_
   intro b7 w M
   first | replace M := M.nf (L' := [_, _, [(_, _)]]) rfl | skip
   refine a_storeS (v := .agg _) (cs' := [_, _, _, _]) sz31 M rfl rfl cells_agg (k := 2) (j := 0) rfl rfl rfl rfl rfl rfl ?_
   intro w M
   first | replace M := M.nf (L' := [_, _, [(_, _)]]) rfl | skip
   refine s_nil (e_then (c_region ?_))
   refine s_val (r_move (v := .pointer _) rfl) ?_
   refine a_loadA Try.underlying31 rfl sz31 M rfl (k := 2) (j := 0) rfl rfl rfl ?_
   refine s_call1 1 (cl30 rfl) rfl (numbersOf ⟨_, _, _, _⟩ (by assumption) b22 _ _ hB (by omega)) M (fun _ h => nomatch h) ?_
   rintro v g w ⟨rfl, hB, hlk3⟩ M
   first | replace M := M.nf (L' := [_, _, [(_, _)]]) rfl | skip
   refine s_nil (e_blk (e_then (c_region ?_)))
   refine s_val (r_add (n := 1) rfl rfl (by decide)) ?_
   refine s_val (r_move (v := .int _ _) rfl) ?_
   refine s_nil (e_then (c_round (c_seq (c_region ?_))))
   replace M := (M.picks [0, 1] rfl rfl).useG (G' := [SVF x]) (by simp) --nL=2
   refine s_val (r_lss rfl rfl) ?_
   refine s_nil (e_then (c_seq ?_))
   refine c_yes rfl (by decide) ?_
   refine c_skip (e_then (c_seq (c_block (c_seq (c_region ?_)))))
   first | (refine s_val (r_indexN (vs := [_, _, _, _]) Try.underlying33 Try.underlying31 rfl sz31 rfl rfl (by omega) (by omega) rfl) ?_) | (refine s_val (r_indexN Try.underlying33 Try.underlying31 rfl sz31 rfl rfl (by omega) (by omega) rfl) ?_)
   refine a_alloc zr31 cells_agg M ?_
   intro b7 w M
   first | replace M := M.nf (L' := [_, _, [(_, _)]]) rfl | skip
   refine a_storeS (v := .agg _) (cs' := [_, _, _, _]) sz31 M rfl rfl cells_agg (k := 2) (j := 0) rfl rfl rfl rfl rfl rfl ?_
   intro w M
   first | replace M := M.nf (L' := [_, _, [(_, _)]]) rfl | skip
   refine s_nil (e_then (c_region ?_))
   refine s_val (r_move (v := .pointer _) rfl) ?_
   refine a_loadA Try.underlying31 rfl sz31 M rfl (k := 2) (j := 0) rfl rfl rfl ?_
   refine s_call1 1 (cl30 rfl) rfl (numbersOf ⟨_, _, _, _⟩ (by assumption) b22 _ _ hB (by omega)) M (fun _ h => nomatch h) ?_
   rintro v g w ⟨rfl, hB, hlk3⟩ M
   first | replace M := M.nf (L' := [_, _, [(_, _)]]) rfl | skip
   refine s_nil (e_blk (e_then (c_region ?_)))
   refine s_val (r_add (n := 2) rfl rfl (by decide)) ?_
   refine s_val (r_move (v := .int _ _) rfl) ?_
   refine s_nil (e_then (c_round (c_seq (c_region ?_))))
   replace M := (M.picks [0, 1] rfl rfl).useG (G' := [SVF x]) (by simp) --nL=2
   refine s_val (r_lss rfl rfl) ?_
   refine s_nil (e_then (c_seq ?_))
   refine c_yes rfl (by decide) ?_
   refine c_skip (e_then (c_seq (c_block (c_seq (c_region ?_)))))
   first | (refine s_val (r_indexN (vs := [_, _, _, _]) Try.underlying33 Try.underlying31 rfl sz31 rfl rfl (by omega) (by omega) rfl) ?_) | (refine s_val (r_indexN Try.underlying33 Try.underlying31 rfl sz31 rfl rfl (by omega) (by omega) rfl) ?_)
   refine a_alloc zr31 cells_agg M ?_
   intro b7 w M
   first | replace M := M.nf (L' := [_, _, [(_, _)]]) rfl | skip
   refine a_storeS (v := .agg _) (cs' := [_, _, _, _]) sz31 M rfl rfl cells_agg (k := 2) (j := 0) rfl rfl rfl rfl rfl rfl ?_
   intro w M
   first | replace M := M.nf (L' := [_, _, [(_, _)]]) rfl | skip
   refine s_nil (e_then (c_region ?_))
   refine s_val (r_move (v := .pointer _) rfl) ?_
   refine a_loadA Try.underlying31 rfl sz31 M rfl (k := 2) (j := 0) rfl rfl rfl ?_
   refine s_call1 1 (cl30 rfl) rfl (numbersOf ⟨_, _, _, _⟩ (by assumption) b22 _ _ hB (by omega)) M (fun _ h => nomatch h) ?_
   rintro v g w ⟨rfl, hB, hlk3⟩ M
   first | replace M := M.nf (L' := [_, _, [(_, _)]]) rfl | skip
   refine s_nil (e_blk (e_then (c_region ?_)))
   refine s_val (r_add (n := 3) rfl rfl (by decide)) ?_
   refine s_val (r_move (v := .int _ _) rfl) ?_
   refine s_nil (e_then (c_round (c_seq (c_region ?_))))
   replace M := (M.picks [0, 1] rfl rfl).useG (G' := [SVF x]) (by simp) --nL=2
   refine s_val (r_lss rfl rfl) ?_
   refine s_nil (e_then (c_seq ?_))
   refine c_yes rfl (by decide) ?_
   refine c_skip (e_then (c_seq (c_block (c_seq (c_region ?_)))))
   first | (refine s_val (r_indexN (vs := [_, _, _, _]) Try.underlying33 Try.underlying31 rfl sz31 rfl rfl (by omega) (by omega) rfl) ?_) | (refine s_val (r_indexN Try.underlying33 Try.underlying31 rfl sz31 rfl rfl (by omega) (by omega) rfl) ?_)
   refine a_alloc zr31 cells_agg M ?_
   intro b7 w M
   first | replace M := M.nf (L' := [_, _, [(_, _)]]) rfl | skip
   refine a_storeS (v := .agg _) (cs' := [_, _, _, _]) sz31 M rfl rfl cells_agg (k := 2) (j := 0) rfl rfl rfl rfl rfl rfl ?_
   intro w M
   first | replace M := M.nf (L' := [_, _, [(_, _)]]) rfl | skip
   refine s_nil (e_then (c_region ?_))
   refine s_val (r_move (v := .pointer _) rfl) ?_
   refine a_loadA Try.underlying31 rfl sz31 M rfl (k := 2) (j := 0) rfl rfl rfl ?_
   refine s_call1 1 (cl30 rfl) rfl (numbersOf ⟨_, _, _, _⟩ (by assumption) b22 _ _ hB (by omega)) M (fun _ h => nomatch h) ?_
   rintro v g w ⟨rfl, hB, hlk3⟩ M
   first | replace M := M.nf (L' := [_, _, [(_, _)]]) rfl | skip
   refine s_nil (e_blk (e_then (c_region ?_)))
   refine s_val (r_add (n := 4) rfl rfl (by decide)) ?_
   refine s_val (r_move (v := .int _ _) rfl) ?_
   refine s_nil (e_then (c_round (c_seq (c_region ?_))))
   replace M := (M.picks [0, 1] rfl rfl).useG (G' := [SVF x]) (by simp) --nL=2
   refine s_val (r_lss rfl rfl) ?_
   refine s_nil (e_then (c_seq ?_))
   refine c_no rfl (by decide) ?_
   refine c_exit (e_then_exit (e_then_exit (e_blk_here (e_then (c_seq (c_region ?_))))))
   --nL=2
   replace M := (M.picks [0, 1] rfl rfl).useG (G' := [SVF x]) (by simp)
   refine s_val (r_move (v := .pointer _) rfl) ?_
   refine s_val (r_fieldAddr (o' := 18) fb38_3 (by decide) rfl rfl) ?_
   refine a_load1 (v := .slice _ _ _) Try.underlying34 rfl M rfl (k := 0) (j := 0) rfl rfl rfl ?_
   refine s_val (r_len Try.underlying34 rfl) ?_
   refine s_call1 1 (cl29 rfl) rfl (wrCountN _ (by omega) b22 _ _ hB (by omega)) M (fun _ h => nomatch h) ?_
   rintro v g w ⟨rfl, hB, hlk4⟩ M
   first | replace M := M.nf (L' := [_, _]) rfl | skip
   refine s_nil (e_then (c_seq (c_seq (c_region ?_))))
   --nL=2
   replace M := (M.picks [0, 1] rfl rfl).useG (G' := [SVF x]) (by simp)
   have hH := scrH_len hok
   replace hB : WrAt b22 (scrH x.scr) g := hB
   generalize hHH : scrH x.scr = H at hB hH
   refine s_val (r_fieldAddr (o' := 18) fb38_3 (by decide) rfl rfl) ?_
   refine a_load1 (v := .slice _ _ _) Try.underlying34 rfl M rfl (k := 0) (j := 0) rfl rfl rfl ?_
   refine s_val (r_len Try.underlying34 rfl) ?_
   refine s_val (r_move (v := .int _ _) rfl) ?_
   refine s_nil (e_then (c_block ?_))
   refine c_loopG [9, 52, 53, 54, 55, 56, 57, 58, 59, 60, 61, 62, 63, 64] (Γ := Nat × List Int × Seg) (vals := fun (k, l, sg) => [(52, i64 k)]) (I := fun m (k, l, sg) w => m + k = x.vs.length ∧ l = H ++ (x.vs.take k).flatMap vtxB ∧ l.length ≤ 200 + k * 80 ∧ WrAt b22 l sg ∧ St ks [] w0 w [[(b1, C x.cells 38)], sg] [SVF x]) x.vs.length (0, H, g) ⟨rfl, trivial⟩ ⟨rfl, by simp, by omega, hB, M⟩ ?_
   rintro m ⟨k, l, sg⟩ e w ⟨hk, hl, hlk, hB, M⟩
   refine c_seq (c_region ?_)
   refine s_val (r_lss rfl rfl) ?_
   refine s_nil (e_then (c_seq ?_))
   refine c_if rfl (fun h53 => ?_) (fun h53 => ?_)
   ·
    have htop := (M.fact (j := 0) rfl).vs.sl.top
    obtain ⟨y, hy⟩ : ∃ y, x.vs[k]? = some y := ⟨_, List.getElem?_eq_getElem (by omega)⟩
    obtain ⟨bi, oi, ha⟩ := (M.fact (j := 0) rfl).vs.addr (by omega)
    have hyw := hok.vs y (List.mem_of_getElem? hy)
    refine c_skip (e_then (c_seq (c_block (c_seq (c_region ?_)))))
    refine s_val (r_indexAddrS Try.underlying34 sz41 rfl (ha) rfl (by omega) (by omega) rfl) ?_
    refine s_val (r_loadN (cs := vtx y) Try.underlying41 rfl sz41 rfl rfl (fun j v hv => (M.fact (j := 0) rfl).vs.cell ha hy hv)) ?_
    refine a_alloc zr41 cells_agg M ?_
    intro b9 w M
    first | replace M := M.nf (L' := [_, _, [(_, _)]]) rfl | skip
    refine a_storeS (v := .agg _) (cs' := [_, _, _, _, _, _, _, _]) sz41 M rfl rfl cells_agg (k := 2) (j := 0) rfl rfl rfl rfl rfl rfl ?_
    intro w M
    first | replace M := M.nf (L' := [_, _, [(_, _)]]) rfl | skip
    refine s_nil (e_then (c_seq (c_region ?_)))
    refine s_val (r_move (v := .pointer _) rfl) ?_
    refine s_val (r_fieldAddr (o' := 0) fb41_0 (by decide) rfl rfl) ?_
    refine a_loadN (vs := [_, _, _, _]) Try.underlying31 rfl sz31 M rfl (k := 2) (j := 0) rfl rfl rfl rfl ?_
    refine s_call1 1 (cl30 rfl) rfl (numbersOf y.place hyw.1 b22 _ _ hB (by omega)) M (fun _ h => nomatch h) ?_
    rintro v g w ⟨rfl, hB, hlk⟩ M
    first | replace M := M.nf (L' := [_, _, [(_, _)]]) rfl | skip
    refine s_nil (e_then (c_region ?_))
    refine s_val (r_move (v := .pointer _) rfl) ?_
    refine s_val (r_fieldAddr (o' := 4) fb41_1 (by decide) rfl rfl) ?_
    refine a_loadN (vs := [_, _, _, _]) Try.underlying31 rfl sz31 M rfl (k := 2) (j := 0) rfl rfl rfl rfl ?_
    refine s_call1 1 (cl30 rfl) rfl (numbersOf y.colour hyw.2 b22 _ _ hB (by omega)) M (fun _ h => nomatch h) ?_
    rintro v g w ⟨rfl, hB, hlk⟩ M
    first | replace M := M.nf (L' := [_, _, [(_, _)]]) rfl | skip
    refine s_nil (e_blk (e_then (c_region ?_)))
    first | (refine s_val (r_add rfl rfl (w64 (by omega) (by omega))) ?_) | (refine s_val (r_add rfl rfl rfl) ?_)
    refine s_val (r_move (v := .int _ _) rfl) ?_
    refine s_nil (e_then ?_)
    exact loop_end (m - 1) (k + 1, _, _) (by repeat (first | exact ag_refl | exact ag_mask rfl ag_refl | refine ag_upd rfl ?_ | refine ag_mask rfl ?_)) ⟨i64succ k, trivial⟩ (by omega) ⟨by omega, by rw [flat_take hy, hl, List.append_assoc, List.append_assoc]; rfl, by omega, hB, (M.picks [0, 1] rfl rfl).useG (by simp)⟩
   ·
    rw [take_doneI (by omega)] at hl
    refine c_exit (e_then_exit (e_then_exit (e_blk_here (e_then (c_seq (c_seq (c_region ?_)))))))
    refine s_val (r_fieldAddr (o' := 19) fb38_4 (by decide) rfl rfl) ?_
    refine a_load1 (v := .slice _ _ _) Try.underlying35 rfl M rfl (k := 0) (j := 0) rfl rfl rfl ?_
    refine s_val (r_fieldAddr (o' := 20) fb38_5 (by decide) rfl rfl) ?_
    refine a_load1 (v := .slice _ _ _) Try.underlying35 rfl M rfl (k := 0) (j := 0) rfl rfl rfl ?_
    refine a_buildSliceS (cs := [_, _]) Try.underlying94 sz35 zr35 rfl rfl (by decide) rfl (ps := [(0, .slice _ _ _), (1, .slice _ _ _)]) (qs := [(0, [_]), (1, [_])]) rfl ⟨rfl, rfl, rfl, rfl, rfl, rfl, trivial⟩ rfl M ?_
    intro b69 w M
    first | replace M := M.nf (L' := [_, _, [(_, _)]]) rfl | skip
    replace M := M.frz (k := 2) rfl (LsF encS 1 ⟨some ⟨b69, 0, none⟩, 2⟩ (plOf x)) (fun w' h => ⟨slF_new h rfl rfl, fun _ _ => rfl⟩)
    replace M := M.addFact (F := fun w => LsF encS 1 ⟨some ⟨b69, 0, none⟩, 2⟩ (plOf x) w ∧ ∀ y ∈ plOf x, PsF y.1 y.2 w) (((M.stable (j := 0) rfl).and (M.stable (j := 1) rfl)).imp fun w' h => ⟨h.2, fun y hy => by
      simp only [List.mem_cons, List.not_mem_nil, or_false] at hy
      rcases hy with rfl | rfl
      · exact h.1.ss
      · exact h.1.ps⟩)
    replace M := (M.picks [0, 1] rfl rfl).useG (G' := [SVF x, fun w => LsF encS 1 ⟨some ⟨b69, 0, none⟩, 2⟩ (plOf x) w ∧ ∀ y ∈ plOf x, PsF y.1 y.2 w]) (by simp)
    refine s_val (r_len Try.underlying94 rfl) ?_
    refine s_val (r_move (v := .int _ _) rfl) ?_
    refine s_nil (e_then (c_block ?_))
    refine c_loopG [11, 13, 71, 72, 73, 74, 75, 76, 77, 78, 79, 80, 81, 82, 83, 84, 85, 86, 87, 88, 89] (Γ := Nat × List Int × Seg) (vals := fun (k, l, sg) => [(71, i64 k)]) (I := fun m (k, l', sg) w => m + k = 2 ∧ l' = l ++ ((plOf x).take k).flatMap (fun y => progsB (y.2.map (·.2))) ∧ l'.length ≤ 100000 + k * 20000000 ∧ WrAt b22 l' sg ∧ St ks [] w0 w [[(b1, C x.cells 38)], sg] [SVF x, fun w => LsF encS 1 ⟨some ⟨b69, 0, none⟩, 2⟩ (plOf x) w ∧ ∀ y ∈ plOf x, PsF y.1 y.2 w]) 2 (0, l, sg) ⟨rfl, trivial⟩ ⟨rfl, by simp, by omega, hB, M⟩ ?_
    rintro m ⟨k, l1, sg⟩ e w ⟨hk, hl1, hlk, hB, M⟩
    refine c_seq (c_region ?_)
    refine s_val (r_lss rfl rfl) ?_
    refine s_nil (e_then (c_seq ?_))
    refine c_if rfl (fun h72 => ?_) (fun h72 => ?_)
    ·
     obtain ⟨y, hy⟩ : ∃ y, (plOf x)[k]? = some y := ⟨_, List.getElem?_eq_getElem (show k < 2 by omega)⟩
     obtain ⟨bi, oi, ha⟩ := (M.fact (j := 1) rfl).1.addr (show 0 < 2 by decide)
     obtain ⟨hyl, hyw⟩ := hpw y (List.mem_of_getElem? hy)
     refine c_skip (e_then (c_seq (c_block (c_seq (c_region ?_)))))
     refine s_val (r_indexAddrS Try.underlying94 sz35 rfl (ha) rfl (by omega) (by omega) rfl) ?_
     refine s_val (r_load1 (v := .slice _ _ _) Try.underlying35 rfl rfl ((M.fact (j := 1) rfl).1.cell0 ha hy rfl)) ?_
     refine s_val (r_assign (v := .slice _ _ _) rfl) ?_
     refine s_nil (e_then (c_seq (c_region ?_)))
     refine s_val (r_move (v := .pointer _) rfl) ?_
     refine s_val (r_move (v := .slice _ _ _) rfl) ?_
     refine s_val (r_len Try.underlying35 rfl) ?_
     refine s_call1 1 (cl29 rfl) rfl (wrCountN _ (by omega) b22 _ _ hB (by omega)) M (fun _ h => nomatch h) ?_
     rintro v g w ⟨rfl, hB, hlk⟩ M
     first | replace M := M.nf (L' := [_, _]) rfl | skip
     refine s_nil (e_then (c_seq (c_region ?_)))
     replace M := (M.picks [0, 1] rfl rfl).useG (G' := [SVF x, fun w => LsF encS 1 ⟨some ⟨b69, 0, none⟩, 2⟩ (plOf x) w ∧ ∀ y ∈ plOf x, PsF y.1 y.2 w]) (by simp)
     have htop := ((M.fact (j := 1) rfl).2 y (List.mem_of_getElem? hy)).row.sl.top
     refine s_val (r_move (v := .slice _ _ _) rfl) ?_
     refine s_val (r_len Try.underlying35 rfl) ?_
     refine s_val (r_move (v := .int _ _) rfl) ?_
     refine s_nil (e_then (c_block ?_))
     refine c_loopG [13, 81, 82, 83, 84, 85, 86, 87, 88] (Γ := Nat × List Int × Seg) (vals := fun (k, l, sg) => [(81, i64 k)]) (I := fun m2 (k2, l', sg) w => m2 + k2 = y.2.length ∧ l' = l1 ++ cnt y.2.length ++ ((y.2.take k2).flatMap fun z => progB z.2) ∧ l'.length ≤ 110000 + k * 20000000 + k2 * 14010 ∧ WrAt b22 l' sg ∧ St ks [] w0 w [[(b1, C x.cells 38)], sg] [SVF x, fun w => LsF encS 1 ⟨some ⟨b69, 0, none⟩, 2⟩ (plOf x) w ∧ ∀ y ∈ plOf x, PsF y.1 y.2 w]) y.2.length (0, _, _) ⟨rfl, trivial⟩ ⟨rfl, by simp, by omega, hB, M⟩ ?_
     rintro m2 ⟨k2, l2, sg⟩ e2 w ⟨hk2, hl2, hlk2, hB, M⟩
     refine c_seq (c_region ?_)
     refine s_val (r_lss rfl rfl) ?_
     refine s_nil (e_then (c_seq ?_))
     refine c_if rfl (fun h82 => ?_) (fun h82 => ?_)
     ·
      obtain ⟨z, hz⟩ : ∃ z, y.2[k2]? = some z := ⟨_, List.getElem?_eq_getElem (by omega)⟩
      obtain ⟨bj, oj, ha2⟩ := ((M.fact (j := 1) rfl).2 y (List.mem_of_getElem? hy)).row.addr (by omega)
      obtain ⟨hzw, hzl⟩ := hyw z (List.mem_of_getElem? hz)
      replace M := M.addFact (F := PrF z.1 z.2) ((M.stable (j := 1) rfl).imp fun w' h => (h.2 y (List.mem_of_getElem? hy)).each z (List.mem_of_getElem? hz))
      refine c_skip (e_then (c_seq (c_block (c_seq (c_region ?_)))))
      refine s_val (r_indexAddrS Try.underlying35 sz46 rfl (ha2) rfl (by omega) (by omega) rfl) ?_
      refine s_val (r_load1 (v := .slice _ _ _) Try.underlying46 rfl rfl (((M.fact (j := 1) rfl).2 y (List.mem_of_getElem? hy)).row.cell0 ha2 hz rfl)) ?_
      refine s_val (r_assign (v := .slice _ _ _) rfl) ?_
      refine s_nil (e_then (c_region ?_))
      refine s_val (r_move (v := .slice _ _ _) rfl) ?_
      refine s_val (r_move (v := .pointer _) rfl) ?_
      refine s_call1 1 (cl31 rfl) rfl (progPut z.1 z.2 hzw hzl _ rfl b22 _ _ hB (by omega)) M (by simp) ?_
      rintro v g w ⟨rfl, hB, hlk⟩ M
      first | replace M := M.nf (L' := [_, _]) rfl | skip
      refine s_nil (e_blk (e_then (c_region ?_)))
      first | (refine s_val (r_add rfl rfl (w64 (by omega) (by omega))) ?_) | (refine s_val (r_add rfl rfl rfl) ?_)
      refine s_val (r_move (v := .int _ _) rfl) ?_
      refine s_nil (e_then ?_)
      exact loop_end (m2 - 1) (k2 + 1, _, _) (by repeat (first | exact ag_refl | exact ag_mask rfl ag_refl | refine ag_upd rfl ?_ | refine ag_mask rfl ?_)) ⟨i64succ k2, trivial⟩ (by omega) ⟨by omega, by rw [flat_take hz, hl2]; simp only [List.append_assoc], by omega, hB, (M.picks [0, 1] rfl rfl).useG (by simp)⟩
     ·
      rw [take_doneI (by omega)] at hl2
      refine c_exit (e_then_exit (e_then_exit (e_blk_here (e_blk (e_then (c_region ?_))))))
      first | (refine s_val (r_add rfl rfl (w64 (by omega) (by omega))) ?_) | (refine s_val (r_add rfl rfl rfl) ?_)
      refine s_val (r_move (v := .int _ _) rfl) ?_
      refine s_nil (e_then ?_)
      exact loop_end (m - 1) (k + 1, _, _) (by repeat (first | exact ag_refl | exact ag_mask rfl ag_refl | refine ag_upd rfl ?_ | refine ag_mask rfl ?_)) ⟨i64succ k, trivial⟩ (by omega) ⟨by omega, by rw [flat_take hy, hl2, hl1]; simp only [progsB, List.append_assoc, List.length_map, List.flatMap_map], by omega, hB, M⟩
    ·
     rw [show k = 2 by omega] at hl1
     replace hl1 : l1 = l ++ (lists x.scr).flatMap progsB := hl1
     replace M := M.useG (G' := [SVF x]) (by simp)
     have htop := (M.fact (j := 0) rfl).ds.row.sl.top
     refine c_exit (e_then_exit (e_then_exit (e_blk_here (e_then (c_seq (c_region ?_))))))
     refine s_val (r_move (v := .pointer _) rfl) ?_
     refine s_val (r_fieldAddr (o' := 21) fb38_6 (by decide) rfl rfl) ?_
     refine a_load1 (v := .slice _ _ _) Try.underlying36 rfl M rfl (k := 0) (j := 0) rfl rfl rfl ?_
     refine s_val (r_len Try.underlying36 rfl) ?_
     refine s_call1 1 (cl29 rfl) rfl (wrCountN _ (by omega) b22 _ _ hB (by omega)) M (fun _ h => nomatch h) ?_
     rintro v g w ⟨rfl, hB, hlk⟩ M
     first | replace M := M.nf (L' := [_, _]) rfl | skip
     refine s_nil (e_then (c_seq (c_seq (c_region ?_))))
     replace M := (M.picks [0, 1] rfl rfl).useG (G' := [SVF x]) (by simp) --nL=2
     refine s_val (r_fieldAddr (o' := 21) fb38_6 (by decide) rfl rfl) ?_
     refine a_load1 (v := .slice _ _ _) Try.underlying36 rfl M rfl (k := 0) (j := 0) rfl rfl rfl ?_
     refine s_val (r_len Try.underlying36 rfl) ?_
     refine s_val (r_move (v := .int _ _) rfl) ?_
     refine s_nil (e_then (c_block ?_))
     refine c_loopG [15, 98, 99, 100, 101, 102, 103, 104, 105] (Γ := Nat × List Int × Seg) (vals := fun (k, l, sg) => [(98, i64 k)]) (I := fun m (k, l', sg) w => m + k = x.ds.length ∧ l' = l1 ++ cnt x.ds.length ++ (x.ds.take k).flatMap (fun y => drwB y.2) ∧ l'.length ≤ 41000000 + k * 11000 ∧ WrAt b22 l' sg ∧ St ks [] w0 w [[(b1, C x.cells 38)], sg] [SVF x]) x.ds.length (0, _, _) ⟨rfl, trivial⟩ ⟨rfl, by simp, by omega, hB, M⟩ ?_
     rintro m ⟨k, l2, sg⟩ e w ⟨hk, hl2, hlk, hB, M⟩
     refine c_seq (c_region ?_)
     refine s_val (r_lss rfl rfl) ?_
     refine s_nil (e_then (c_seq ?_))
     refine c_if rfl (fun h99 => ?_) (fun h99 => ?_)
     ·
      obtain ⟨y, hy⟩ : ∃ y, x.ds[k]? = some y := ⟨_, List.getElem?_eq_getElem (by omega)⟩
      obtain ⟨bi, oi, ha⟩ := (M.fact (j := 0) rfl).ds.row.addr (by omega)
      replace M := M.addFact (F := LsF encN 1 y.1 y.2.indices) ((M.stable (j := 0) rfl).imp fun w' h => h.ds.each y (List.mem_of_getElem? hy))
      refine c_skip (e_then (c_seq (c_block (c_seq (c_region ?_)))))
      refine s_val (r_indexAddrS Try.underlying36 sz61 rfl (ha) rfl (by omega) (by omega) rfl) ?_
      refine s_val (r_loadN (cs := encD y) Try.underlying61 rfl sz61 rfl rfl (fun j v hv => (M.fact (j := 0) rfl).ds.row.cell ha hy hv)) ?_
      refine a_alloc zr61 cells_agg M ?_
      intro b15 w M
      first | replace M := M.nf (L' := [_, _, [(_, _)]]) rfl | skip
      refine a_storeS (v := .agg _) (cs' := [_, _, _, _, _, _, _, _, _, _, _, _, _, _, _, _, _, _, _, _, _, _, _, _, _, _, _]) sz61 M rfl rfl cells_agg (k := 2) (j := 0) rfl rfl rfl rfl rfl rfl ?_
      intro w M
      first | replace M := M.nf (L' := [_, _, [(_, _)]]) rfl | skip
      refine s_nil (e_then (c_region ?_))
      refine a_loadA Try.underlying61 rfl sz61 M rfl (k := 2) (j := 0) rfl rfl rfl ?_
      refine s_val (r_move (v := .pointer _) rfl) ?_
      refine s_call1 1 (cl32 rfl) rfl (drwPut y.1 y.2 (hds y (List.mem_of_getElem? hy)) (hx.ds y (List.mem_of_getElem? hy)) b22 _ _ hB (by omega)) M (by simp) ?_
      rintro v g w ⟨rfl, hB, hlk⟩ M
      first | replace M := M.nf (L' := [_, _, [(_, _)]]) rfl | skip
      refine s_nil (e_blk (e_then (c_region ?_)))
      first | (refine s_val (r_add rfl rfl (w64 (by omega) (by omega))) ?_) | (refine s_val (r_add rfl rfl rfl) ?_)
      refine s_val (r_move (v := .int _ _) rfl) ?_
      refine s_nil (e_then ?_)
      exact loop_end (m - 1) (k + 1, _, _) (by repeat (first | exact ag_refl | exact ag_mask rfl ag_refl | refine ag_upd rfl ?_ | refine ag_mask rfl ?_)) ⟨i64succ k, trivial⟩ (by omega) ⟨by omega, by rw [flat_take hy, hl2]; simp only [List.append_assoc], by omega, hB, (M.picks [0, 1] rfl rfl).useG (by simp)⟩
     ·
      rw [take_doneI (by omega)] at hl2
      have hfin : l2 = scrB x.scr := by rw [hl2, hl1, hl, scrB_eq, ← hHH]; simp [SV.scr, List.flatMap_map]
      subst hfin
      refine c_exit (e_then_exit (e_then_exit (e_blk_here (e_then (c_seq (c_seq (c_region ?_)))))))
      refine s_val (r_move (v := .pointer _) rfl) ?_
      refine s_call1 1 (cl33 rfl) rfl (wrLen b22 _ _ hB) M (fun _ h => nomatch h) ?_
      rintro v g w ⟨rfl, hB⟩ M
      first | replace M := M.nf (L' := [_, _]) rfl | skip
      refine s_val (r_gtr rfl rfl) ?_
      refine s_nil (e_then ?_)
      refine c_if rfl (fun h108 => ?_) (fun h108 => ?_)
      ·
       have hr : scrPut x.scr = ([], 6) := by rw [scrPut, if_neg h19, if_pos (by omega)]
       refine c_seq (c_region ?_)
       refine s_val (r_assign (v := .slice _ _ _) rfl) ?_
       refine s_val (r_assign (v := .int _ _) rfl) ?_
       refine s_nil (e_then (c_ret (e_then_ret ?_)))
       refine ret_run (res_2 rfl rfl rfl) ?_
       exact ⟨_, (⟨none, 0⟩, []), rfl, ⟨by rw [hr]; rfl, by rw [hr]; exact Own.nil _ _⟩, (M.picks (L' := [[]]) [9] rfl rfl).useG (by simp)⟩
      ·
       have hr : scrPut x.scr = (scrB x.scr, 0) := by rw [scrPut, if_neg h19, if_neg (by omega)]
       refine c_skip (e_then (c_seq (c_region ?_)))
       refine s_val (r_move (v := .pointer _) rfl) ?_
       refine s_call1 1 (cl26 rfl) rfl (wrBytes b22 _ _ hB (by omega)) M (fun _ h => nomatch h) ?_
       rintro v ⟨gw, sw, sgw⟩ w ⟨rfl, hOw, hBw⟩ M
       first | replace M := M.nf (L' := [_, _]) rfl | skip
       refine s_val (r_assign (v := .slice _ _ _) rfl) ?_
       refine s_val (r_assign (v := .int _ _) rfl) ?_
       refine s_nil (e_then (c_ret ?_))
       refine ret_run (res_2 rfl rfl rfl) ?_
       exact ⟨_, (sw, sgw), rfl, ⟨by rw [hr]; rfl, by rw [hr]; exact hOw⟩, (M.picks [2] rfl rfl).useG (by simp)⟩
end Go.Proofs.Ytcjnniigonaapaa
