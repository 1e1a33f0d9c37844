/-
  WALKS BA: ScriptSame.
-/
import Derived.Test.YtcjnniigonaapaaB9
import Derived.Test.YtcjnniigonaapaaD4
namespace Go.Proofs.Ytcjnniigonaapaa
open Go Go.Az Go.Proofs
set_option maxHeartbeats 1000000
theorem frzScr {ks S0 : List Nat} {w0 w : World} {L : List Seg} {G : List (World → Prop)} (M : St ks S0 w0 w L G) {k : Nat} {x : SV} {g1 g2 g3 g4 : Seg} (h1 : L[k]? = some g1) (h2 : L[k + 1]? = some g2) (h3 : L[k + 2]? = some g3) (h4 : L[k + 3]? = some g4)
    (hr : ScrRes (x, g1, g2, g3, g4)) (hS : EaF x.ss ∈ G) (hP : EaF x.ps ∈ G) (hD : EdF x.ds ∈ G) : St ks S0 w0 w ((((L.set k []).set (k + 1) []).set (k + 2) []).set (k + 3) []) (G ++ [SVF x]) := by
  have hlt := (List.getElem?_eq_some_iff.1 h4).1
  have M1 := M.frz h1 (LsF vtx 8 x.V x.vs) (fun w' h => hr.1.lsF (by decide) (fun _ _ => rfl) h)
  have M2 := M1.frz (k := k + 1) (s := g2) (by rw [List.getElem?_set_ne (by omega)]; exact h2) (LsF encS 1 x.S x.ss) (fun w' h => hr.2.1.lsF (by decide) (fun _ _ => rfl) h)
  have M3 := M2.frz (k := k + 2) (s := g3) (by rw [List.getElem?_set_ne (by omega), List.getElem?_set_ne (by omega)]; exact h3) (LsF encS 1 x.P x.ps) (fun w' h => hr.2.2.1.lsF (by decide) (fun _ _ => rfl) h)
  have M4 := M3.frz (k := k + 3) (s := g4) (by rw [List.getElem?_set_ne (by omega), List.getElem?_set_ne (by omega), List.getElem?_set_ne (by omega)]; exact h4) (LsF encD 27 x.D x.ds) (fun w' h => hr.2.2.2.lsF (by decide) (fun _ _ => rfl) h)
  have M5 := M4.addFact (F := SVF x) (fun w' ha => ⟨M4.facts (LsF vtx 8 x.V x.vs) (by simp) w' ha, ⟨M4.facts (LsF encS 1 x.S x.ss) (by simp) w' ha, M4.facts (EaF x.ss) (by simp [hS]) w' ha⟩, ⟨M4.facts (LsF encS 1 x.P x.ps) (by simp) w' ha, M4.facts (EaF x.ps) (by simp [hP]) w' ha⟩, ⟨M4.facts (LsF encD 27 x.D x.ds) (by simp) w' ha, M4.facts (EdF x.ds) (by simp [hD]) w' ha⟩⟩)
  refine M5.useG (fun F hF => ?_)
  rcases List.mem_append.1 hF with h | h
  · simp [h]
  · rw [List.mem_singleton.1 h]; simp
theorem bytesF (x : SV) (hx : ScrOk x.scr) (ks : List Nat) (w0 : World) (M : St ks [] w0 w0 [] [SVF x]) :
    Calls Try.prog 8 #[.agg x.cells.toArray] w0 fun e w' => ∃ v, ∃ s : Sl, e = .returned v ∧ (v = s.v (scrB x.scr).length) ∧ St ks [] w0 w' [] [SlF s (scrB x.scr).length 1 (bv (scrB x.scr))] :=
  (bytesOf x hx ks w0 M).mono fun e w' ⟨v, g, h1, ⟨h2, h3⟩, h4⟩ => ⟨v, g.1, h1, h2, ((h4.frz (k := 0) rfl (SlF g.1 _ 1 _) (fun w' h => h3.slF' (by decide) h)).flat (L' := []) rfl).useG (by simp)⟩
theorem sameT (x y : SV) (hxy : x.scr = y.scr) (w0 : World) (h1 : SVF x w0) (h2 : SVF y w0) :
    Calls Try.prog 7 #[.agg x.cells.toArray, .agg y.cells.toArray] w0 fun e w' => e = .returned (bo true) ∧ Keep [] w0 w' :=
  (same x y w0 h1 h2).mono fun e w' ⟨h, k⟩ => ⟨by rw [h, decide_eq_true hxy], k⟩
theorem sameF (x y : SV) (hxy : ¬ x.scr = y.scr) (w0 : World) (h1 : SVF x w0) (h2 : SVF y w0) :
    Calls Try.prog 7 #[.agg x.cells.toArray, .agg y.cells.toArray] w0 fun e w' => e = .returned (bo false) ∧ Keep [] w0 w' :=
  (same x y w0 h1 h2).mono fun e w' ⟨h, k⟩ => ⟨by rw [h, decide_eq_false hxy], k⟩
theorem sml_ok {s : Sml} (h : s.wf) : ScrOk s.scr := by
  have hg := sml_good h
  have hl := vtxs_len s
  have hl1 := progsOf_len s.ss false
  have hl2 := progsOf_len s.ps true
  refine ⟨hg.m0, hg.m1, hg.m2, hg.m3, hg.vs, by show s.vtxs.length ≤ 1000; omega, fun p hp => ?_, by show (progsOf s.ss false).length ≤ 1000; omega, fun p hp => ?_, by show (progsOf s.ps true).length ≤ 1000; omega, fun d hd => ?_, ?_⟩
  · have := progsOf_wf h.2.2.2.2.1 false p hp
    exact ⟨this.1, by omega⟩
  · have := progsOf_wf h.2.2.2.2.2.1 true p hp
    exact ⟨this.1, by omega⟩
  · obtain ⟨q, _, rfl⟩ := List.mem_map.1 hd
    have := drwOf_idx q s.vtxs.length (progsOf s.ss false).length (progsOf s.ps true).length
    omega
  · show ((s.ds.take 5).map _).length ≤ 1000
    simp; omega
theorem tell {a b : Scr} (ha : ScrG a) (hb : ScrG b) : ((decide (a = b)) == ((strOfNums (scrB a)).toList == (strOfNums (scrB b)).toList)) = true := by
  by_cases h : a = b
  · subst h; simp
  · rw [decide_eq_false h]
    have : ((strOfNums (scrB a)).toList == (strOfNums (scrB b)).toList) = false := by
      apply Bool.eq_false_iff.2
      intro hq
      exact h (scr_inj ha hb (strOf_inj (scrB_b8 ha) (scrB_b8 hb) (by simpa using hq)))
    rw [this]; rfl
def zeroDrw : Drw := ⟨zeroStt, false, 0, 0, 0, 0, 0, 0, 0, 0, 0, 0, []⟩

theorem scriptSame (x y : SMV) (hx : x.sml.wf) (hy : y.sml.wf) (q : Int) (hq : 0 ≤ q ∧ q ≤ 255) (w0 : World) (h1 : SMF x w0) (h2 : SMF y w0) :
    Calls Try.prog 3 #[.agg x.cells.toArray, .agg y.cells.toArray, u8 q] w0 fun e w' => e = .returned (bo true) ∧ Keep [] w0 w' := by
  have M : St [] [] w0 w0 [] [SMF x, SMF y] := St.start [] w0 nofun (fun F hF => by
    rcases List.mem_cons.1 hF with e | hF
    · rw [e]; exact SMF.nice.st h1
    · rw [List.mem_singleton.1 hF]; exact SMF.nice.st h2)
  refine calls_of 99 Try.func3 rfl rfl rfl ?_
  refine c_seq (c_region ?_)
  refine a_box (v := .agg _) rfl cells_agg M ?_
  intro b3 w M
  first | replace M := M.nf (L' := [[(_, _)]]) rfl | skip
  refine a_box (v := .agg _) rfl cells_agg M ?_
  intro b4 w M
  first | replace M := M.nf (L' := [[(_, _)], [(_, _)]]) rfl | skip
  refine s_val (r_assign (v := .bool _) rfl) ?_
  refine s_nil (e_then (c_seq (c_seq (c_region ?_))))
  refine s_callP (cl4 rfl) (awake11 _ _ (M.pre0 (G' := []) (by simp))) M ?_
  intro w M
  refine s_val (r_not rfl) ?_
  refine s_nil (e_then ?_)
  refine c_cond rfl (fun h11 => ?_) (fun h11 => ?_)
  ·
   exact absurd h11 (by decide) --done
  ·
   refine c_skip (e_then (c_seq (c_seq (c_region ?_))))
   refine a_loadA Try.underlying28 rfl sz28 M rfl (k := 0) (j := 0) rfl rfl rfl ?_
   refine s_callP (cl5 rfl) (lightOf x _ (M.fact (j := 0) rfl)) M ?_
   intro w M
   refine s_val (r_not rfl) ?_
   refine s_val (r_move (v := .bool _) rfl) ?_
   refine s_split 15 rfl (fun g15 => ?_) (fun g15 => ?_)
   ·
    refine s_skip (yield_Fr rfl rfl) rfl ?_
    refine s_skip (yield_Fr rfl rfl) rfl ?_
    refine s_skip (yield_Fr rfl rfl) rfl ?_
    refine s_val (r_pick (v := .bool _) rfl rfl) ?_
    refine s_nil (e_then ?_)
    refine c_yes rfl (by decide) ?_
    refine c_seq (c_region ?_)
    refine s_val (r_assign (v := .bool _) rfl) ?_
    refine s_nil (e_then (c_ret (e_then_ret ?_)))
    refine ret_run (res_1 (v := .bool _) rfl rfl) ?_
    exact ⟨rfl, M.keep⟩
   ·
    refine s_unguard (yield_Fr rfl rfl) rfl ?_
    refine a_loadA Try.underlying28 rfl sz28 M rfl (k := 1) (j := 0) rfl rfl rfl ?_
    refine s_unguard (yield_Fr rfl rfl) rfl ?_
    refine s_callP (cl5 rfl) (lightOf y _ (M.fact (j := 1) rfl)) M ?_
    intro w M
    refine s_unguard (yield_Fr rfl rfl) rfl ?_
    refine s_val (r_not rfl) ?_
    refine s_val (r_pick (v := .bool _) rfl rfl) ?_
    refine s_nil (e_then ?_)
    refine c_cond rfl (fun h19 => ?_) (fun h19 => ?_)
    ·
     refine c_seq (c_region ?_)
     refine s_val (r_assign (v := .bool _) rfl) ?_
     refine s_nil (e_then (c_ret (e_then_ret ?_)))
     refine ret_run (res_1 (v := .bool _) rfl rfl) ?_
     exact ⟨rfl, M.keep⟩
    ·
     refine c_skip (e_then (c_seq ?_))
     refine c_drawK (by kernel_rfl) [(.q, 0), (.ch, 1), (.q, 2), (.ch, 3), (.q, 4), (.ch, 5), (.fl, 6), (.fl, 7), (.fl, 8), (.ch, 9), (.ch, 10), (.ch, 11)] [[], [0], [], [0, 1, 2], [], [0, 1, 2, 3, 4], [], [], [], [0, 1, 2, 3, 4, 5, 6, 7, 8], [0, 1, 2, 3, 4, 5, 6, 7, 8, 9], [0, 1, 2, 3, 4, 5, 6, 7, 8, 9, 10]] (by kernel_rfl) [] M ?_
     refine w_read rfl wt_none (fun w X G' M => r_loadN Try.underlying28 rfl sz28 rfl rfl (M.cellsA (k := 0) (j := 0) rfl rfl)) ?_
     refine w_call0 rfl wt_none (fun w => cl6 rfl) (scriptOf x hx) (by simp) (fun _ _ => (by repeat (first | exact trivial | refine ⟨.inr rfl, ?_⟩ | refine ⟨.inl rfl, ?_⟩))) (fun _ h => h) ?_
     rintro v ⟨a, a1, a2, a3, a4⟩ ⟨rfl, ha, har⟩
     first | refine w_nf (L' := [[(_, _)], [(_, _)], _, _, _, _]) rfl ?_ | skip
     refine w_read rfl wt_none (fun w X G' M => r_loadN Try.underlying28 rfl sz28 rfl rfl (M.cellsA (k := 1) (j := 0) rfl rfl)) ?_
     refine w_call0 rfl wt_none (fun w => cl6 rfl) (scriptOf y hy) (by simp) (fun _ _ => (by repeat (first | exact trivial | refine ⟨.inr rfl, ?_⟩ | refine ⟨.inl rfl, ?_⟩))) (fun _ h => List.mem_append_left _ (h)) ?_
     rintro v ⟨b, b1, b2, b3', b4'⟩ ⟨rfl, hb, hbr⟩
     first | refine w_nf (L' := [[(_, _)], [(_, _)], _, _, _, _, _, _, _, _]) rfl ?_ | skip
     refine w_read rfl wt_none (fun w X G' M => r_loadN Try.underlying28 rfl sz28 rfl rfl (M.cellsA (k := 0) (j := 0) rfl rfl)) ?_
     refine w_call0 rfl wt_none (fun w => cl6 rfl) (scriptOf x hx) (by simp) (fun _ _ => (by repeat (first | exact trivial | refine ⟨.inr rfl, ?_⟩ | refine ⟨.inl rfl, ?_⟩))) (fun _ h => List.mem_append_left _ (List.mem_append_left _ (h))) ?_
     rintro v ⟨c, c1, c2, c3, c4⟩ ⟨rfl, hc, hcr⟩
     first | refine w_nf (L' := [[(_, _)], [(_, _)], _, _, _, _, _, _, _, _, _, _, _, _]) rfl ?_ | skip
     refine w_alloc rfl wt_none zr38 cells_agg ?_
     intro b7
     first | refine w_nf (L' := [[(_, _)], [(_, _)], _, _, _, _, _, _, _, _, _, _, _, _, [(_, _)]]) rfl ?_ | skip
     refine w_alloc rfl wt_none zr38 cells_agg ?_
     intro b8
     first | refine w_nf (L' := [[(_, _)], [(_, _)], _, _, _, _, _, _, _, _, _, _, _, _, [(_, _)], [(_, _)]]) rfl ?_ | skip
     refine w_alloc rfl wt_none zr38 cells_agg ?_
     intro b9
     first | refine w_nf (L' := [[(_, _)], [(_, _)], _, _, _, _, _, _, _, _, _, _, _, _, [(_, _)], [(_, _)], [(_, _)]]) rfl ?_ | skip
     refine w_storeS (v := .agg _) (cs' := [_, _, _, _, _, _, _, _, _, _, _, _, _, _, _, _, _, _, _, _, _, _]) (k := 14) (j := 0) rfl wt_none sz38 rfl rfl cells_agg rfl rfl rfl rfl rfl rfl (by repeat (first | exact trivial | refine ⟨.inr rfl, ?_⟩ | refine ⟨.inl rfl, ?_⟩)) (fun _ h => List.mem_append_left _ (List.mem_append_left _ (List.mem_append_left _ (h)))) ?_
     first | refine w_nf (L' := [[(_, _)], [(_, _)], _, _, _, _, _, _, _, _, _, _, _, _, [(_, _)], [(_, _)], [(_, _)]]) rfl ?_ | skip
     refine w_storeS (v := .agg _) (cs' := [_, _, _, _, _, _, _, _, _, _, _, _, _, _, _, _, _, _, _, _, _, _]) (k := 15) (j := 0) rfl wt_none sz38 rfl rfl cells_agg rfl rfl rfl rfl rfl rfl (by repeat (first | exact trivial | refine ⟨.inr rfl, ?_⟩ | refine ⟨.inl rfl, ?_⟩)) (fun _ h => List.mem_append_left _ (List.mem_append_left _ (List.mem_append_left _ (h)))) ?_
     first | refine w_nf (L' := [[(_, _)], [(_, _)], _, _, _, _, _, _, _, _, _, _, _, _, [(_, _)], [(_, _)], [(_, _)]]) rfl ?_ | skip
     refine w_storeS (v := .agg _) (cs' := [_, _, _, _, _, _, _, _, _, _, _, _, _, _, _, _, _, _, _, _, _, _]) (k := 16) (j := 0) rfl wt_none sz38 rfl rfl cells_agg rfl rfl rfl rfl rfl rfl (by repeat (first | exact trivial | refine ⟨.inr rfl, ?_⟩ | refine ⟨.inl rfl, ?_⟩)) (fun _ h => List.mem_append_left _ (List.mem_append_left _ (List.mem_append_left _ (h)))) ?_
     first | refine w_nf (L' := [[(_, _)], [(_, _)], _, _, _, _, _, _, _, _, _, _, _, _, [(_, _)], [(_, _)], [(_, _)]]) rfl ?_ | skip
     refine w_nil ?_
     intro w M
     refine e_then ?_
     refine c_cutG (Γ := SV) [26, 27, 28, 29, 30, 31, 32, 33, 34, 35, 36, 37, 38, 39, 40, 41, 42, 43, 44, 45, 46, 47, 48, 49, 50, 51, 52, 53, 54, 55, 56, 57, 58, 59, 60, 61, 62, 63, 64, 65, 66, 67, 68, 69, 70, 71, 72, 73, 74, 75] (fun _ => []) (fun c' w => ¬ a.scr = c'.scr ∧ St [] [] w0 w [[(b3, C x.cells 28)], [(b4, C y.cells 28)], [(b7, C a.cells 38)], [(b8, C b.cells 38)], [(b9, C c'.cells 38)]] [SMF x, SVF a, SVF b, SVF c']) ?_ ?_
     ·
      refine c_seq ?_
      have M1 := frzScr M (k := 2) (x := a) rfl rfl rfl rfl har (by simp) (by simp) (by simp)
      have M2 := frzScr M1 (k := 6) (x := b) rfl rfl rfl rfl hbr (by simp) (by simp) (by simp)
      replace M : St [] [] w0 w [[(b3, C x.cells 28)], [(b4, C y.cells 28)], [(b7, C a.cells 38)], [(b8, C b.cells 38)], [(b9, C c.cells 38)], c1, c2, c3, c4] [SMF x, SVF a, SVF b, EaF c.ss, EaF c.ps, EdF c.ds] := (M2.picks [0, 1, 14, 15, 16, 10, 11, 12, 13] rfl rfl).useG (by simp)
      --nL=9 --slot 3=own(0,0,0) --slot 4=own(1,0,0) --slot 7=own(2,0,0) --slot 8=own(3,0,0) --slot 9=own(4,0,0)
      clear M1 M2
      have hc1 : Own 41 8 c.V c.vs.length (c.vs.flatMap vtx) c1 := hcr.1
      have hc2 : Own 46 1 c.S c.ss.length (c.ss.flatMap encS) c2 := hcr.2.1
      have hc3 : Own 46 1 c.P c.ps.length (c.ps.flatMap encS) c3 := hcr.2.2.1
      have hc4 : Own 61 27 c.D c.ds.length (c.ds.flatMap encD) c4 := hcr.2.2.2
      have hac : c.scr = a.scr := hc.trans ha.symm
      have hcw : c.w = 1 + x.w % 24 := congrArg Scr.w hc
      have hxw : 0 ≤ x.w ∧ x.w ≤ 255 := hx.1
      have hcm : c.m0.a = 65536 := congrArg (fun s => s.m0.a) hc
      have hcv : c.vs = x.sml.vtxs := congrArg Scr.vs hc
      have hvl := vtxs_len x.sml
      rw [← hcv] at hvl
      have hcs : c.ss.length ≤ 4 := by
        have h := congrArg (fun s => s.ss.length) hc
        have := progsOf_len x.sml.ss false
        simp only [SV.scr, List.length_map, Sml.scr] at h; omega
      have hpl : 1 ≤ c.ps.length ∧ c.ps.length ≤ 4 := by
        have h := congrArg (fun s => s.ps.length) hc
        have := progsOf_len x.sml.ps true
        simp only [SV.scr, List.length_map, Sml.scr] at h; omega
      have hdl : c.ds.length ≤ 5 := by
        have h := congrArg (fun s => s.ds.length) hc
        simp only [SV.scr, List.length_map, List.length_take, Sml.scr] at h; omega
      refine c_region ?_
      refine s_val (r_move (v := .int _ _) rfl) ?_
      first | (refine s_val (r_rem rfl rfl (by omega) (Int.tmod_eq_emod_of_nonneg (by omega))) ?_) | (refine s_val (r_rem rfl rfl (by omega) rfl) ?_)
      refine s_nil (e_then (c_block (c_seq (c_region ?_))))
      refine s_val (r_eql rfl rfl) ?_
      refine s_val (r_assign (v := .bool _) rfl) ?_
      refine s_nil (e_then ?_)
      refine c_if rfl (fun h34 => ?_) (fun h34 => ?_)
      ·
       refine c_region ?_
       refine s_val (r_fieldAddr (o' := 0) fb38_0 (by decide) rfl rfl) ?_
       refine a_load1 (v := .int _ _) Try.underlying3 rfl M rfl (k := 4) (j := 0) rfl rfl rfl ?_
       first | (refine s_val (r_add rfl rfl (w64 (by omega) (by omega))) ?_) | (refine s_val (r_add rfl rfl rfl) ?_)
       refine s_val (r_fieldAddr (o' := 0) fb38_0 (by decide) rfl rfl) ?_
       refine a_store (v := .int _ _) sz3 M rfl rfl rfl (k := 4) (j := 0) rfl rfl rfl rfl rfl ?_
       intro w M
       first | replace M := M.nf (L' := [_, _, _, _, _, _, _, _, _]) rfl | skip
       refine s_nil (e_blk (e_then ?_))
       exact cut_end { c with w := c.w + 1 } (by repeat (first | exact ag_refl | exact ag_mask rfl ag_refl | refine ag_upd rfl ?_ | refine ag_mask rfl ?_)) trivial ⟨fun h => by
         have h2 : c.w = c.w + 1 := congrArg Scr.w (hac.trans h)
         omega, ((frzScr M (k := 5) (x := { c with w := c.w + 1 }) rfl rfl rfl rfl ⟨hc1, hc2, hc3, hc4⟩ (by simp) (by simp) (by simp)).picks [0, 1, 2, 3, 4] rfl rfl).useG (by simp)⟩
      ·
       refine c_seq (c_region ?_)
       refine s_val (r_eql rfl rfl) ?_
       refine s_val (r_assign (v := .bool _) rfl) ?_
       refine s_nil (e_then ?_)
       refine c_if rfl (fun h40 => ?_) (fun h40 => ?_)
       ·
        refine c_region ?_
        refine s_val (r_fieldAddr (o' := 2) fb38_2 (by decide) rfl rfl) ?_
        refine s_val (r_indexAddrA (o' := 2) Try.underlying33 sz31 rfl rfl (by omega) (by omega) rfl) ?_
        refine s_val (r_indexAddrA (o' := 2) Try.underlying31 sz3 rfl rfl (by omega) (by omega) rfl) ?_
        refine a_load1 (v := .int _ _) Try.underlying3 rfl M rfl (k := 4) (j := 0) rfl rfl rfl ?_
        first | (refine s_val (r_add rfl rfl (w64 (by omega) (by omega))) ?_) | (refine s_val (r_add rfl rfl rfl) ?_)
        refine s_val (r_fieldAddr (o' := 2) fb38_2 (by decide) rfl rfl) ?_
        refine s_val (r_indexAddrA (o' := 2) Try.underlying33 sz31 rfl rfl (by omega) (by omega) rfl) ?_
        refine s_val (r_indexAddrA (o' := 2) Try.underlying31 sz3 rfl rfl (by omega) (by omega) rfl) ?_
        refine a_store (v := .int _ _) sz3 M rfl rfl rfl (k := 4) (j := 0) rfl rfl rfl rfl rfl ?_
        intro w M
        first | replace M := M.nf (L' := [_, _, _, _, _, _, _, _, _]) rfl | skip
        refine s_nil (e_blk (e_then ?_))
        exact cut_end { c with m0 := ⟨c.m0.a + 1, c.m0.b, c.m0.c, c.m0.d⟩ } (by repeat (first | exact ag_refl | exact ag_mask rfl ag_refl | refine ag_upd rfl ?_ | refine ag_mask rfl ?_)) trivial ⟨fun h => by
          have h2 : c.m0.a = c.m0.a + 1 := congrArg (fun s => s.m0.a) (hac.trans h)
          omega, ((frzScr M (k := 5) (x := { c with m0 := ⟨c.m0.a + 1, c.m0.b, c.m0.c, c.m0.d⟩ }) rfl rfl rfl rfl ⟨hc1, hc2, hc3, hc4⟩ (by simp) (by simp) (by simp)).picks [0, 1, 2, 3, 4] rfl rfl).useG (by simp)⟩
       ·
        refine c_seq (c_region ?_)
        refine s_val (r_eql rfl rfl) ?_
        refine s_val (r_assign (v := .bool _) rfl) ?_
        refine s_nil (e_then ?_)
        refine c_if rfl (fun h50 => ?_) (fun h50 => ?_)
        ·
         obtain ⟨v0, hv0⟩ : ∃ v, c.vs[0]? = some v := ⟨_, List.getElem?_eq_getElem (by omega)⟩
         have hvb := (vtxs_all hx v0 (by rw [← hcv]; exact List.mem_of_getElem? hv0)).2
         obtain ⟨bvv, cur, hav, rfl, hcl1, hcl2⟩ := hc1.blk (by omega)
         refine c_drawT (by kernel_rfl) [(.q, 0), (.q, 1), (.q, 2), (.q, 3), (.q, 4), (.q, 5), (.q, 6), (.q, 7), (.q, 8), (.q, 9)] [10] [[], [0], [0, 1], [0, 1, 2], [0, 1, 2, 3], [0, 1, 2, 3, 4], [0, 1, 2, 3, 4, 5], [0, 1], [0, 1, 7], [0, 1, 2, 3, 4, 5, 6, 7, 8], [0, 1, 2, 3, 4, 5, 6, 7, 8, 9]] (by kernel_rfl) [] M ?_
         refine w_val rfl wt_none (fun w => (r_fieldAddr (o' := 18) fb38_3 (by decide) rfl rfl)) ?_
         refine w_read (v := .slice _ _ _) rfl wt_none (fun w X G' M => r_load1 Try.underlying34 rfl rfl (M.cell (k := 4) (j := 0) rfl rfl rfl)) ?_
         refine w_val rfl wt_none (fun w => (r_indexAddrS Try.underlying34 sz41 rfl (hav) rfl (by omega) (by omega) rfl)) ?_
         refine w_val rfl wt_none (fun w => (r_fieldAddr fb41_1 (by decide) rfl rfl)) ?_
         refine w_val rfl wt_none (fun w => (r_indexAddrA Try.underlying31 sz3 rfl rfl (by omega) (by omega) rfl)) ?_
         refine w_read rfl wt_none (fun w X G' M => r_load1 Try.underlying3 rfl rfl ((hc1.lsAt rfl vtx_len (by decide) M (k := 5) rfl).cell hav hv0 (j := 5) rfl)) ?_
         first | (refine w_val rfl wt_none (fun w => (r_add rfl rfl (w64 (by omega) (by omega)))) ?_) | (refine w_val rfl wt_none (fun w => (r_add rfl rfl rfl)) ?_)
         refine w_val rfl wt_none (fun w => (r_indexAddrS Try.underlying34 sz41 rfl (hav) rfl (by omega) (by omega) rfl)) ?_
         refine w_val rfl wt_none (fun w => (r_fieldAddr fb41_1 (by decide) rfl rfl)) ?_
         refine w_val rfl wt_none (fun w => (r_indexAddrA Try.underlying31 sz3 rfl rfl (by omega) (by omega) rfl)) ?_
         refine w_nil ?_
         intro w M
         refine a_store (v := .int _ _) sz3 M rfl rfl rfl (k := 5) (j := 0) rfl rfl rfl rfl (Nat.ble_eq_true_of_le (show 5 + 1 ≤ cur.length by rw [hcl1]; omega)) ?_
         intro w M
         first | replace M := M.nf (L' := [_, _, _, _, _, _, _, _, _]) rfl | skip
         refine s_nil (e_blk (e_then ?_))
         have hO2 := hc1.put vtx_len hv0 (x' := ⟨v0.place, ⟨v0.colour.a, v0.colour.b + 1, v0.colour.c, v0.colour.d⟩⟩) (j := 5) (o := 5) (vs := [i64 (v0.colour.b + 1)]) rfl (Nat.le_of_ble_eq_true rfl) rfl rfl
         exact cut_end { c with vs := c.vs.set 0 ⟨v0.place, ⟨v0.colour.a, v0.colour.b + 1, v0.colour.c, v0.colour.d⟩⟩ } (by repeat (first | exact ag_refl | exact ag_mask rfl ag_refl | refine ag_upd rfl ?_ | refine ag_mask rfl ?_)) trivial ⟨fun h => by
           have h2 : c.vs = c.vs.set 0 ⟨v0.place, ⟨v0.colour.a, v0.colour.b + 1, v0.colour.c, v0.colour.d⟩⟩ := congrArg Scr.vs (hac.trans h)
           have h3 := congrArg (fun l => (l[0]?).map (fun v => v.colour.b)) h2
           simp only [hv0, List.getElem?_set, Option.map_some] at h3
           rw [if_pos trivial, if_pos (by omega)] at h3
           simp at h3
           omega, by
           have hR : ScrRes ({ c with vs := c.vs.set 0 ⟨v0.place, ⟨v0.colour.a, v0.colour.b + 1, v0.colour.c, v0.colour.d⟩⟩ }, [(bvv, C (spl cur 5 [i64 (v0.colour.b + 1)]) 41)], c2, c3, c4) := ⟨by rw [List.length_set]; exact hO2, hc2, hc3, hc4⟩
           dsimp only [SV.cells]
           rw [List.length_set]
           exact ((frzScr M (k := 5) rfl rfl rfl rfl hR (by simp) (by simp) (by simp)).picks [0, 1, 2, 3, 4] rfl rfl).useG (by simp)⟩
        ·
         refine c_seq (c_region ?_)
         refine s_val (r_eql rfl rfl) ?_
         refine s_val (r_assign (v := .bool _) rfl) ?_
         refine s_nil (e_then ?_)
         refine c_if rfl (fun h62 => ?_) (fun h62 => ?_)
         ·
          refine c_region ?_
          refine s_val (r_fieldAddr (o' := 19) fb38_4 (by decide) rfl rfl) ?_
          refine a_load1 (v := .slice _ _ _) Try.underlying35 rfl M rfl (k := 4) (j := 0) rfl rfl rfl ?_
          refine a_buildSliceS (cs := [_]) Try.underlying35 sz46 zr46 rfl rfl (by decide) rfl (ps := [(0, .slice _ _ _)]) (qs := [(0, [_])]) rfl ⟨rfl, rfl, rfl, trivial⟩ rfl M ?_
          intro b66 w M
          first | replace M := M.nf (L' := [_, _, _, _, _, _, _, _, _, [(_, _)]]) rfl | skip
          refine a_append 6 Try.underlying35 sz46 by46 zr46 rfl rfl M rfl hc2 rfl rfl (SlF.src Try.underlying35 (slF_lit M (k := 9) (j := 0) rfl rfl rfl rfl) rfl) (by simp only [maxLen]; omega) (by omega) ?_
          intro s1 sg1 w hO1 M
          first | replace M := M.nf (L' := [_, _, _, _, _, _, _, _, _, [(_, _)]]) rfl | skip
          refine s_val (r_fieldAddr (o' := 19) fb38_4 (by decide) rfl rfl) ?_
          refine a_store (v := .slice _ _ _) sz35 M rfl rfl rfl (k := 4) (j := 0) rfl rfl rfl rfl rfl ?_
          intro w M
          first | replace M := M.nf (L' := [_, _, _, _, _, _, _, _, _, [(_, _)]]) rfl | skip
          refine s_nil (e_blk (e_then ?_))
          replace M := M.addFact (F := EaF (c.ss ++ [((⟨none, 0⟩ : Sl), ([] : Prog))])) ((M.stable (j := 3) rfl).imp fun w' h z hz => by
            rcases List.mem_append.1 hz with hz | hz
            · exact h z hz
            · rw [List.mem_singleton.1 hz]; exact LsF.nil _ _ _ _)
          exact cut_end { c with S := s1, ss := c.ss ++ [(⟨none, 0⟩, [])] } (by repeat (first | exact ag_refl | exact ag_mask rfl ag_refl | refine ag_upd rfl ?_ | refine ag_mask rfl ?_)) trivial ⟨fun h => by
            have h2 := congrArg (fun s => s.ss.length) (hac.trans h)
            simp [SV.scr] at h2, by
            have hR : ScrRes ({ c with S := s1, ss := c.ss ++ [(⟨none, 0⟩, [])] }, c1, sg1, c3, c4) := ⟨hc1, by rw [List.length_append, List.flatMap_append]; exact hO1, hc3, hc4⟩
            dsimp only [SV.cells]
            rw [List.length_append]
            exact ((frzScr M (k := 5) rfl rfl rfl rfl hR (by simp) (by simp) (by simp)).picks [0, 1, 2, 3, 4] rfl rfl).useG (by simp)⟩
         ·
          refine c_seq (c_region ?_)
          refine s_val (r_eql rfl rfl) ?_
          refine s_val (r_assign (v := .bool _) rfl) ?_
          refine s_nil (e_then ?_)
          refine c_if rfl (fun h69 => ?_) (fun h69 => ?_)
          ·
           obtain ⟨p0, hp0⟩ : ∃ p, c.ps[0]? = some p := ⟨_, List.getElem?_eq_getElem (by omega)⟩
           obtain ⟨bpp, cur, hap, rfl, hcl1, hcl2⟩ := hc3.blk (by omega)
           refine c_region ?_
           refine s_val (r_fieldAddr (o' := 20) fb38_5 (by decide) rfl rfl) ?_
           refine a_load1 (v := .slice _ _ _) Try.underlying35 rfl M rfl (k := 4) (j := 0) rfl rfl rfl ?_
           refine s_val (r_buildS (cs := [_, _, _, _, _]) zr44 cells_agg pl44 (ps := [(0, .int _ _)]) (qs := [(0, [_])]) rfl ⟨rfl, rfl, rfl, trivial⟩ rfl) ?_
           refine a_buildSliceS (cs := [_, _, _, _, _]) Try.underlying46 sz44 zr44 cells_agg rfl (by decide) rfl (ps := [(0, .agg _)]) (qs := [(0, [_, _, _, _, _])]) rfl ⟨cells_agg, rfl, rfl, trivial⟩ rfl M ?_
           intro b74 w M
           first | replace M := M.nf (L' := [_, _, _, _, _, _, _, _, _, [(_, _)]]) rfl | skip
           refine s_val (r_indexAddrS Try.underlying35 sz46 rfl (hap) rfl (by omega) (by omega) rfl) ?_
           refine a_store (v := .slice _ _ _) sz46 M rfl rfl rfl (k := 7) (j := 0) rfl rfl rfl rfl (Nat.ble_eq_true_of_le (show 0 + 1 ≤ cur.length by rw [hcl1]; omega)) ?_
           intro w M
           first | replace M := M.nf (L' := [_, _, _, _, _, _, _, _, _, [(_, _)]]) rfl | skip
           refine s_nil (e_blk (e_then ?_))
           have hO2 := hc3.put (sz := 1) (fun _ => rfl) hp0 (x' := ((⟨some ⟨b74, 0, none⟩, 1⟩ : Sl), ([mov] : Prog))) (j := 0) (o := 0) (vs := [(⟨some ⟨b74, 0, none⟩, 1⟩ : Sl).v 1]) rfl (Nat.le_of_ble_eq_true rfl) rfl rfl
           replace M := M.frz (k := 9) rfl (PrF ⟨some ⟨b74, 0, none⟩, 1⟩ [mov]) (fun w' h => ⟨slF_new h rfl rfl, fun _ _ => rfl⟩)
           replace M := M.addFact (F := EaF (c.ps.set 0 ((⟨some ⟨b74, 0, none⟩, 1⟩ : Sl), ([mov] : Prog)))) (((M.stable (j := 4) rfl).and (M.stable (j := 6) rfl)).imp fun w' h z hz => by
             rcases List.mem_or_eq_of_mem_set hz with hz | hz
             · exact h.1 z hz
             · rw [hz]; exact h.2)
           exact cut_end { c with ps := c.ps.set 0 (⟨some ⟨b74, 0, none⟩, 1⟩, [mov]) } (by repeat (first | exact ag_refl | exact ag_mask rfl ag_refl | refine ag_upd rfl ?_ | refine ag_mask rfl ?_)) trivial ⟨fun h => by
             have h2 := congrArg (fun s => s.ps[0]?) (ha.symm.trans h)
             simp [SV.scr, Sml.scr, progsOf, hp0, show 0 < c.ps.length by omega] at h2, by
             have hR : ScrRes ({ c with ps := c.ps.set 0 (⟨some ⟨b74, 0, none⟩, 1⟩, [mov]) }, c1, c2, [(bpp, C (spl cur 0 [(⟨some ⟨b74, 0, none⟩, 1⟩ : Sl).v 1]) 46)], c4) := ⟨hc1, hc2, by rw [List.length_set]; exact hO2, hc4⟩
             dsimp only [SV.cells]
             rw [List.length_set]
             exact ((frzScr M (k := 5) rfl rfl rfl rfl hR (by simp) (by simp) (by simp)).picks [0, 1, 2, 3, 4] rfl rfl).useG (by simp)⟩
          ·
           refine c_region ?_
           refine s_val (r_fieldAddr (o' := 21) fb38_6 (by decide) rfl rfl) ?_
           refine a_load1 (v := .slice _ _ _) Try.underlying36 rfl M rfl (k := 4) (j := 0) rfl rfl rfl ?_
           refine s_val (r_buildS (cs := [_, _, _, _, _, _, _, _, _, _, _, _, _, _, _, _, _, _, _, _, _, _, _, _, _, _, _]) zr61 cells_agg pl61 (ps := []) (qs := []) rfl trivial rfl) ?_
           refine a_buildSliceS (cs := [_, _, _, _, _, _, _, _, _, _, _, _, _, _, _, _, _, _, _, _, _, _, _, _, _, _, _]) Try.underlying36 sz61 zr61 cells_agg rfl (by decide) rfl (ps := [(0, .agg _)]) (qs := [(0, [_, _, _, _, _, _, _, _, _, _, _, _, _, _, _, _, _, _, _, _, _, _, _, _, _, _, _])]) rfl ⟨cells_agg, rfl, rfl, trivial⟩ rfl M ?_
           intro b31 w M
           first | replace M := M.nf (L' := [_, _, _, _, _, _, _, _, _, [(_, _)]]) rfl | skip
           refine a_append 8 Try.underlying36 sz61 by61 zr61 cells_agg rfl M rfl hc4 rfl rfl (SlF.src Try.underlying36 (slF_lit M (k := 9) (j := 0) rfl rfl rfl rfl) rfl) (by simp only [maxLen]; omega) (by omega) ?_
           intro s1 sg1 w hO1 M
           first | replace M := M.nf (L' := [_, _, _, _, _, _, _, _, _, [(_, _)]]) rfl | skip
           refine s_val (r_fieldAddr (o' := 21) fb38_6 (by decide) rfl rfl) ?_
           refine a_store (v := .slice _ _ _) sz36 M rfl rfl rfl (k := 4) (j := 0) rfl rfl rfl rfl rfl ?_
           intro w M
           first | replace M := M.nf (L' := [_, _, _, _, _, _, _, _, _, [(_, _)]]) rfl | skip
           refine s_nil (e_blk (e_then ?_))
           replace M := M.addFact (F := EdF (c.ds ++ [((⟨none, 0⟩ : Sl), zeroDrw)])) ((M.stable (j := 5) rfl).imp fun w' h z hz => by
             rcases List.mem_append.1 hz with hz | hz
             · exact h z hz
             · rw [List.mem_singleton.1 hz]; exact LsF.nil _ _ _ _)
           exact cut_end { c with D := s1, ds := c.ds ++ [(⟨none, 0⟩, zeroDrw)] } (by repeat (first | exact ag_refl | exact ag_mask rfl ag_refl | refine ag_upd rfl ?_ | refine ag_mask rfl ?_)) trivial ⟨fun h => by
             have h2 := congrArg (fun s => s.ds.length) (hac.trans h)
             simp [SV.scr] at h2, by
             have hR : ScrRes ({ c with D := s1, ds := c.ds ++ [(⟨none, 0⟩, zeroDrw)] }, c1, c2, c3, sg1) := ⟨hc1, hc2, hc3, by rw [List.length_append, List.flatMap_append]; exact hO1⟩
             dsimp only [SV.cells]
             rw [List.length_append]
             exact ((frzScr M (k := 5) rfl rfl rfl rfl hR (by simp) (by simp) (by simp)).picks [0, 1, 2, 3, 4] rfl rfl).useG (by simp)⟩
     rintro c' e w ⟨hne, M⟩
     have haok : ScrOk a.scr := by rw [ha]; exact sml_ok hx
     have hbok : ScrOk b.scr := by rw [hb]; exact sml_ok hy
     refine c_seq ?_
     refine c_drawK (by kernel_rfl) [(.q, 1), (.ch, 2), (.q, 0), (.ch, 3), (.q, 4), (.q, 5), (.q, 6), (.ch, 7), (.q, 8), (.q, 9), (.q, 10), (.q, 11), (.q, 12), (.ch, 13), (.q, 14), (.ch, 15), (.rd, 16), (.q, 17), (.ch, 18), (.rd, 19), (.q, 20), (.q, 21), (.q, 22), (.q, 23)] [[], [], [1], [0, 1, 2], [0, 1, 2, 3], [0, 1, 2, 3, 4], [0, 1, 2, 3, 4], [0, 1, 2, 3, 4, 5, 6], [0, 1, 2, 3, 4, 5, 6, 7], [0, 1, 2, 3, 4, 5, 6, 7, 8], [0, 1, 2, 3, 4, 5, 6, 7, 8, 9], [0, 1, 2, 3, 4, 5, 6, 7, 8, 9, 10], [0, 1, 2, 3, 4, 5, 6, 7, 8, 9, 10], [0, 1, 2, 3, 4, 5, 6, 7, 8, 9, 10, 11, 12], [0, 1, 2, 3, 4, 5, 6, 7, 8, 9, 10], [0, 1, 2, 3, 4, 5, 6, 7, 8, 9, 10, 11, 12, 13, 14], [0, 1, 2, 3, 4, 5, 6, 7, 8, 9, 10, 11, 12, 13, 14, 15], [0, 1, 2, 3, 4, 5, 6, 7, 8, 9, 10], [0, 1, 2, 3, 4, 5, 6, 7, 8, 9, 10, 11, 12, 13, 14, 15, 17], [0, 1, 2, 3, 4, 5, 6, 7, 8, 9, 10, 11, 12, 13, 14, 15, 17, 18], [0, 1, 2, 3, 4, 5, 6, 7, 8, 9, 10, 11, 12, 13, 14, 15, 16, 17, 18, 19], [0, 1, 2, 3, 4, 5, 6, 7, 8, 9, 10, 11, 12, 13, 14, 15, 16, 17, 18, 19, 20], [0, 1, 2, 3, 4, 5, 6, 7, 8, 9, 10, 11, 12, 13, 14, 15, 16, 17, 18, 19, 20, 21], [0, 1, 2, 3, 4, 5, 6, 7, 8, 9, 10, 11, 12, 13, 14, 15, 16, 17, 18, 19, 20, 21, 22]] (by kernel_rfl) [] M ?_
     refine w_read rfl wt_none (fun w X G' M => r_loadN Try.underlying28 rfl sz28 rfl rfl (M.cellsA (k := 0) (j := 0) rfl rfl)) ?_
     refine w_call0 rfl wt_none (fun w => cl6 rfl) (scriptOf x hx) (by simp) (fun _ _ => (by repeat (first | exact trivial | refine ⟨.inr rfl, ?_⟩ | refine ⟨.inl rfl, ?_⟩))) (fun _ h => h) ?_
     rintro v ⟨d, d1, d2, d3, d4⟩ ⟨rfl, hd, hdr⟩
     first | refine w_nf (L' := [_, _, _, _, _, _, _, _, _]) rfl ?_ | skip
     refine w_read rfl wt_none (fun w X G' M => r_loadN (cs := [_, _, _, _, _, _, _, _, _, _, _, _, _, _, _, _, _, _, _, _, _, _]) Try.underlying38 rfl sz38 rfl rfl (M.cells (n := 22) (k := 2) (j := 0) rfl rfl rfl)) ?_
     refine w_callP rfl wt_none (fun w => cl7 rfl) (fun w X M => sameT a d (ha.trans hd.symm) _ (M.fact (j := 1) rfl) ⟨hdr.1.lsAt rfl vtx_len (by decide) M (k := 5) rfl, ⟨hdr.2.1.lsAt rfl (fun _ => rfl) (by decide) M (k := 6) rfl, M.fact (j := 4) rfl⟩, ⟨hdr.2.2.1.lsAt rfl (fun _ => rfl) (by decide) M (k := 7) rfl, M.fact (j := 5) rfl⟩, ⟨hdr.2.2.2.lsAt rfl (fun _ => rfl) (by decide) M (k := 8) rfl, M.fact (j := 6) rfl⟩⟩) (by repeat (first | exact trivial | refine ⟨.inr rfl, ?_⟩ | refine ⟨.inl rfl, ?_⟩)) (fun _ h => List.mem_append_left _ (h)) ?_
     refine w_val rfl wt_none (fun w => (r_move (v := .bool _) rfl)) ?_
     refine w_read rfl (wt_yes rfl rfl rfl) (fun w X G' M => r_loadN (cs := [_, _, _, _, _, _, _, _, _, _, _, _, _, _, _, _, _, _, _, _, _, _]) Try.underlying38 rfl sz38 rfl rfl (M.cells (n := 22) (k := 2) (j := 0) rfl rfl rfl)) ?_
     refine w_read rfl (wt_yes rfl rfl rfl) (fun w X G' M => r_loadN (cs := [_, _, _, _, _, _, _, _, _, _, _, _, _, _, _, _, _, _, _, _, _, _]) Try.underlying38 rfl sz38 rfl rfl (M.cells (n := 22) (k := 4) (j := 0) rfl rfl rfl)) ?_
     refine w_callP rfl (wt_yes rfl rfl rfl) (fun w => cl7 rfl) (fun w X M => sameF a c' hne _ (M.fact (j := 1) rfl) (M.fact (j := 3) rfl)) (by repeat (first | exact trivial | refine ⟨.inr rfl, ?_⟩ | refine ⟨.inl rfl, ?_⟩)) (fun _ h => List.mem_append_left _ (h)) ?_
     refine w_val rfl (wt_yes rfl rfl rfl) (fun w => (r_not rfl)) ?_
     refine w_val rfl wt_none (fun w => (r_pick (v := .bool _) rfl rfl)) ?_
     refine w_val rfl wt_none (fun w => (r_move (v := .bool _) rfl)) ?_
     refine w_read rfl (wt_yes rfl rfl rfl) (fun w X G' M => r_loadN (cs := [_, _, _, _, _, _, _, _, _, _, _, _, _, _, _, _, _, _, _, _, _, _]) Try.underlying38 rfl sz38 rfl rfl (M.cells (n := 22) (k := 2) (j := 0) rfl rfl rfl)) ?_
     refine w_read rfl (wt_yes rfl rfl rfl) (fun w X G' M => r_loadN (cs := [_, _, _, _, _, _, _, _, _, _, _, _, _, _, _, _, _, _, _, _, _, _]) Try.underlying38 rfl sz38 rfl rfl (M.cells (n := 22) (k := 3) (j := 0) rfl rfl rfl)) ?_
     refine w_callP rfl (wt_yes rfl rfl rfl) (fun w => cl7 rfl) (fun w X M => same a b _ (M.fact (j := 1) rfl) (M.fact (j := 2) rfl)) (by repeat (first | exact trivial | refine ⟨.inr rfl, ?_⟩ | refine ⟨.inl rfl, ?_⟩)) (fun _ h => List.mem_append_left _ (h)) ?_
     refine w_read rfl (wt_yes rfl rfl rfl) (fun w X G' M => r_loadN (cs := [_, _, _, _, _, _, _, _, _, _, _, _, _, _, _, _, _, _, _, _, _, _]) Try.underlying38 rfl sz38 rfl rfl (M.cells (n := 22) (k := 2) (j := 0) rfl rfl rfl)) ?_
     refine w_call0 rfl (wt_yes rfl rfl rfl) (fun w => cl8 rfl) (bytesF a haok) (by simp) (fun _ _ => (by repeat (first | exact trivial | refine ⟨.inr rfl, ?_⟩ | refine ⟨.inl rfl, ?_⟩))) (fun _ h => List.mem_append_left _ (h)) ?_
     rintro v sa rfl
     first | refine w_nf (L' := [_, _, _, _, _, _, _, _, _]) rfl ?_ | skip
     refine w_facts rfl (wt_yes rfl rfl rfl) (fun w hF => (r_bytesStr (l := scrB a.scr) Try.underlying63 Try.underlying5 Try.underlying9 rfl (hF (SlF sa _ 1 (bv (scrB a.scr))) (by simp)))) ?_
     refine w_read rfl (wt_yes rfl rfl rfl) (fun w X G' M => r_loadN (cs := [_, _, _, _, _, _, _, _, _, _, _, _, _, _, _, _, _, _, _, _, _, _]) Try.underlying38 rfl sz38 rfl rfl (M.cells (n := 22) (k := 3) (j := 0) rfl rfl rfl)) ?_
     refine w_call0 rfl (wt_yes rfl rfl rfl) (fun w => cl8 rfl) (bytesF b hbok) (by simp) (fun _ _ => (by repeat (first | exact trivial | refine ⟨.inr rfl, ?_⟩ | refine ⟨.inl rfl, ?_⟩))) (fun _ h => List.mem_append_left _ (List.mem_append_left _ (h))) ?_
     rintro v sb rfl
     first | refine w_nf (L' := [_, _, _, _, _, _, _, _, _]) rfl ?_ | skip
     refine w_facts rfl (wt_yes rfl rfl rfl) (fun w hF => (r_bytesStr (l := scrB b.scr) Try.underlying63 Try.underlying5 Try.underlying9 rfl (hF (SlF sb _ 1 (bv (scrB b.scr))) (by simp)))) ?_
     refine w_val rfl (wt_yes rfl rfl rfl) (fun w => (r_eqls rfl rfl)) ?_
     refine w_val rfl (wt_yes rfl rfl rfl) (fun w => (r_eqlb Try.underlying4 rfl rfl)) ?_
     refine w_val rfl wt_none (fun w => (r_pick (v := .bool _) rfl rfl)) ?_
     refine w_val rfl wt_none (fun w => (r_assign (v := .bool _) rfl)) ?_
     refine w_nil ?_
     intro w M
     refine e_then (c_ret ?_)
     refine ret_run (res_1 (v := .bool _) rfl rfl) ?_
     exact ⟨congrArg (fun v => Ending.returned (bo v)) (tell (by rw [ha]; exact sml_good hx) (by rw [hb]; exact sml_good hy)), M.keep⟩
end Go.Proofs.Ytcjnniigonaapaa
