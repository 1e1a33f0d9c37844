/-
  WALKS B4: a draw put; a script put.
-/
import Derived.Test.YtcjnniigonaapaaB3
namespace Go.Proofs.Ytcjnniigonaapaa
open Go Go.Az Go.Proofs
set_option maxHeartbeats 1000000
theorem firstE_0 {α : Type} {f : α → Int} : ∀ {l : List α}, firstE f l = 0 → ∀ x ∈ l, f x = 0
  | [], _, x, hx => by cases hx
  | y :: l, h, x, hx => by
    have hy : f y = 0 := by
      rcases Decidable.em (f y = 0) with e | e
      · exact e
      · rw [firstE, if_pos e] at h; exact h
    rw [firstE, if_neg (by rw [hy]; decide)] at h
    rcases List.mem_cons.1 hx with e | e
    · rw [e]; exact hy
    · exact firstE_0 h x e
theorem orE_both {a b : Int} (h : orE a b = 0) : a = 0 ∧ b = 0 := by
  unfold orE at h
  split at h
  · contradiction
  · rename_i h1; exact ⟨by omega, h⟩
theorem within_wf {v : V4} {m : Int} (h0 : 0 ≤ m) (hm : m ≤ 9223372036854775807) (h : v = v.within m) : v.wf := by
  have e1 : v.a = Az.within v.a m := congrArg V4.a h
  have e2 : v.b = Az.within v.b m := congrArg V4.b h
  have e3 : v.c = Az.within v.c m := congrArg V4.c h
  have e4 : v.d = Az.within v.d m := congrArg V4.d h
  unfold Az.within at e1 e2 e3 e4
  unfold V4.wf
  omega
structure DrwP (d : Drw) : Prop where
  c : d.clears = true → 0 ≤ d.cdepth ∧ d.cdepth ≤ 65535 ∧ d.wanted ≤ 7
  v : d.clears = false → 0 ≤ d.vertex ∧ d.vertex ≤ 1000 ∧ 0 ≤ d.fragment ∧ d.fragment ≤ 1000 ∧ d.indices.length ≤ 96 ∧ ∀ n ∈ d.indices, 0 ≤ n ∧ n ≤ 1000
theorem meshCheck_0 {k nv : Int} {l : List Int} (h : meshCheck k l nv = 0) : k < 3 ∧ l.length ≤ 96 ∧ ∀ n ∈ l, 0 ≤ n ∧ n < nv := by
  unfold meshCheck at h
  split at h
  · cases h
  · split at h
    · cases h
    · split at h
      · cases h
      · refine ⟨by omega, by omega, fun n hn => ?_⟩
        have := firstE_0 h n hn
        split at this
        · cases this
        · omega
theorem drwP_of {d : Drw} {nv ns np : Nat} (hv : nv ≤ 1000) (hs : ns ≤ 1000) (hp : np ≤ 1000) (h : drwCheck nv ns np d = 0) : DrwP d := by
  unfold drwCheck at h
  split at h
  · contradiction
  · split at h
    · rename_i hc
      split at h
      · cases h
      · exact ⟨fun _ => by omega, fun h2 => (by rw [hc] at h2; cases h2)⟩
    · rename_i hc
      split at h
      · cases h
      · have hm := meshCheck_0 h
        refine ⟨fun h2 => absurd h2 hc, fun _ => ⟨by omega, by omega, by omega, by omega, hm.2.1, fun n hn => ?_⟩⟩
        have := hm.2.2 n hn
        omega
theorem scrOk_of {x : Scr} (hs : ∀ p ∈ x.ss, Prog.wf p) (hp : ∀ p ∈ x.ps, Prog.wf p) (hd : ∀ d ∈ x.ds, d.indices.length ≤ 1000) (h : scrCheck x = 0) : ScrOk x ∧ (∀ d ∈ x.ds, drwCheck x.vs.length x.ss.length x.ps.length d = 0) ∧ x.vs.length ≤ 64 ∧ x.ss.length ≤ 4 ∧ x.ps.length ≤ 4 ∧ x.ds.length ≤ 32 ∧ (1 ≤ x.w ∧ x.w ≤ 64) ∧ (1 ≤ x.h ∧ x.h ≤ 64) := by
  unfold scrCheck at h
  split at h
  · cases h
  · split at h
    · cases h
    · obtain ⟨h1, h⟩ := orE_both h
      obtain ⟨h2, h⟩ := orE_both h
      obtain ⟨h3, h⟩ := orE_both h
      obtain ⟨h4, h5⟩ := orE_both h
      have r1 := firstE_0 h1
      have r2 := firstE_0 h2
      have r3 := firstE_0 h3
      have r4 := firstE_0 h4
      have row : ∀ v ∈ [x.m0, x.m1, x.m2, x.m3], v.wf := fun v hv => by
        have := r1 v hv
        unfold rowCheck at this
        split at this
        · cases this
        · rename_i hh; exact within_wf (by decide) (by decide) (Decidable.not_not.1 hh)
      have pl : ∀ {d : Bool} {p : Prog}, progCheck p d = 0 → p.length ≤ 1000 := fun hc => by
        unfold progCheck at hc
        split at hc
        · cases hc
        · omega
      refine ⟨⟨row _ (by simp), row _ (by simp), row _ (by simp), row _ (by simp), fun v hv => ?_, by omega, fun p hq => ⟨hs p hq, pl (r3 p hq)⟩, by omega, fun p hq => ⟨hp p hq, pl (r4 p hq)⟩, by omega, hd, by omega⟩, firstE_0 h5, by omega, by omega, by omega, by omega, by omega, by omega⟩
      have := r2 v hv
      unfold vtxCheck at this
      split at this
      · cases this
      · rename_i hh
        exact ⟨within_wf (by decide) (by decide) (Decidable.not_not.1 fun h => hh (.inl h)), within_wf (by decide) (by decide) (Decidable.not_not.1 fun h => hh (.inr h))⟩

theorem drwPut (sd : Sl) (d : Drw) (hd : DrwP d) (hdi : d.indices.length ≤ 1000) (b : Nat) (l : List Int) (sg : Seg) (hB : WrAt b l sg) (hl : l.length ≤ 70000000) (ks : List Nat) (w0 : World) (M : St ks (keysOf [sg]) w0 w0 [sg] [LsF encN 1 sd d.indices]) :
    Calls Try.prog 32 #[.agg (drw sd d).toArray, .pointer (some ⟨b, 0, none⟩)] w0 fun e w' => ∃ v, ∃ g : Seg, e = .returned v ∧ (v = .tuple #[] ∧ WrAt b (l ++ drwB d) g ∧ (l ++ drwB d).length ≤ l.length + 11000) ∧ St ks (keysOf [sg]) w0 w' [g] [] := by
  have hst15 : (sttB d.st).length = 15 := rfl
  have hbl : (l ++ drwB d).length ≤ l.length + 11000 := by rw [List.length_append]; have := drwB_len hdi; omega
  skip
  refine calls_of 62 Try.func32 rfl rfl rfl ?_
  refine c_seq (c_region ?_)
  refine a_box (v := .agg _) rfl cells_agg M ?_
  intro b2 w M
  first | replace M := M.nf (L' := [_, [(_, _)]]) rfl | skip
  refine s_nil (e_then (c_seq (c_region ?_)))
  refine s_val (r_fieldAddr (o' := 0) fb61_0 (by decide) rfl rfl) ?_
  refine a_loadN (vs := [_, _, _, _, _, _, _, _, _, _, _, _, _, _, _]) Try.underlying54 rfl sz54 M rfl (k := 1) (j := 0) rfl rfl rfl rfl ?_
  refine s_val (r_move (v := .pointer _) rfl) ?_
  refine s_call1 0 (cl25 rfl) rfl (sttPut d.st b l _ hB (by omega)) M (fun _ h => nomatch h) ?_
  rintro v g w ⟨rfl, hB⟩ M
  first | replace M := M.nf (L' := [_, [(_, _)]]) rfl | skip
  refine s_nil (e_then (c_seq (c_seq (c_region ?_))))
  refine s_val (r_fieldAddr (o' := 15) fb61_1 (by decide) rfl rfl) ?_
  refine a_load1 (v := .bool _) Try.underlying4 rfl M rfl (k := 1) (j := 0) rfl rfl rfl ?_
  refine s_nil (e_then ?_)
  refine c_cond rfl (fun h11 => ?_) (fun h11 => ?_)
  ·
   have hdw : drwB d = sttB d.st ++ ([3, d.c0, d.c1, d.c2, d.c3, d.cstencil, d.wanted] ++ cntI d.cdepth) := by rw [drwB, if_pos h11]
   have hcd := hd.c h11
   have hl1 : (l ++ sttB d.st).length = l.length + 15 := by rw [List.length_append, hst15]
   refine c_seq (c_region ?_)
   refine s_val (r_move (v := .pointer _) rfl) ?_
   refine s_call1 0 (cl48 rfl) rfl (wrByte 3 b _ _ hB (by omega)) M (fun _ h => nomatch h) ?_
   rintro v g w ⟨rfl, hB, hlk⟩ M
   first | replace M := M.nf (L' := [_, [(_, _)]]) rfl | skip
   refine s_nil (e_then (c_seq ?_))
   refine c_drawT (by kernel_rfl) [(.fl, 1), (.q, 2), (.q, 3), (.q, 4), (.ch, 5), (.q, 6), (.q, 7), (.q, 8), (.q, 9), (.q, 10), (.q, 11), (.fl, 12), (.ch, 13), (.q, 0)] [14] [[], [], [], [2], [2, 3], [1, 2, 3, 4], [], [6], [6, 7], [], [9], [9, 10], [6, 7, 8, 9, 10, 11], [1, 2, 3, 4, 5, 6, 7, 8, 9, 10, 11, 12], [0, 1, 2, 3, 4, 5, 6, 7, 8, 9, 10, 11, 12, 13]] (by kernel_rfl) [] M ?_
   refine w_buildSliceS (cs := []) rfl wt_none Try.underlying63 sz5 zr5 rfl rfl (by decide) rfl (ps := []) (qs := []) rfl trivial rfl ?_
   intro b15
   first | refine w_nf (L' := [_, [(_, _)], [(_, _)]]) rfl ?_ | skip
   refine w_val rfl wt_none (fun w => (r_fieldAddr (o' := 16) fb61_2 (by decide) rfl rfl)) ?_
   refine w_val rfl wt_none (fun w => (r_fieldAddr (o' := 16) fb57_0 (by decide) rfl rfl)) ?_
   refine w_val rfl wt_none (fun w => (r_sliceArr Try.underlying55 sz5 rfl)) ?_
   refine w_append 2 rfl wt_none Try.underlying63 sz5 by5 zr5 rfl rfl rfl (own_lit (n := 0) rfl (by decide)) rfl rfl (fun w X M => (SlF.src Try.underlying63 (slF_at M (k := 1) (j := 0) (o := 16) (n := 4) rfl rfl rfl rfl rfl) rfl)) (by simp only [maxLen]; omega) (by omega) (fun _ => (by repeat (first | exact trivial | refine ⟨.inr rfl, ?_⟩ | refine ⟨.inl rfl, ?_⟩))) (fun _ h => h) ?_
   intro s1 sg1 hO1
   first | refine w_nf (L' := [_, [(_, _)], _]) rfl ?_ | skip
   refine w_val rfl wt_none (fun w => (r_fieldAddr (o' := 16) fb61_2 (by decide) rfl rfl)) ?_
   refine w_val rfl wt_none (fun w => (r_fieldAddr (o' := 21) fb57_2 (by decide) rfl rfl)) ?_
   refine w_read (v := .int _ _) rfl wt_none (fun w X G' M => r_load1 Try.underlying5 rfl rfl (M.cell (k := 1) (j := 0) rfl rfl rfl)) ?_
   refine w_val rfl wt_none (fun w => (r_fieldAddr (o' := 16) fb61_2 (by decide) rfl rfl)) ?_
   refine w_val rfl wt_none (fun w => (r_fieldAddr (o' := 22) fb57_3 (by decide) rfl rfl)) ?_
   refine w_read (v := .int _ _) rfl wt_none (fun w X G' M => r_load1 Try.underlying5 rfl rfl (M.cell (k := 1) (j := 0) rfl rfl rfl)) ?_
   refine w_buildSliceS (cs := [_, _]) rfl wt_none Try.underlying63 sz5 zr5 rfl rfl (by decide) rfl (ps := [(0, .int _ _), (1, .int _ _)]) (qs := [(0, [_]), (1, [_])]) rfl ⟨rfl, rfl, rfl, rfl, rfl, rfl, trivial⟩ rfl ?_
   intro b26
   first | refine w_nf (L' := [_, [(_, _)], _, [(_, _)]]) rfl ?_ | skip
   refine w_append 2 rfl wt_none Try.underlying63 sz5 by5 zr5 rfl rfl rfl hO1 rfl rfl (fun w X M => (SlF.src Try.underlying63 (slF_lit M (k := 3) (j := 0) rfl rfl rfl rfl) rfl)) (by simp only [maxLen]; omega) (by omega) (fun _ => (by repeat (first | exact trivial | refine ⟨.inr rfl, ?_⟩ | refine ⟨.inl rfl, ?_⟩))) (fun _ h => h) ?_
   intro s2 sg2 hO2
   first | refine w_nf (L' := [_, [(_, _)], _, [(_, _)]]) rfl ?_ | skip
   refine w_val rfl wt_none (fun w => (r_move (v := .pointer _) rfl)) ?_
   refine w_nil ?_
   intro w M
   have hO3 : Own 5 1 s2 6 (bv [d.c0, d.c1, d.c2, d.c3, d.cstencil, d.wanted]) sg2 := hO2
   replace M := M.frz (k := 2) rfl (SlF s2 6 1 (bv [d.c0, d.c1, d.c2, d.c3, d.cstencil, d.wanted])) (fun w' h => hO3.slF' (by decide) h)
   refine s_call1 0 (cl28 rfl) rfl (wrPut b _ _ s2 6 [d.c0, d.c1, d.c2, d.c3, d.cstencil, d.wanted] hB (by omega)) M (by simp) ?_
   rintro v g w ⟨rfl, hB⟩ M
   first | replace M := M.nf (L' := [_, [(_, _)], _, [(_, _)]]) rfl | skip
   refine s_nil (e_then (c_seq (c_region ?_)))
   have hl2 : (l ++ sttB d.st ++ [3] ++ [d.c0, d.c1, d.c2, d.c3, d.cstencil, d.wanted]).length = l.length + 22 := by simp only [List.length_append, hst15, List.length_cons, List.length_nil]
   refine s_val (r_move (v := .pointer _) rfl) ?_
   refine s_val (r_fieldAddr (o' := 16) fb61_2 (by decide) rfl rfl) ?_
   refine s_val (r_fieldAddr (o' := 20) fb57_1 (by decide) rfl rfl) ?_
   refine a_load1 (v := .int _ _) Try.underlying3 rfl M rfl (k := 1) (j := 0) rfl rfl rfl ?_
   refine s_call1 0 (cl29 rfl) rfl (wrCount _ hcd.1 (by omega) b _ _ hB (by omega)) M (fun _ h => nomatch h) ?_
   rintro v g w ⟨rfl, hB, hlk2⟩ M
   first | replace M := M.nf (L' := [_, [(_, _)], _, [(_, _)]]) rfl | skip
   refine s_nil (e_then (c_ret (e_then_ret ?_)))
   refine ret_run (res_none rfl) ?_
   have e : l ++ sttB d.st ++ [3] ++ [d.c0, d.c1, d.c2, d.c3, d.cstencil, d.wanted] ++ cntI d.cdepth = l ++ drwB d := by rw [hdw]; simp
   exact ⟨_, _, rfl, ⟨rfl, by rw [← e]; exact hB, hbl⟩, (M.picks [0] rfl rfl).useG (by simp)⟩
  ·
   have hdw : drwB d = sttB d.st ++ ([d.kind] ++ (cntI d.vertex ++ (cntI d.fragment ++ (cnt d.indices.length ++ d.indices.flatMap cntI)))) := by rw [drwB, if_neg (by rw [h11]; decide)]
   obtain ⟨v1, v2, f1, f2, i1, i2⟩ := hd.v h11
   have hl1 : (l ++ sttB d.st).length = l.length + 15 := by rw [List.length_append, hst15]
   refine c_skip (e_then (c_seq (c_region ?_)))
   refine s_val (r_move (v := .pointer _) rfl) ?_
   refine s_val (r_fieldAddr (o' := 25) fb61_5 (by decide) rfl rfl) ?_
   refine a_load1 (v := .int _ _) Try.underlying58 rfl M rfl (k := 1) (j := 0) rfl rfl rfl ?_
   refine s_call1 0 (cl48 rfl) rfl (wrByte _ b _ _ hB (by omega)) M (fun _ h => nomatch h) ?_
   rintro v g w ⟨rfl, hB, hlk1⟩ M
   first | replace M := M.nf (L' := [_, [(_, _)]]) rfl | skip
   refine s_nil (e_then (c_seq (c_region ?_)))
   refine s_val (r_move (v := .pointer _) rfl) ?_
   refine s_val (r_fieldAddr (o' := 23) fb61_3 (by decide) rfl rfl) ?_
   refine a_load1 (v := .int _ _) Try.underlying3 rfl M rfl (k := 1) (j := 0) rfl rfl rfl ?_
   refine s_call1 0 (cl29 rfl) rfl (wrCount _ v1 (by omega) b _ _ hB (by omega)) M (fun _ h => nomatch h) ?_
   rintro v g w ⟨rfl, hB, hlk2⟩ M
   first | replace M := M.nf (L' := [_, [(_, _)]]) rfl | skip
   refine s_nil (e_then (c_seq (c_region ?_)))
   refine s_val (r_move (v := .pointer _) rfl) ?_
   refine s_val (r_fieldAddr (o' := 24) fb61_4 (by decide) rfl rfl) ?_
   refine a_load1 (v := .int _ _) Try.underlying3 rfl M rfl (k := 1) (j := 0) rfl rfl rfl ?_
   refine s_call1 0 (cl29 rfl) rfl (wrCount _ f1 (by omega) b _ _ hB (by omega)) M (fun _ h => nomatch h) ?_
   rintro v g w ⟨rfl, hB, hlk3⟩ M
   first | replace M := M.nf (L' := [_, [(_, _)]]) rfl | skip
   refine s_nil (e_then (c_seq (c_region ?_)))
   refine s_val (r_move (v := .pointer _) rfl) ?_
   refine s_val (r_fieldAddr (o' := 26) fb61_6 (by decide) rfl rfl) ?_
   refine a_load1 (v := .slice _ _ _) Try.underlying59 rfl M rfl (k := 1) (j := 0) rfl rfl rfl ?_
   refine s_val (r_len Try.underlying59 rfl) ?_
   refine s_call1 0 (cl29 rfl) rfl (wrCountN _ (by omega) b _ _ hB (by omega)) M (fun _ h => nomatch h) ?_
   rintro v g w ⟨rfl, hB, hlk4⟩ M
   first | replace M := M.nf (L' := [_, [(_, _)]]) rfl | skip
   refine s_nil (e_then (c_seq (c_region ?_)))
   replace M := (M.picks [0, 1] rfl rfl).useG (G' := [LsF encN 1 sd d.indices]) (by simp)
   refine s_val (r_fieldAddr (o' := 26) fb61_6 (by decide) rfl rfl) ?_
   refine a_load1 (v := .slice _ _ _) Try.underlying59 rfl M rfl (k := 1) (j := 0) rfl rfl rfl ?_
   refine s_val (r_len Try.underlying59 rfl) ?_
   refine s_val (r_move (v := .int _ _) rfl) ?_
   refine s_nil (e_then (c_block ?_))
   refine c_loopG [5, 54, 55, 56, 57, 58, 59, 60, 61] (Γ := Nat × List Int × Seg) (vals := fun (k, l, sg) => [(54, i64 k)]) (I := fun m2 (k2, l', sg2) w => m2 + k2 = d.indices.length ∧ l' = l ++ sttB d.st ++ [d.kind] ++ cntI d.vertex ++ cntI d.fragment ++ cnt d.indices.length ++ (d.indices.take k2).flatMap cntI ∧ l'.length ≤ l.length + 100 + k2 * 10 ∧ WrAt b l' sg2 ∧ St ks (keysOf [sg]) w0 w [sg2, [(b2, C (drw sd d) 61)]] [LsF encN 1 sd d.indices]) d.indices.length (0, _, _) ⟨rfl, trivial⟩ ⟨rfl, by simp, by omega, hB, M⟩ ?_
   rintro m2 ⟨k2, l3, sg3⟩ e2 w ⟨hk2, hl3, hlk5, hB, M⟩
   refine c_seq (c_region ?_)
   refine s_val (r_lss rfl rfl) ?_
   refine s_nil (e_then (c_seq ?_))
   refine c_if rfl (fun h55 => ?_) (fun h55 => ?_)
   ·
    obtain ⟨z, hz⟩ : ∃ z, d.indices[k2]? = some z := ⟨_, List.getElem?_eq_getElem (by omega)⟩
    obtain ⟨bj, oj, ha2⟩ := (M.fact (j := 0) rfl).addr (by omega)
    obtain ⟨z1, z2⟩ := i2 z (List.mem_of_getElem? hz)
    refine c_skip (e_then (c_seq (c_block (c_seq (c_region ?_)))))
    refine s_val (r_indexAddrS Try.underlying59 sz3 rfl (ha2) rfl (by omega) (by omega) rfl) ?_
    refine s_val (r_load1 (v := .int _ _) Try.underlying3 rfl rfl ((M.fact (j := 0) rfl).cell0 ha2 hz rfl)) ?_
    refine s_val (r_assign (v := .int _ _) rfl) ?_
    refine s_nil (e_then (c_region ?_))
    refine s_val (r_move (v := .pointer _) rfl) ?_
    refine s_val (r_move (v := .int _ _) rfl) ?_
    refine s_call1 0 (cl29 rfl) rfl (wrCount _ z1 (by omega) b _ _ hB (by omega)) M (fun _ h => nomatch h) ?_
    rintro v g w ⟨rfl, hB, hlk6⟩ M
    first | replace M := M.nf (L' := [_, _]) rfl | skip
    refine s_nil (e_blk (e_then (c_region ?_)))
    first | (refine s_val (r_add rfl rfl (w64 (by omega) (by omega))) ?_) | (refine s_val (r_add rfl rfl rfl) ?_)
    refine s_val (r_move (v := .int _ _) rfl) ?_
    refine s_nil (e_then ?_)
    exact loop_end (m2 - 1) (k2 + 1, _, _) (by repeat (first | exact ag_refl | exact ag_mask rfl ag_refl | refine ag_upd rfl ?_ | refine ag_mask rfl ?_)) ⟨i64succ k2, trivial⟩ (by omega) ⟨by omega, by rw [flat_take hz, hl3]; simp only [List.append_assoc], by omega, hB, (M.picks [0, 1] rfl rfl).useG (by simp)⟩
   ·
    rw [take_doneI (by omega)] at hl3
    refine c_exit (e_then_exit (e_then_exit (e_blk_here ?_)))
    refine end_run (res_none rfl) ?_
    have e : l3 = l ++ drwB d := by rw [hdw, hl3]; simp
    subst e
    exact ⟨_, _, rfl, ⟨rfl, hB, hbl⟩, (M.picks [0] rfl rfl).useG (by simp)⟩
end Go.Proofs.Ytcjnniigonaapaa
