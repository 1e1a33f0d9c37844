/-
  WALKS A: is what comes in short?
-/
import Derived.Test.YtcjnniigonaapaaA9
namespace Go.Proofs.Ytcjnniigonaapaa
open Go Go.Az Go.Proofs
set_option maxHeartbeats 4000000
/-- the law's small script, as it lies -/
structure SMV where
  w : Int
  h : Int
  t0 : Int
  t1 : Int
  t2 : Int
  t3 : Int
  V : Sl
  vs : List SVtx
  S : Sl
  ss : List (Sl × List SIns)
  P : Sl
  ps : List (Sl × List SIns)
  D : Sl
  ds : List (Sl × SDrw)
abbrev SMV.cells (x : SMV) : List Value := [u8 x.w, u8 x.h, i16 x.t0, i16 x.t1, i16 x.t2, i16 x.t3, x.V.v x.vs.length, x.S.v x.ss.length, x.P.v x.ps.length, x.D.v x.ds.length]
def SMV.sml (x : SMV) : Sml := ⟨x.w, x.h, x.t0, x.t1, x.t2, x.t3, x.vs, x.ss.map (·.2), x.ps.map (·.2), x.ds.map (·.2)⟩
abbrev encSD (x : Sl × SDrw) : List Value := sdrw x.1 x.2
structure SDF (S : Sl) (l : List (Sl × SDrw)) (w : World) : Prop where
  row : LsF encSD 26 S l w
  each : ∀ x ∈ l, LsF encB 1 x.1 x.2.indices w
theorem SDF.nice {S : Sl} {l : List (Sl × SDrw)} : Nice (SDF S l) := fun _ _ ha h => ⟨LsF.nice _ _ ha h.row, fun x hx => LsF.nice _ _ ha (h.each x hx)⟩
structure SMF (x : SMV) (w : World) : Prop where
  vs : LsF svtx 9 x.V x.vs w
  ss : SSF x.S x.ss w
  ps : SSF x.P x.ps w
  ds : SDF x.D x.ds w
theorem SMF.nice {x : SMV} : Nice (SMF x) := fun _ _ ha h => ⟨LsF.nice _ _ ha h.vs, SSF.nice _ _ ha h.ss, SSF.nice _ _ ha h.ps, SDF.nice _ _ ha h.ds⟩
theorem light_iff (x : SMV) : x.sml.light = true ↔ ((∀ y ∈ x.ss, y.2.length ≤ 30) ∧ (∀ y ∈ x.ps, y.2.length ≤ 30) ∧ (∀ y ∈ x.ds, y.2.indices.length ≤ 60) ∧ x.vs.length ≤ 40 ∧ x.ss.length ≤ 6 ∧ x.ps.length ≤ 6 ∧ x.ds.length ≤ 20) := by
  simp only [Sml.light, SMV.sml, Bool.and_eq_true, List.all_eq_true, decide_eq_true_eq, List.length_map, List.mem_map, forall_exists_index, and_imp, forall_apply_eq_imp_iff₂, and_assoc]
  simp
  intros; exact ⟨fun h => of_decide_eq_true h, fun h => decide_eq_true h⟩
theorem take_all {α : Type} {p : α → Prop} {l : List α} {k : Nat} {x : α} (h : ∀ y ∈ l.take k, p y) (hx : l[k]? = some x) (hp : p x) : ∀ y ∈ l.take (k + 1), p y := fun y hy => by
  rw [List.take_add_one, hx] at hy
  rcases List.mem_append.1 hy with hy | hy
  · exact h y hy
  · simp at hy; subst hy; exact hp

theorem lightOf (x : SMV) (w0 : World) (h : SMF x w0) :
    Calls Try.prog 5 #[.agg x.cells.toArray] w0 fun e w' => e = .returned (bo x.sml.light) ∧ Keep [] w0 w' := by
  have hno : ∀ {y : Sl × List SIns}, y ∈ x.ss → ¬ y.2.length ≤ 30 → false = x.sml.light := fun hy hn => by
    cases e : x.sml.light with
    | false => rfl
    | true => exact absurd (((light_iff x).1 e).1 _ hy) hn
  have hno2 : ∀ {y : Sl × List SIns}, y ∈ x.ps → ¬ y.2.length ≤ 30 → false = x.sml.light := fun hy hn => by
    cases e : x.sml.light with
    | false => rfl
    | true => exact absurd (((light_iff x).1 e).2.1 _ hy) hn
  have hno3 : ∀ {y : Sl × SDrw}, y ∈ x.ds → ¬ y.2.indices.length ≤ 60 → false = x.sml.light := fun hy hn => by
    cases e : x.sml.light with
    | false => rfl
    | true => exact absurd (((light_iff x).1 e).2.2.1 _ hy) hn
  have hno4 : ¬ (x.vs.length ≤ 40 ∧ x.ss.length ≤ 6 ∧ x.ps.length ≤ 6 ∧ x.ds.length ≤ 20) → false = x.sml.light := fun hn => by
    cases e : x.sml.light with
    | false => rfl
    | true => exact absurd (((light_iff x).1 e).2.2.2) hn
  have M := St.begin w0 SMF.nice h
  refine calls_of 65 Try.func5 rfl rfl rfl ?_
  refine c_seq (c_region ?_)
  refine a_box (v := .agg _) rfl cells_agg M ?_
  intro b1 w M
  first | replace M := M.nf (L' := [[(_, _)]]) rfl | skip
  refine s_val (r_assign (v := .bool _) rfl) ?_
  refine s_nil (e_then (c_seq (c_seq (c_region ?_))))
  refine s_val (r_fieldAddr (o' := 7) fb28_4 (by decide) rfl rfl) ?_
  refine a_load1 (v := .slice _ _ _) Try.underlying25 rfl M rfl (k := 0) (j := 0) rfl rfl rfl ?_
  refine s_val (r_len Try.underlying25 rfl) ?_
  refine s_val (r_move (v := .int _ _) rfl) ?_
  refine s_nil (e_then (c_block ?_))
  refine c_loopG [2, 4, 12, 13, 14, 15, 16, 17, 18, 19] (Γ := Nat) (vals := fun k => [(12, i64 k)]) (I := fun m k w => m + k = x.ss.length ∧ (∀ y ∈ x.ss.take k, y.2.length ≤ 30) ∧ St [] [] w0 w [[(b1, C x.cells 28)]] [SMF x]) x.ss.length 0 ⟨rfl, trivial⟩ ⟨rfl, by simp, M⟩ ?_
  rintro m k e w ⟨hk, hs, M⟩
  refine c_seq (c_region ?_)
  refine s_val (r_lss rfl rfl) ?_
  refine s_nil (e_then (c_seq ?_))
  refine c_if rfl (fun h13 => ?_) (fun h13 => ?_)
  ·
   have htop := (M.fact (j := 0) rfl).ss.row.sl.top
   obtain ⟨y, hy⟩ : ∃ y, x.ss[k]? = some y := ⟨_, List.getElem?_eq_getElem (by omega)⟩
   obtain ⟨bi, oi, ha⟩ := (M.fact (j := 0) rfl).ss.row.addr (by omega)
   refine c_skip (e_then (c_seq (c_block (c_seq (c_region ?_)))))
   refine s_val (r_indexAddrS Try.underlying25 sz71 rfl (ha) rfl (by omega) (by omega) rfl) ?_
   refine s_val (r_load1 (v := .slice _ _ _) Try.underlying71 rfl rfl ((M.fact (j := 0) rfl).ss.row.cell0 ha hy rfl)) ?_
   refine s_val (r_assign (v := .slice _ _ _) rfl) ?_
   refine s_nil (e_then (c_seq (c_region ?_)))
   refine s_val (r_move (v := .slice _ _ _) rfl) ?_
   refine s_val (r_len Try.underlying71 rfl) ?_
   refine s_val (r_gtr rfl rfl) ?_
   refine s_nil (e_then ?_)
   refine c_if rfl (fun h18 => ?_) (fun h18 => ?_)
   ·
    have hr : false = x.sml.light := hno (List.mem_of_getElem? hy) (by omega)
    refine c_seq (c_region ?_)
    refine s_val (r_assign (v := .bool _) rfl) ?_
    refine s_nil (e_then (c_ret (e_blk_ret (e_then_ret (e_then_ret (e_blk_ret (e_then_ret ?_)))))))
    refine ret_run (res_1 (v := .bool _) rfl rfl) ?_
    exact ⟨congrArg (fun b => Ending.returned (bo b)) hr, M.keep⟩
   ·
    refine c_skip (e_blk (e_then (c_region ?_)))
    first | (refine s_val (r_add rfl rfl (w64 (by omega) (by omega))) ?_) | (refine s_val (r_add rfl rfl rfl) ?_)
    refine s_val (r_move (v := .int _ _) rfl) ?_
    refine s_nil (e_then ?_)
    exact loop_end (m - 1) (k + 1) (by repeat (first | exact ag_refl | exact ag_mask rfl ag_refl | refine ag_upd rfl ?_ | refine ag_mask rfl ?_)) ⟨i64succ k, trivial⟩ (by omega) ⟨by omega, take_all hs hy (by omega), M⟩
  ·
   rw [List.take_of_length_le (by omega)] at hs
   refine c_exit (e_then_exit (e_then_exit (e_blk_here (e_then (c_seq (c_seq (c_region ?_)))))))
   refine s_val (r_fieldAddr (o' := 8) fb28_5 (by decide) rfl rfl) ?_
   refine a_load1 (v := .slice _ _ _) Try.underlying25 rfl M rfl (k := 0) (j := 0) rfl rfl rfl ?_
   refine s_val (r_len Try.underlying25 rfl) ?_
   refine s_val (r_move (v := .int _ _) rfl) ?_
   refine s_nil (e_then (c_block ?_))
   refine c_loopG [2, 6, 23, 24, 25, 26, 27, 28, 29, 30] (Γ := Nat) (vals := fun k => [(23, i64 k)]) (I := fun m k w => m + k = x.ps.length ∧ (∀ y ∈ x.ps.take k, y.2.length ≤ 30) ∧ St [] [] w0 w [[(b1, C x.cells 28)]] [SMF x]) x.ps.length 0 ⟨rfl, trivial⟩ ⟨rfl, by simp, M⟩ ?_
   rintro m k e w ⟨hk, hp, M⟩
   refine c_seq (c_region ?_)
   refine s_val (r_lss rfl rfl) ?_
   refine s_nil (e_then (c_seq ?_))
   refine c_if rfl (fun h24 => ?_) (fun h24 => ?_)
   ·
    have htop := (M.fact (j := 0) rfl).ps.row.sl.top
    obtain ⟨y, hy⟩ : ∃ y, x.ps[k]? = some y := ⟨_, List.getElem?_eq_getElem (by omega)⟩
    obtain ⟨bi, oi, ha⟩ := (M.fact (j := 0) rfl).ps.row.addr (by omega)
    refine c_skip (e_then (c_seq (c_block (c_seq (c_region ?_)))))
    refine s_val (r_indexAddrS Try.underlying25 sz71 rfl (ha) rfl (by omega) (by omega) rfl) ?_
    refine s_val (r_load1 (v := .slice _ _ _) Try.underlying71 rfl rfl ((M.fact (j := 0) rfl).ps.row.cell0 ha hy rfl)) ?_
    refine s_val (r_assign (v := .slice _ _ _) rfl) ?_
    refine s_nil (e_then (c_seq (c_region ?_)))
    refine s_val (r_move (v := .slice _ _ _) rfl) ?_
    refine s_val (r_len Try.underlying71 rfl) ?_
    refine s_val (r_gtr rfl rfl) ?_
    refine s_nil (e_then ?_)
    refine c_if rfl (fun h29 => ?_) (fun h29 => ?_)
    ·
     have hr : false = x.sml.light := hno2 (List.mem_of_getElem? hy) (by omega)
     refine c_seq (c_region ?_)
     refine s_val (r_assign (v := .bool _) rfl) ?_
     refine s_nil (e_then (c_ret (e_blk_ret (e_then_ret (e_then_ret (e_blk_ret (e_then_ret ?_)))))))
     refine ret_run (res_1 (v := .bool _) rfl rfl) ?_
     exact ⟨congrArg (fun b => Ending.returned (bo b)) hr, M.keep⟩
    ·
     refine c_skip (e_blk (e_then (c_region ?_)))
     first | (refine s_val (r_add rfl rfl (w64 (by omega) (by omega))) ?_) | (refine s_val (r_add rfl rfl rfl) ?_)
     refine s_val (r_move (v := .int _ _) rfl) ?_
     refine s_nil (e_then ?_)
     exact loop_end (m - 1) (k + 1) (by repeat (first | exact ag_refl | exact ag_mask rfl ag_refl | refine ag_upd rfl ?_ | refine ag_mask rfl ?_)) ⟨i64succ k, trivial⟩ (by omega) ⟨by omega, take_all hp hy (by omega), M⟩
   ·
    rw [List.take_of_length_le (by omega)] at hp
    refine c_exit (e_then_exit (e_then_exit (e_blk_here (e_then (c_seq (c_seq (c_region ?_)))))))
    refine s_val (r_fieldAddr (o' := 9) fb28_6 (by decide) rfl rfl) ?_
    refine a_load1 (v := .slice _ _ _) Try.underlying26 rfl M rfl (k := 0) (j := 0) rfl rfl rfl ?_
    refine s_val (r_len Try.underlying26 rfl) ?_
    refine s_val (r_move (v := .int _ _) rfl) ?_
    refine s_nil (e_then (c_block ?_))
    refine c_loopG [2, 8, 34, 35, 36, 37, 38, 39, 40, 41, 42] (Γ := Nat) (vals := fun k => [(34, i64 k)]) (I := fun m k w => m + k = x.ds.length ∧ (∀ y ∈ x.ds.take k, y.2.indices.length ≤ 60) ∧ St [] [] w0 w [[(b1, C x.cells 28)]] [SMF x]) x.ds.length 0 ⟨rfl, trivial⟩ ⟨rfl, by simp, M⟩ ?_
    rintro m k e w ⟨hk, hd, M⟩
    refine c_seq (c_region ?_)
    refine s_val (r_lss rfl rfl) ?_
    refine s_nil (e_then (c_seq ?_))
    refine c_if rfl (fun h35 => ?_) (fun h35 => ?_)
    ·
     have htop := (M.fact (j := 0) rfl).ds.row.sl.top
     obtain ⟨y, hy⟩ : ∃ y, x.ds[k]? = some y := ⟨_, List.getElem?_eq_getElem (by omega)⟩
     obtain ⟨bi, oi, ha⟩ := (M.fact (j := 0) rfl).ds.row.addr (by omega)
     refine c_skip (e_then (c_seq (c_block (c_seq (c_region ?_)))))
     refine s_val (r_indexAddrS Try.underlying26 sz76 rfl (ha) rfl (by omega) (by omega) rfl) ?_
     refine s_val (r_loadN (cs := encSD y) Try.underlying76 rfl sz76 rfl rfl (fun j v hv => (M.fact (j := 0) rfl).ds.row.cell ha hy hv)) ?_
     refine a_alloc zr76 cells_agg M ?_
     intro b8 w M
     first | replace M := M.nf (L' := [_, [(_, _)]]) rfl | skip
     refine a_storeS (v := .agg _) (cs' := [_, _, _, _, _, _, _, _, _, _, _, _, _, _, _, _, _, _, _, _, _, _, _, _, _, _]) sz76 M rfl rfl cells_agg (k := 1) (j := 0) rfl rfl rfl rfl rfl rfl ?_
     intro w M
     first | replace M := M.nf (L' := [_, [(_, _)]]) rfl | skip
     refine s_nil (e_then (c_seq (c_region ?_)))
     refine s_val (r_fieldAddr (o' := 19) fb76_4 (by decide) rfl rfl) ?_
     refine a_load1 (v := .slice _ _ _) Try.underlying63 rfl M rfl (k := 1) (j := 0) rfl rfl rfl ?_
     refine s_val (r_len Try.underlying63 rfl) ?_
     refine s_val (r_gtr rfl rfl) ?_
     refine s_nil (e_then ?_)
     refine c_if rfl (fun h41 => ?_) (fun h41 => ?_)
     ·
      have hr : false = x.sml.light := hno3 (List.mem_of_getElem? hy) (by omega)
      refine c_seq (c_region ?_)
      refine s_val (r_assign (v := .bool _) rfl) ?_
      refine s_nil (e_then (c_ret (e_blk_ret (e_then_ret (e_then_ret (e_blk_ret (e_then_ret ?_)))))))
      refine ret_run (res_1 (v := .bool _) rfl rfl) ?_
      exact ⟨congrArg (fun b => Ending.returned (bo b)) hr, M.keep⟩
     ·
      refine c_skip (e_blk (e_then (c_region ?_)))
      first | (refine s_val (r_add rfl rfl (w64 (by omega) (by omega))) ?_) | (refine s_val (r_add rfl rfl rfl) ?_)
      refine s_val (r_move (v := .int _ _) rfl) ?_
      refine s_nil (e_then ?_)
      exact loop_end (m - 1) (k + 1) (by repeat (first | exact ag_refl | exact ag_mask rfl ag_refl | refine ag_upd rfl ?_ | refine ag_mask rfl ?_)) ⟨i64succ k, trivial⟩ (by omega) ⟨by omega, take_all hd hy (by omega), M.only ⟨.inr rfl, trivial⟩ ⟨rfl, trivial⟩⟩
    ·
     rw [List.take_of_length_le (by omega)] at hd
     refine c_exit (e_then_exit (e_then_exit (e_blk_here (e_then (c_seq (c_region ?_))))))
     refine s_val (r_fieldAddr (o' := 6) fb28_3 (by decide) rfl rfl) ?_
     refine a_load1 (v := .slice _ _ _) Try.underlying24 rfl M rfl (k := 0) (j := 0) rfl rfl rfl ?_
     refine s_val (r_len Try.underlying24 rfl) ?_
     refine s_val (r_leq rfl rfl) ?_
     refine s_val (r_move (v := .bool _) rfl) ?_
     refine s_splitD 47 rfl (fun g47 => ?_) (fun g47 => ?_)
     ·
      have q1 : x.vs.length ≤ 40 := by omega
      refine s_unguard (yield_Fr rfl rfl) rfl ?_
      refine s_val (r_fieldAddr (o' := 7) fb28_4 (by decide) rfl rfl) ?_
      refine s_unguard (yield_Fr rfl rfl) rfl ?_
      refine a_load1 (v := .slice _ _ _) Try.underlying25 rfl M rfl (k := 0) (j := 0) rfl rfl rfl ?_
      refine s_unguard (yield_Fr rfl rfl) rfl ?_
      refine s_val (r_len Try.underlying25 rfl) ?_
      refine s_unguard (yield_Fr rfl rfl) rfl ?_
      refine s_val (r_leq rfl rfl) ?_
      refine s_val (r_pick (v := .bool _) rfl rfl) ?_
      refine s_val (r_move (v := .bool _) rfl) ?_
      refine s_splitD 53 rfl (fun g53 => ?_) (fun g53 => ?_)
      ·
       have q2 : x.ss.length ≤ 6 := by omega
       refine s_unguard (yield_Fr rfl rfl) rfl ?_
       refine s_val (r_fieldAddr (o' := 8) fb28_5 (by decide) rfl rfl) ?_
       refine s_unguard (yield_Fr rfl rfl) rfl ?_
       refine a_load1 (v := .slice _ _ _) Try.underlying25 rfl M rfl (k := 0) (j := 0) rfl rfl rfl ?_
       refine s_unguard (yield_Fr rfl rfl) rfl ?_
       refine s_val (r_len Try.underlying25 rfl) ?_
       refine s_unguard (yield_Fr rfl rfl) rfl ?_
       refine s_val (r_leq rfl rfl) ?_
       refine s_val (r_pick (v := .bool _) rfl rfl) ?_
       refine s_val (r_move (v := .bool _) rfl) ?_
       refine s_splitD 59 rfl (fun g59 => ?_) (fun g59 => ?_)
       ·
        have hr : decide ((x.ds.length : Int) ≤ 20) = x.sml.light := by
          by_cases q4 : x.ds.length ≤ 20
          · rw [(light_iff x).2 ⟨hs, hp, hd, q1, q2, by omega, q4⟩]; exact decide_eq_true (by omega)
          · rw [← hno4 (by omega)]; exact decide_eq_false (by omega)
        refine s_unguard (yield_Fr rfl rfl) rfl ?_
        refine s_val (r_fieldAddr (o' := 9) fb28_6 (by decide) rfl rfl) ?_
        refine s_unguard (yield_Fr rfl rfl) rfl ?_
        refine a_load1 (v := .slice _ _ _) Try.underlying26 rfl M rfl (k := 0) (j := 0) rfl rfl rfl ?_
        refine s_unguard (yield_Fr rfl rfl) rfl ?_
        refine s_val (r_len Try.underlying26 rfl) ?_
        refine s_unguard (yield_Fr rfl rfl) rfl ?_
        refine s_val (r_leq rfl rfl) ?_
        refine s_val (r_pick (v := .bool _) rfl rfl) ?_
        refine s_val (r_assign (v := .bool _) rfl) ?_
        refine s_nil (e_then (c_ret ?_))
        refine ret_run (res_1 (v := .bool _) rfl rfl) ?_
        exact ⟨congrArg (fun b => Ending.returned (bo b)) hr, M.keep⟩
       ·
        have hr : false = x.sml.light := hno4 (by omega)
        refine s_skip (yield_Fr rfl rfl) rfl ?_
        refine s_skip (yield_Fr rfl rfl) rfl ?_
        refine s_skip (yield_Fr rfl rfl) rfl ?_
        refine s_skip (yield_Fr rfl rfl) rfl ?_
        refine s_val (r_pick (v := .bool _) rfl rfl) ?_
        refine s_val (r_assign (v := .bool _) rfl) ?_
        refine s_nil (e_then (c_ret ?_))
        refine ret_run (res_1 (v := .bool _) rfl rfl) ?_
        exact ⟨congrArg (fun b => Ending.returned (bo b)) hr, M.keep⟩
      ·
       have hr : false = x.sml.light := hno4 (by omega)
       refine s_skip (yield_Fr rfl rfl) rfl ?_
       refine s_skip (yield_Fr rfl rfl) rfl ?_
       refine s_skip (yield_Fr rfl rfl) rfl ?_
       refine s_skip (yield_Fr rfl rfl) rfl ?_
       refine s_val (r_pick (v := .bool _) rfl rfl) ?_
       refine s_val (r_move (v := .bool _) rfl) ?_
       refine s_skip (yield_Fr rfl rfl) rfl ?_
       refine s_skip (yield_Fr rfl rfl) rfl ?_
       refine s_skip (yield_Fr rfl rfl) rfl ?_
       refine s_skip (yield_Fr rfl rfl) rfl ?_
       refine s_val (r_pick (v := .bool _) rfl rfl) ?_
       refine s_val (r_assign (v := .bool _) rfl) ?_
       refine s_nil (e_then (c_ret ?_))
       refine ret_run (res_1 (v := .bool _) rfl rfl) ?_
       exact ⟨congrArg (fun b => Ending.returned (bo b)) hr, M.keep⟩
     ·
      have hr : false = x.sml.light := hno4 (by omega)
      refine s_skip (yield_Fr rfl rfl) rfl ?_
      refine s_skip (yield_Fr rfl rfl) rfl ?_
      refine s_skip (yield_Fr rfl rfl) rfl ?_
      refine s_skip (yield_Fr rfl rfl) rfl ?_
      refine s_val (r_pick (v := .bool _) rfl rfl) ?_
      refine s_val (r_move (v := .bool _) rfl) ?_
      refine s_skip (yield_Fr rfl rfl) rfl ?_
      refine s_skip (yield_Fr rfl rfl) rfl ?_
      refine s_skip (yield_Fr rfl rfl) rfl ?_
      refine s_skip (yield_Fr rfl rfl) rfl ?_
      refine s_val (r_pick (v := .bool _) rfl rfl) ?_
      refine s_val (r_move (v := .bool _) rfl) ?_
      refine s_skip (yield_Fr rfl rfl) rfl ?_
      refine s_skip (yield_Fr rfl rfl) rfl ?_
      refine s_skip (yield_Fr rfl rfl) rfl ?_
      refine s_skip (yield_Fr rfl rfl) rfl ?_
      refine s_val (r_pick (v := .bool _) rfl rfl) ?_
      refine s_val (r_assign (v := .bool _) rfl) ?_
      refine s_nil (e_then (c_ret ?_))
      refine ret_run (res_1 (v := .bool _) rfl rfl) ?_
      exact ⟨congrArg (fun b => Ending.returned (bo b)) hr, M.keep⟩
end Go.Proofs.Ytcjnniigonaapaa
