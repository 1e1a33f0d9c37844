/-
  WALKS B9: the fixed fact of layer 11.
-/
import Derived.Test.YtcjnniigonaapaaB8
namespace Go.Proofs.Ytcjnniigonaapaa
open Go Go.Az Go.Proofs
set_option maxHeartbeats 1000000
def awakeSV : SV := ⟨8, 8, ⟨0, 0, 0, 0⟩, ⟨0, 0, 0, 0⟩, ⟨0, 0, 0, 0⟩, ⟨0, 0, 0, 0⟩, ⟨none, 0⟩, [], ⟨none, 0⟩, [], ⟨none, 0⟩, [], ⟨none, 0⟩, []⟩
abbrev awakeB : List Int := [65, 90, 8, 8, 0, 0, 0, 0, 0, 0, 0, 0, 0, 0, 0, 0, 0, 0, 0, 0, 0, 0, 0, 0]
theorem awakeSVF (w : World) : SVF awakeSV w := ⟨LsF.nil _ _ _ _, ⟨LsF.nil _ _ _ _, (fun _ h => nomatch h)⟩, ⟨LsF.nil _ _ _ _, (fun _ h => nomatch h)⟩, ⟨LsF.nil _ _ _ _, (fun _ h => nomatch h)⟩⟩
theorem awakePut : scrPut awakeSV.scr = (awakeB, 0) := by
  have h0 : cnt 0 = [0] := cnt_lt (by decide)
  have h8 : cnt 8 = [8] := cnt_lt (by decide)
  have hb : scrB awakeSV.scr = awakeB := by
    simp [scrB, awakeSV, SV.scr, cntI, numB, intB, zigN, progsB, h0, h8]
  have hc : scrCheck awakeSV.scr = 0 := by decide
  rw [scrPut, if_neg (by rw [hc]; decide), hb]
  exact if_neg (by decide)
theorem awakeB8 : By8 awakeB := fun x hx => by simp at hx; omega
theorem awakeTake : (scrTk awakeB).2 = 0 := by decide +kernel
theorem awake11 (ks : List Nat) (w0 : World) (M : St ks [] w0 w0 [] []) :
    Calls Try.prog 4 #[] w0 fun e w' => e = .returned (bo true) ∧ Keep [] w0 w' := by
  replace M := M.addFact (F := SVF awakeSV) (fun _ _ => awakeSVF _)
  refine calls_of 26 Try.func4 rfl rfl rfl ?_
  refine c_seq (c_region ?_)
  refine s_val (r_assign (v := .bool _) rfl) ?_
  refine s_nil (e_then (c_seq (c_region ?_)))
  refine s_val (r_buildS (cs := [_, _, _, _, _, _, _, _, _, _, _, _, _, _, _, _, _, _, _, _, _, _]) zr38 cells_agg pl38 (ps := [(0, .int _ _), (1, .int _ _)]) (qs := [(0, [_]), (1, [_])]) rfl ⟨rfl, rfl, rfl, rfl, rfl, rfl, trivial⟩ rfl) ?_
  refine s_call0 (cl9 rfl) (scrPutOf awakeSV ⟨⟨(fun _ h => nomatch h), (fun _ h => nomatch h)⟩, (fun _ h => nomatch h)⟩) M (by simp) ?_
  rintro v ⟨sp, sgp⟩ w ⟨hv, hOp⟩ M
  rw [awakePut] at hv hOp
  subst hv
  replace M := M.frz (k := 0) rfl (SlF sp 24 1 (bv awakeB)) (fun w' h => hOp.slF' (by decide) h)
  first | replace M := M.nf (L' := [_]) rfl | skip
  refine s_val (r_move rfl) ?_
  refine s_val (r_extract rfl rfl) ?_
  refine s_val (r_extract rfl rfl) ?_
  refine s_val (r_assign (v := .slice _ _ _) rfl) ?_
  refine s_val (r_assign (v := .int _ _) rfl) ?_
  refine s_nil (e_then (c_seq (c_region ?_)))
  refine s_val (r_move (v := .slice _ _ _) rfl) ?_
  refine s_call0 (cl10 rfl) (scrTakeOf sp 24 awakeB awakeB8 rfl (by decide)) M (by simp) ?_
  rintro v ⟨gs, g1, g2, g3, g4⟩ w ⟨hv, hs, hin, hres⟩ M
  rw [awakeTake] at hv
  subst hv
  clear hs
  first | replace M := M.nf (L' := [_, _, _, _, _]) rfl | skip
  refine s_val (r_move rfl) ?_
  refine s_val (r_extract rfl rfl) ?_
  refine s_val (r_extract rfl rfl) ?_
  refine a_alloc zr38 cells_agg M ?_
  intro b3 w M
  first | replace M := M.nf (L' := [_, _, _, _, _, [(_, _)]]) rfl | skip
  refine a_storeS (v := .agg _) (cs' := [_, _, _, _, _, _, _, _, _, _, _, _, _, _, _, _, _, _, _, _, _, _]) sz38 M rfl rfl cells_agg (k := 5) (j := 0) rfl rfl rfl rfl rfl rfl ?_
  intro w M
  first | replace M := M.nf (L' := [_, _, _, _, _, [(_, _)]]) rfl | skip
  refine s_val (r_assign (v := .int _ _) rfl) ?_
  refine s_nil (e_then (c_seq (c_region ?_)))
  refine s_val (r_move (v := .int _ _) rfl) ?_
  refine s_val (r_eql rfl rfl) ?_
  refine s_val (r_move (v := .bool _) rfl) ?_
  refine s_splitD 17 rfl (fun g17 => ?_) (fun g17 => ?_)
  ·
   refine s_unguard (yield_Fr rfl rfl) rfl ?_
   refine s_val (r_move (v := .slice _ _ _) rfl) ?_
   refine s_unguard (yield_Fr rfl rfl) rfl ?_
   refine s_val (r_len Try.underlying63 rfl) ?_
   refine s_unguard (yield_Fr rfl rfl) rfl ?_
   refine s_val (r_eql rfl rfl) ?_
   refine s_val (r_pick (v := .bool _) rfl rfl) ?_
   refine s_val (r_move (v := .bool _) rfl) ?_
   refine s_splitD 22 rfl (fun g22 => ?_) (fun g22 => ?_)
   ·
    refine s_unguard (yield_Fr rfl rfl) rfl ?_
    refine s_val (r_move (v := .int _ _) rfl) ?_
    refine s_unguard (yield_Fr rfl rfl) rfl ?_
    refine s_val (r_eql rfl rfl) ?_
    refine s_val (r_pick (v := .bool _) rfl rfl) ?_
    refine s_val (r_assign (v := .bool _) rfl) ?_
    refine s_nil (e_then (c_ret ?_))
    refine ret_run (res_1 (v := .bool _) rfl rfl) ?_
    exact ⟨rfl, M.keep⟩
   ·
    exact absurd (by decide) g22 --done
  ·
   exact absurd rfl g17 --done
end Go.Proofs.Ytcjnniigonaapaa
