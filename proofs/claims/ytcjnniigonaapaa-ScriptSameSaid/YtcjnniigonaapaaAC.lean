/-
  WALKS C: a script's bytes, as the law has them.
-/
import Derived.Test.YtcjnniigonaapaaAB
import Derived.Test.YtcjnniigonaapaaG1
namespace Go.Proofs.Ytcjnniigonaapaa
open Go Go.Az Go.Proofs
set_option maxHeartbeats 1000000
theorem numB_len {v : V4} (hv : v.wf) : (numB v).length ≤ 40 := by
  obtain ⟨⟨a1, a2⟩, ⟨b1, b2⟩, ⟨c1, c2⟩, ⟨d1, d2⟩⟩ := hv
  have hl0 := intB_len a1 a2
  have hl1 := intB_len b1 b2
  have hl2 := intB_len c1 c2
  have hl3 := intB_len d1 d2
  simp only [numB, List.length_append]; omega
theorem cnt_lenN (n : Nat) (h : n ≤ 1000000) : (cnt n).length ≤ 10 := cnt_len10 (by omega)
theorem cntI_nat (n : Nat) (h : n ≤ 1000000) : cntI n = cnt n := by
  unfold cntI; congr 1; omega

theorem sttPut (s : Stt) (b : Nat) (l : List Int) (sg : Seg) (hB : BufAt 97 5 b l sg) (hlen : l.length + 15 ≤ 140737488355328) (ks : List Nat) (w0 : World) (M : St ks (keysOf [sg]) w0 w0 [sg] []) :
    Calls Try.prog 25 #[.agg (stt s).toArray, .pointer (some ⟨b, 0, none⟩)] w0 fun e w' => ∃ v, ∃ g : Seg, e = .returned v ∧ (v = .tuple #[] ∧ BufAt 97 5 b (l ++ sttB s) g) ∧ St ks (keysOf [sg]) w0 w' [g] [] := by
  skip
  refine calls_of 46 Try.func25 rfl rfl rfl ?_
  refine c_seq (c_region ?_)
  refine a_box (v := .agg _) rfl cells_agg M ?_
  intro b2 w M
  first | replace M := M.nf (L' := [_, [(_, _)]]) rfl | skip
  refine s_nil (e_then (c_seq (c_region ?_)))
  refine s_val (r_assign (v := .int _ _) rfl) ?_
  refine s_nil (e_then (c_seq (c_seq (c_region ?_))))
  refine s_val (r_fieldAddr (o' := 1) fb54_1 (by decide) rfl rfl) ?_
  refine a_load1 (v := .bool _) Try.underlying4 rfl M rfl (k := 1) (j := 0) rfl rfl rfl ?_
  refine s_nil (e_then ?_)
  refine c_cond rfl (fun h7 => ?_) (fun h7 => ?_)
  ·
   refine c_region ?_
   refine s_val (r_assign (v := .int _ _) rfl) ?_
   refine s_nil (e_then (c_seq (c_region ?_)))
   refine s_val (r_fieldAddr (o' := 11) fb54_11 (by decide) rfl rfl) ?_
   refine a_loadN (vs := [_, _, _, _]) Try.underlying52 rfl sz52 M rfl (k := 1) (j := 0) rfl rfl rfl rfl ?_
   refine a_alloc zr52 cells_agg M ?_
   intro b5 w M
   first | replace M := M.nf (L' := [_, [(_, _)], [(_, _)]]) rfl | skip
   refine a_storeS (v := .agg _) (cs' := [_, _, _, _]) sz52 M rfl rfl cells_agg (k := 2) (j := 0) rfl rfl rfl rfl rfl rfl ?_
   intro w M
   first | replace M := M.nf (L' := [_, [(_, _)], [(_, _)]]) rfl | skip
   refine s_nil (e_then (c_region ?_))
   refine s_val (r_move (v := .pointer _) rfl) ?_
   refine s_val (r_fieldAddr (o' := 0) fb54_0 (by decide) rfl rfl) ?_
   refine a_load1 (v := .int _ _) Try.underlying47 rfl M rfl (k := 1) (j := 0) rfl rfl rfl ?_
   refine s_val (r_move (v := .int _ _) rfl) ?_
   refine s_val (r_fieldAddr (o' := 2) fb54_2 (by decide) rfl rfl) ?_
   refine a_load1 (v := .int _ _) Try.underlying47 rfl M rfl (k := 1) (j := 0) rfl rfl rfl ?_
   refine s_val (r_fieldAddr (o' := 3) fb54_3 (by decide) rfl rfl) ?_
   refine a_load1 (v := .int _ _) Try.underlying5 rfl M rfl (k := 1) (j := 0) rfl rfl rfl ?_
   refine s_val (r_fieldAddr (o' := 4) fb54_4 (by decide) rfl rfl) ?_
   refine a_load1 (v := .int _ _) Try.underlying5 rfl M rfl (k := 1) (j := 0) rfl rfl rfl ?_
   refine s_val (r_fieldAddr (o' := 5) fb54_5 (by decide) rfl rfl) ?_
   refine a_load1 (v := .int _ _) Try.underlying48 rfl M rfl (k := 1) (j := 0) rfl rfl rfl ?_
   refine s_val (r_fieldAddr (o' := 6) fb54_6 (by decide) rfl rfl) ?_
   refine a_load1 (v := .int _ _) Try.underlying48 rfl M rfl (k := 1) (j := 0) rfl rfl rfl ?_
   refine s_val (r_fieldAddr (o' := 7) fb54_7 (by decide) rfl rfl) ?_
   refine a_load1 (v := .int _ _) Try.underlying48 rfl M rfl (k := 1) (j := 0) rfl rfl rfl ?_
   refine s_val (r_fieldAddr (o' := 8) fb54_8 (by decide) rfl rfl) ?_
   refine a_load1 (v := .int _ _) Try.underlying49 rfl M rfl (k := 1) (j := 0) rfl rfl rfl ?_
   refine s_val (r_fieldAddr (o' := 9) fb54_9 (by decide) rfl rfl) ?_
   refine a_load1 (v := .int _ _) Try.underlying5 rfl M rfl (k := 1) (j := 0) rfl rfl rfl ?_
   refine s_val (r_fieldAddr (o' := 10) fb54_10 (by decide) rfl rfl) ?_
   refine a_load1 (v := .int _ _) Try.underlying50 rfl M rfl (k := 1) (j := 0) rfl rfl rfl ?_
   refine s_val (r_fieldAddr (o' := 0) fb52_0 (by decide) rfl rfl) ?_
   refine a_load1 (v := .int _ _) Try.underlying3 rfl M rfl (k := 2) (j := 0) rfl rfl rfl ?_
   first | (refine s_val (r_conv Try.underlying3 Try.underlying5 rfl (w8 (by omega) (by omega))) ?_) | (refine s_val (r_conv Try.underlying3 Try.underlying5 rfl wr8) ?_)
   refine s_val (r_fieldAddr (o' := 1) fb52_1 (by decide) rfl rfl) ?_
   refine a_load1 (v := .int _ _) Try.underlying3 rfl M rfl (k := 2) (j := 0) rfl rfl rfl ?_
   first | (refine s_val (r_conv Try.underlying3 Try.underlying5 rfl (w8 (by omega) (by omega))) ?_) | (refine s_val (r_conv Try.underlying3 Try.underlying5 rfl wr8) ?_)
   refine s_val (r_fieldAddr (o' := 2) fb52_2 (by decide) rfl rfl) ?_
   refine a_load1 (v := .int _ _) Try.underlying3 rfl M rfl (k := 2) (j := 0) rfl rfl rfl ?_
   first | (refine s_val (r_conv Try.underlying3 Try.underlying5 rfl (w8 (by omega) (by omega))) ?_) | (refine s_val (r_conv Try.underlying3 Try.underlying5 rfl wr8) ?_)
   refine s_val (r_fieldAddr (o' := 3) fb52_3 (by decide) rfl rfl) ?_
   refine a_load1 (v := .int _ _) Try.underlying3 rfl M rfl (k := 2) (j := 0) rfl rfl rfl ?_
   first | (refine s_val (r_conv Try.underlying3 Try.underlying5 rfl (w8 (by omega) (by omega))) ?_) | (refine s_val (r_conv Try.underlying3 Try.underlying5 rfl wr8) ?_)
   refine a_buildSliceS (cs := [_, _, _, _, _, _, _, _, _, _, _, _, _, _, _]) Try.underlying63 sz5 zr5 rfl rfl (by decide) rfl (ps := [(0, .int _ _), (1, .int _ _), (2, .int _ _), (3, .int _ _), (4, .int _ _), (5, .int _ _), (6, .int _ _), (7, .int _ _), (8, .int _ _), (9, .int _ _), (10, .int _ _), (11, .int _ _), (12, .int _ _), (13, .int _ _), (14, .int _ _)]) (qs := [(0, [_]), (1, [_]), (2, [_]), (3, [_]), (4, [_]), (5, [_]), (6, [_]), (7, [_]), (8, [_]), (9, [_]), (10, [_]), (11, [_]), (12, [_]), (13, [_]), (14, [_])]) rfl ⟨rfl, rfl, rfl, rfl, rfl, rfl, rfl, rfl, rfl, rfl, rfl, rfl, rfl, rfl, rfl, rfl, rfl, rfl, rfl, rfl, rfl, rfl, rfl, rfl, rfl, rfl, rfl, rfl, rfl, rfl, rfl, rfl, rfl, rfl, rfl, rfl, rfl, rfl, rfl, rfl, rfl, rfl, rfl, rfl, rfl, trivial⟩ rfl M ?_
   intro b44 w M
   first | replace M := M.nf (L' := [_, [(_, _)], [(_, _)], [(_, _)]]) rfl | skip
   replace M := M.frz (k := 3) rfl (SlF ⟨some ⟨b44, 0, none⟩, 15⟩ 15 1 (bv (sttB s))) (fun w' h => by
     have e : bv (sttB s) = [u8 s.depth, u8 (if s.write then 1 else 0), u8 s.stencil, u8 s.ref, u8 s.mask, u8 s.fail, u8 s.hidden, u8 s.pass, u8 s.blend, u8 s.channels, u8 s.cull, u8 (s.x0 % 256), u8 (s.y0 % 256), u8 (s.x1 % 256), u8 (s.y1 % 256)] := rfl
     rw [e]
     simp only [h7, if_true, Bool.false_eq_true, if_false]
     exact slF_new h rfl rfl)
   refine s_call1 0 (cl28 rfl) rfl (wrPut b l sg ⟨some ⟨b44, 0, none⟩, 15⟩ 15 (sttB s) hB hlen) M (by simp) ?_
   rintro v g w ⟨rfl, hB'⟩ M
   first | replace M := M.nf (L' := [_, [(_, _)], [(_, _)], [(_, _)]]) rfl | skip
   refine s_nil ?_
   refine end_run (res_none rfl) ?_
   exact ⟨_, g, rfl, ⟨rfl, hB'⟩, (M.lone (L' := [g]) ⟨.inr rfl, trivial⟩)⟩
  ·
   refine c_skip (e_then (c_seq (c_region ?_)))
   refine s_val (r_fieldAddr (o' := 11) fb54_11 (by decide) rfl rfl) ?_
   refine a_loadN (vs := [_, _, _, _]) Try.underlying52 rfl sz52 M rfl (k := 1) (j := 0) rfl rfl rfl rfl ?_
   refine a_alloc zr52 cells_agg M ?_
   intro b5 w M
   first | replace M := M.nf (L' := [_, [(_, _)], [(_, _)]]) rfl | skip
   refine a_storeS (v := .agg _) (cs' := [_, _, _, _]) sz52 M rfl rfl cells_agg (k := 2) (j := 0) rfl rfl rfl rfl rfl rfl ?_
   intro w M
   first | replace M := M.nf (L' := [_, [(_, _)], [(_, _)]]) rfl | skip
   refine s_nil (e_then (c_region ?_))
   refine s_val (r_move (v := .pointer _) rfl) ?_
   refine s_val (r_fieldAddr (o' := 0) fb54_0 (by decide) rfl rfl) ?_
   refine a_load1 (v := .int _ _) Try.underlying47 rfl M rfl (k := 1) (j := 0) rfl rfl rfl ?_
   refine s_val (r_move (v := .int _ _) rfl) ?_
   refine s_val (r_fieldAddr (o' := 2) fb54_2 (by decide) rfl rfl) ?_
   refine a_load1 (v := .int _ _) Try.underlying47 rfl M rfl (k := 1) (j := 0) rfl rfl rfl ?_
   refine s_val (r_fieldAddr (o' := 3) fb54_3 (by decide) rfl rfl) ?_
   refine a_load1 (v := .int _ _) Try.underlying5 rfl M rfl (k := 1) (j := 0) rfl rfl rfl ?_
   refine s_val (r_fieldAddr (o' := 4) fb54_4 (by decide) rfl rfl) ?_
   refine a_load1 (v := .int _ _) Try.underlying5 rfl M rfl (k := 1) (j := 0) rfl rfl rfl ?_
   refine s_val (r_fieldAddr (o' := 5) fb54_5 (by decide) rfl rfl) ?_
   refine a_load1 (v := .int _ _) Try.underlying48 rfl M rfl (k := 1) (j := 0) rfl rfl rfl ?_
   refine s_val (r_fieldAddr (o' := 6) fb54_6 (by decide) rfl rfl) ?_
   refine a_load1 (v := .int _ _) Try.underlying48 rfl M rfl (k := 1) (j := 0) rfl rfl rfl ?_
   refine s_val (r_fieldAddr (o' := 7) fb54_7 (by decide) rfl rfl) ?_
   refine a_load1 (v := .int _ _) Try.underlying48 rfl M rfl (k := 1) (j := 0) rfl rfl rfl ?_
   refine s_val (r_fieldAddr (o' := 8) fb54_8 (by decide) rfl rfl) ?_
   refine a_load1 (v := .int _ _) Try.underlying49 rfl M rfl (k := 1) (j := 0) rfl rfl rfl ?_
   refine s_val (r_fieldAddr (o' := 9) fb54_9 (by decide) rfl rfl) ?_
   refine a_load1 (v := .int _ _) Try.underlying5 rfl M rfl (k := 1) (j := 0) rfl rfl rfl ?_
   refine s_val (r_fieldAddr (o' := 10) fb54_10 (by decide) rfl rfl) ?_
   refine a_load1 (v := .int _ _) Try.underlying50 rfl M rfl (k := 1) (j := 0) rfl rfl rfl ?_
   refine s_val (r_fieldAddr (o' := 0) fb52_0 (by decide) rfl rfl) ?_
   refine a_load1 (v := .int _ _) Try.underlying3 rfl M rfl (k := 2) (j := 0) rfl rfl rfl ?_
   first | (refine s_val (r_conv Try.underlying3 Try.underlying5 rfl (w8 (by omega) (by omega))) ?_) | (refine s_val (r_conv Try.underlying3 Try.underlying5 rfl wr8) ?_)
   refine s_val (r_fieldAddr (o' := 1) fb52_1 (by decide) rfl rfl) ?_
   refine a_load1 (v := .int _ _) Try.underlying3 rfl M rfl (k := 2) (j := 0) rfl rfl rfl ?_
   first | (refine s_val (r_conv Try.underlying3 Try.underlying5 rfl (w8 (by omega) (by omega))) ?_) | (refine s_val (r_conv Try.underlying3 Try.underlying5 rfl wr8) ?_)
   refine s_val (r_fieldAddr (o' := 2) fb52_2 (by decide) rfl rfl) ?_
   refine a_load1 (v := .int _ _) Try.underlying3 rfl M rfl (k := 2) (j := 0) rfl rfl rfl ?_
   first | (refine s_val (r_conv Try.underlying3 Try.underlying5 rfl (w8 (by omega) (by omega))) ?_) | (refine s_val (r_conv Try.underlying3 Try.underlying5 rfl wr8) ?_)
   refine s_val (r_fieldAddr (o' := 3) fb52_3 (by decide) rfl rfl) ?_
   refine a_load1 (v := .int _ _) Try.underlying3 rfl M rfl (k := 2) (j := 0) rfl rfl rfl ?_
   first | (refine s_val (r_conv Try.underlying3 Try.underlying5 rfl (w8 (by omega) (by omega))) ?_) | (refine s_val (r_conv Try.underlying3 Try.underlying5 rfl wr8) ?_)
   refine a_buildSliceS (cs := [_, _, _, _, _, _, _, _, _, _, _, _, _, _, _]) Try.underlying63 sz5 zr5 rfl rfl (by decide) rfl (ps := [(0, .int _ _), (1, .int _ _), (2, .int _ _), (3, .int _ _), (4, .int _ _), (5, .int _ _), (6, .int _ _), (7, .int _ _), (8, .int _ _), (9, .int _ _), (10, .int _ _), (11, .int _ _), (12, .int _ _), (13, .int _ _), (14, .int _ _)]) (qs := [(0, [_]), (1, [_]), (2, [_]), (3, [_]), (4, [_]), (5, [_]), (6, [_]), (7, [_]), (8, [_]), (9, [_]), (10, [_]), (11, [_]), (12, [_]), (13, [_]), (14, [_])]) rfl ⟨rfl, rfl, rfl, rfl, rfl, rfl, rfl, rfl, rfl, rfl, rfl, rfl, rfl, rfl, rfl, rfl, rfl, rfl, rfl, rfl, rfl, rfl, rfl, rfl, rfl, rfl, rfl, rfl, rfl, rfl, rfl, rfl, rfl, rfl, rfl, rfl, rfl, rfl, rfl, rfl, rfl, rfl, rfl, rfl, rfl, trivial⟩ rfl M ?_
   intro b44 w M
   first | replace M := M.nf (L' := [_, [(_, _)], [(_, _)], [(_, _)]]) rfl | skip
   replace M := M.frz (k := 3) rfl (SlF ⟨some ⟨b44, 0, none⟩, 15⟩ 15 1 (bv (sttB s))) (fun w' h => by
     have e : bv (sttB s) = [u8 s.depth, u8 (if s.write then 1 else 0), u8 s.stencil, u8 s.ref, u8 s.mask, u8 s.fail, u8 s.hidden, u8 s.pass, u8 s.blend, u8 s.channels, u8 s.cull, u8 (s.x0 % 256), u8 (s.y0 % 256), u8 (s.x1 % 256), u8 (s.y1 % 256)] := rfl
     rw [e]
     simp only [h7, if_true, Bool.false_eq_true, if_false]
     exact slF_new h rfl rfl)
   refine s_call1 0 (cl28 rfl) rfl (wrPut b l sg ⟨some ⟨b44, 0, none⟩, 15⟩ 15 (sttB s) hB hlen) M (by simp) ?_
   rintro v g w ⟨rfl, hB'⟩ M
   first | replace M := M.nf (L' := [_, [(_, _)], [(_, _)], [(_, _)]]) rfl | skip
   refine s_nil ?_
   refine end_run (res_none rfl) ?_
   exact ⟨_, g, rfl, ⟨rfl, hB'⟩, (M.lone (L' := [g]) ⟨.inr rfl, trivial⟩)⟩

structure ScrOk (x : Scr) : Prop where
  m0 : x.m0.wf
  m1 : x.m1.wf
  m2 : x.m2.wf
  m3 : x.m3.wf
  vs : ∀ v ∈ x.vs, v.place.wf ∧ v.colour.wf
  vl : x.vs.length ≤ 1000
  ss : ∀ p ∈ x.ss, Prog.wf p ∧ p.length ≤ 1000
  sl : x.ss.length ≤ 1000
  ps : ∀ p ∈ x.ps, Prog.wf p ∧ p.length ≤ 1000
  pl : x.ps.length ≤ 1000
  ds : ∀ d ∈ x.ds, d.indices.length ≤ 1000
  dl : x.ds.length ≤ 1000
theorem vtxB_len {v : Vtx} (h : v.place.wf ∧ v.colour.wf) : (vtxB v).length ≤ 80 := by
  have h1 := numB_len h.1
  have h2 := numB_len h.2
  simp only [vtxB, List.length_append]; omega
theorem insB_len {x : Ins} (h : x.wf) : (insB x).length ≤ 14 := by
  obtain ⟨_, _, _, _, h1, h2⟩ := h
  have := intB_len (n := x.imm) (by omega) (by omega)
  simp only [insB, List.length_append, List.length_cons, List.length_nil]; omega
theorem progB_len {p : Prog} (h : Prog.wf p ∧ p.length ≤ 1000) : (progB p).length ≤ 14010 := by
  have h1 := flat_le (l := p) (f := insB) (c := 14) (fun x hx => insB_len (h.1 x hx))
  have h2 := cnt_lenN p.length (by omega)
  simp only [progB, List.length_append]; omega
theorem drwB_len {d : Drw} (h : d.indices.length ≤ 1000) : (drwB d).length ≤ 11000 := by
  have h1 := flat_le (l := d.indices) (f := cntI) (c := 10) (fun x _ => cntI_len x)
  have h2 := cnt_lenN d.indices.length (by omega)
  have h3 := cntI_len d.cdepth
  have h4 := cntI_len d.vertex
  have h5 := cntI_len d.fragment
  have h6 : (sttB d.st).length = 15 := rfl
  unfold drwB
  cases d.clears <;> simp only [List.length_append, List.length_cons, List.length_nil, h6, if_true, Bool.false_eq_true, if_false] <;> omega

/-- what stands in the buffer ahead of the vertices; of the programs; of the draws -/
def scrH (x : Scr) : List Int := [65, 90] ++ cntI x.w ++ cntI x.h ++ numB x.m0 ++ numB x.m1 ++ numB x.m2 ++ numB x.m3 ++ cnt x.vs.length
def lists (x : Scr) : List (List Prog) := [x.ss, x.ps]
theorem scrB_eq (x : Scr) : scrB x = scrH x ++ x.vs.flatMap vtxB ++ (lists x).flatMap progsB ++ cnt x.ds.length ++ x.ds.flatMap drwB := by
  simp [scrB, scrH, lists, List.append_assoc]
theorem scrH_len {x : Scr} (h : ScrOk x) : (scrH x).length ≤ 200 := by
  have a0 := numB_len h.m0
  have a1 := numB_len h.m1
  have a2 := numB_len h.m2
  have a3 := numB_len h.m3
  have a4 := cntI_len x.w
  have a5 := cntI_len x.h
  have a6 := cnt_lenN x.vs.length (by have := h.vl; omega)
  simp only [scrH, List.length_append, List.length_cons, List.length_nil]; omega

theorem bytes1L (v : V4) (hv : v.wf) (b : Nat) (l : List Int) (sg : Seg) (hB : BufAt 63 5 b l sg) (hlen : l.length ≤ 100000000) (ks : List Nat) (w0 : World) (M : St ks (keysOf [sg]) w0 w0 [sg] []) :
    Calls Try.prog 22 #[.agg (v4 v).toArray, .pointer (some ⟨b, 0, none⟩)] w0 fun e w' => ∃ v', ∃ g : Seg, e = .returned v' ∧ (v' = .tuple #[] ∧ BufAt 63 5 b (l ++ numB v) g ∧ (l ++ numB v).length ≤ l.length + 40) ∧ St ks (keysOf [sg]) w0 w' [g] [] :=
  (bytes1 v hv b l sg hB (by omega) ks w0 M).mono fun e w' ⟨v', g, h1, ⟨h2, h3⟩, h4⟩ => ⟨v', g, h1, ⟨h2, h3, by rw [List.length_append]; have := numB_len hv; omega⟩, h4⟩
theorem bytes2L (n : Int) (b : Nat) (l : List Int) (sg : Seg) (hB : BufAt 63 5 b l sg) (hlen : l.length ≤ 100000000) (ks : List Nat) (w0 : World) (M : St ks (keysOf [sg]) w0 w0 [sg] []) :
    Calls Try.prog 24 #[i64 n, .pointer (some ⟨b, 0, none⟩)] w0 fun e w' => ∃ v, ∃ g : Seg, e = .returned v ∧ (v = .tuple #[] ∧ BufAt 63 5 b (l ++ cntI n) g ∧ (l ++ cntI n).length ≤ l.length + 10) ∧ St ks (keysOf [sg]) w0 w' [g] [] :=
  (bytes2 n b l sg hB (by omega) ks w0 M).mono fun e w' ⟨v', g, h1, ⟨h2, h3⟩, h4⟩ => ⟨v', g, h1, ⟨h2, h3, by rw [List.length_append]; have := cntI_len n; omega⟩, h4⟩
theorem bytes2N (n : Nat) (hn : n ≤ 1000000) (b : Nat) (l : List Int) (sg : Seg) (hB : BufAt 63 5 b l sg) (hlen : l.length ≤ 100000000) (ks : List Nat) (w0 : World) (M : St ks (keysOf [sg]) w0 w0 [sg] []) :
    Calls Try.prog 24 #[i64 n, .pointer (some ⟨b, 0, none⟩)] w0 fun e w' => ∃ v, ∃ g : Seg, e = .returned v ∧ (v = .tuple #[] ∧ BufAt 63 5 b (l ++ cnt n) g ∧ (l ++ cnt n).length ≤ l.length + 10) ∧ St ks (keysOf [sg]) w0 w' [g] [] := by
  rw [← cntI_nat n hn]; exact bytes2L n b l sg hB hlen ks w0 M

abbrev plOf (x : SV) : List (Sl × List (Sl × Prog)) := [(x.S, x.ss), (x.P, x.ps)]
theorem bytesOf (x : SV) (hx : ScrOk x.scr) (ks : List Nat) (w0 : World) (M : St ks [] w0 w0 [] [SVF x]) :
    Calls Try.prog 8 #[.agg x.cells.toArray] w0 fun e w' => ∃ v, ∃ g : Sl × Seg, e = .returned v ∧ (v = g.1.v (scrB x.scr).length ∧ Own 5 1 g.1 (scrB x.scr).length (bv (scrB x.scr)) g.2) ∧ St ks [] w0 w' [g.2] [] := by
  have hvl : x.vs.length ≤ 1000 := hx.vl
  have q0 : x.m0.wf := hx.m0
  have q1 : x.m1.wf := hx.m1
  have q2 : x.m2.wf := hx.m2
  have q3 : x.m3.wf := hx.m3
  have hsl : x.ss.length ≤ 1000 := by have := hx.sl; simpa [SV.scr] using this
  have hpl : x.ps.length ≤ 1000 := by have := hx.pl; simpa [SV.scr] using this
  have hdl : x.ds.length ≤ 1000 := by have := hx.dl; simpa [SV.scr] using this
  have hds : ∀ y ∈ x.ds, y.2.indices.length ≤ 1000 := fun y hy => hx.ds y.2 (List.mem_map.2 ⟨y, hy, rfl⟩)
  have hpw : ∀ y ∈ plOf x, y.2.length ≤ 1000 ∧ ∀ z ∈ y.2, Prog.wf z.2 ∧ z.2.length ≤ 1000 := fun y hy => by
    simp only [List.mem_cons, List.not_mem_nil, or_false] at hy
    rcases hy with rfl | rfl
    · exact ⟨hsl, fun z hz => hx.ss z.2 (List.mem_map.2 ⟨z, hz, rfl⟩)⟩
    · exact ⟨hpl, fun z hz => hx.ps z.2 (List.mem_map.2 ⟨z, hz, rfl⟩)⟩
  have a4 := cntI_len x.w
  have a5 := cntI_len x.h
  have wlen : (cntI x.w).length = (cnt (x.w % 18446744073709551616).toNat).length := rfl
  have hlen : (cntI x.h).length = (cnt (x.h % 18446744073709551616).toNat).length := rfl
  skip
  refine calls_of 190 Try.func8 rfl rfl rfl ?_
  refine c_seq (c_region ?_)
  refine a_box (v := .agg _) rfl cells_agg M ?_
  intro b1 w M
  first | replace M := M.nf (L' := [[(_, _)]]) rfl | skip
  refine s_val (r_assign (v := .slice _ _ _) rfl) ?_
  refine s_nil (e_then (c_seq (c_region ?_)))
  refine a_buildSliceS (cs := [_, _]) Try.underlying63 sz5 zr5 rfl rfl (by decide) rfl (ps := [(0, .int _ _), (1, .int _ _)]) (qs := [(0, [_]), (1, [_])]) rfl ⟨rfl, rfl, rfl, rfl, rfl, rfl, trivial⟩ rfl M ?_
  intro b21 w M
  first | replace M := M.nf (L' := [[(_, _)], [(_, _)]]) rfl | skip
  refine a_mark (k := 1) (j := 0) Try.underlying63 Try.underlying5 M rfl rfl rfl ?_
  intro w M
  refine s_val (r_fieldAddr (o' := 0) fb38_0 (by decide) rfl rfl) ?_
  refine a_load1 (v := .int _ _) Try.underlying3 rfl M rfl (k := 0) (j := 0) rfl rfl rfl ?_
  first | (refine s_val (r_conv Try.underlying3 Try.underlying90 rfl (wu64 (by omega) (by omega))) ?_) | (refine s_val (r_conv Try.underlying3 Try.underlying90 rfl wrU64) ?_)
  refine s_call0 (cl21 rfl) (refCountI _ (by omega) (by omega)) M (fun _ h => nomatch h) ?_
  rintro v ⟨sc, sgc⟩ w ⟨rfl, hOc⟩ M
  first | replace M := M.nf (L' := [[(_, _)], [(_, _)], _]) rfl | skip
  refine a_appendF Try.underlying63 sz5 by5 zr5 rfl rfl (by decide) M (slF_mark M (k := 1) (j := 0) (n := 2) rfl rfl rfl rfl) rfl rfl (Own.src Try.underlying63 (bv_one _) (by decide) M (k := 2) rfl hOc) (by have := (cnt_pos (x.w % 18446744073709551616).toNat); simp only []; omega) (by simp only [maxLen]; omega) (by omega) ?_
  intro s1 sg1 w hO1 M
  refine a_alloc zr63 rfl M ?_
  intro b3 w M
  first | replace M := M.nf (L' := [[(_, _)], [(_, _)], _, _, [(_, _)]]) rfl | skip
  refine a_storeS (v := .slice _ _ _) (cs' := [_]) sz63 M rfl rfl rfl (k := 4) (j := 0) rfl rfl rfl rfl rfl rfl ?_
  intro w M
  first | replace M := M.nf (L' := [[(_, _)], [(_, _)], _, _, [(_, _)]]) rfl | skip
  refine s_nil (e_then (c_seq ?_))
  refine c_drawT (by kernel_rfl) [(.q, 1), (.q, 2), (.q, 3), (.ch, 4), (.q, 0), (.ch, 5)] [6] [[], [], [1], [1, 2], [1, 2, 3], [0, 1, 2, 3, 4], [0, 1, 2, 3, 4, 5]] (by kernel_rfl) [3] M ?_
  refine w_val rfl wt_none (fun w => (r_fieldAddr (o' := 1) fb38_1 (by decide) rfl rfl)) ?_
  refine w_read (v := .int _ _) rfl wt_none (fun w X G' M => r_load1 Try.underlying3 rfl rfl (M.cell (k := 0) (j := 0) rfl rfl rfl)) ?_
  first | (refine w_val rfl wt_none (fun w => (r_conv Try.underlying3 Try.underlying90 rfl (wu64 (by omega) (by omega)))) ?_) | (refine w_val rfl wt_none (fun w => (r_conv Try.underlying3 Try.underlying90 rfl wrU64)) ?_)
  refine w_call0 rfl wt_none (fun w => cl21 rfl) (refCountI _ (by omega) (by omega)) (fun _ h => nomatch h) (fun _ _ => (by repeat (first | exact trivial | refine ⟨.inr rfl, ?_⟩ | refine ⟨.inl rfl, ?_⟩))) (fun _ h => h) ?_
  rintro v ⟨sc, sgc⟩ ⟨rfl, hOc⟩
  first | refine w_nf (L' := [[(_, _)], [(_, _)], _, _, [(_, _)], _]) rfl ?_ | skip
  replace M := (M.only (L' := [[(b1, C x.cells 38)], [], [], sg1, [(b3, C [s1.v _] 63)]]) ⟨.inr rfl, .inl rfl, .inl rfl, .inr rfl, .inr rfl, trivial⟩ (G' := [SVF x]) ⟨rfl, trivial⟩)
  refine w_read (v := .slice _ _ _) rfl wt_none (fun w X G' M => r_load1 Try.underlying63 rfl rfl (M.cell (k := 4) (j := 0) rfl rfl rfl)) ?_
  refine w_append 3 rfl wt_none Try.underlying63 sz5 by5 zr5 rfl rfl rfl hO1 rfl rfl (fun w X M => (Own.src Try.underlying63 (bv_one _) (by decide) M (k := 5) rfl hOc)) (by simp only [maxLen]; omega) (by omega) (fun _ => (by repeat (first | exact trivial | refine ⟨.inr rfl, ?_⟩ | refine ⟨.inl rfl, ?_⟩))) (fun _ h => List.mem_append_left _ (h)) ?_
  intro s2 sg2 hO2
  first | refine w_nf (L' := [[(_, _)], [(_, _)], _, _, [(_, _)], _]) rfl ?_ | skip
  refine w_nil ?_
  intro w M
  refine a_storeS (v := .slice _ _ _) (cs' := [_]) sz63 M rfl rfl rfl (k := 4) (j := 0) rfl rfl rfl rfl rfl rfl ?_
  intro w M
  first | replace M := M.nf (L' := [[(_, _)], [(_, _)], _, _, [(_, _)], _]) rfl | skip
  refine s_nil (e_then (c_seq (c_region ?_)))
  refine s_val (r_mkf (C := []) (D := [_]) rfl rfl) ?_
  refine s_val (r_assign (v := .func _ _ _) rfl) ?_
  refine s_nil (e_then (c_seq (c_region ?_)))
  refine s_val (r_mkf (C := []) (D := [_]) rfl rfl) ?_
  refine s_val (r_assign (v := .func _ _ _) rfl) ?_
  refine s_nil (e_then (c_seq (c_seq (c_region ?_))))
  --nL=2
  replace M := ((M.useG (G' := [SVF x]) (by simp)).picks (L' := [[(b1, C x.cells 38)], [(b3, C [s2.v _] 63)], sg2]) [0, 4, 3] rfl rfl).flat (L' := [[(b1, C x.cells 38)], (b3, C [s2.v _] 63) :: sg2]) rfl
  have hB : BufAt 63 5 b3 ([65, 90] ++ cntI x.w ++ cntI x.h) ((b3, C [s2.v _] 63) :: sg2) := bufOf hO2 (by rw [bv_append, bv_append]; rfl)
  have hl0 : ([65, 90] ++ cntI x.w ++ cntI x.h).length ≤ 22 := by simp only [List.length_append, List.length_cons, List.length_nil]; omega
  refine s_val (r_fieldAddr (o' := 2) fb38_2 (by decide) rfl rfl) ?_
  refine a_loadN (vs := [_, _, _, _, _, _, _, _, _, _, _, _, _, _, _, _]) Try.underlying33 rfl sz33 M rfl (k := 0) (j := 0) rfl rfl rfl rfl ?_
  refine s_val (r_move (v := .int _ _) rfl) ?_
  refine s_nil (e_then (c_block ?_))
  refine c_rounds 5 ?_
  refine c_round (c_seq (c_region ?_))
  replace M := (M.picks [0, 1] rfl rfl).useG (G' := [SVF x]) (by simp) --nL=2
  refine s_val (r_lss rfl rfl) ?_
  refine s_nil (e_then (c_seq ?_))
  refine c_yes rfl (by decide) ?_
  refine c_skip (e_then (c_seq (c_block (c_seq (c_region ?_)))))
  first | (refine s_val (r_indexN (vs := [_, _, _, _]) Try.underlying33 Try.underlying31 rfl sz31 rfl rfl (by omega) (by omega) rfl) ?_) | (refine s_val (r_indexN Try.underlying33 Try.underlying31 rfl sz31 rfl rfl (by omega) (by omega) rfl) ?_)
  refine a_alloc zr31 cells_agg M ?_
  intro b7 w M
  first | replace M := M.nf (L' := [_, _, [(_, _)]]) rfl | skip
  refine a_storeS (v := .agg _) (cs' := [_, _, _, _]) sz31 M rfl rfl cells_agg (k := 2) (j := 0) rfl rfl rfl rfl rfl rfl ?_
  intro w M
  first | replace M := M.nf (L' := [_, _, [(_, _)]]) rfl | skip
  refine s_nil (e_then (c_region ?_))
  refine s_val (r_move (v := .func _ _ _) rfl) ?_
  refine a_loadA Try.underlying31 rfl sz31 M rfl (k := 2) (j := 0) rfl rfl rfl ?_
  refine s_call1 1 (cv22 rfl rfl) rfl (bytes1L ⟨_, _, _, _⟩ (by assumption) b3 _ _ hB (by omega)) M (fun _ h => nomatch h) ?_
  rintro v g w ⟨rfl, hB, hlk⟩ M
  first | replace M := M.nf (L' := [_, _, [(_, _)]]) rfl | skip
  refine s_nil (e_blk (e_then (c_region ?_)))
  refine s_val (r_add (n := 1) rfl rfl (by decide)) ?_
  refine s_val (r_move (v := .int _ _) rfl) ?_
  refine s_nil (e_then (c_round (c_seq (c_region ?_))))
  replace M := (M.picks [0, 1] rfl rfl).useG (G' := [SVF x]) (by simp) --nL=2
  refine s_val (r_lss rfl rfl) ?_
  refine s_nil (e_then (c_seq ?_))
  refine c_yes rfl (by decide) ?_
  refine c_skip (e_then (c_seq (c_block (c_seq (c_region ?_)))))
  first | (refine s_val (r_indexN (vs := [_, _, _, _]) Try.underlying33 Try.underlying31 rfl sz31 rfl rfl (by omega) (by omega) rfl) ?_) | (refine s_val (r_indexN Try.underlying33 Try.underlying31 rfl sz31 rfl rfl (by omega) (by omega) rfl) ?_)
  refine a_alloc zr31 cells_agg M ?_
  intro b7 w M
  first | replace M := M.nf (L' := [_, _, [(_, _)]]) rfl | skip
  refine a_storeS (v := .agg _) (cs' := [_, _, _, _]) sz31 M rfl rfl cells_agg (k := 2) (j := 0) rfl rfl rfl rfl rfl rfl ?_
  intro w M
  first | replace M := M.nf (L' := [_, _, [(_, _)]]) rfl | skip
  refine s_nil (e_then (c_region ?_))
  refine s_val (r_move (v := .func _ _ _) rfl) ?_
  refine a_loadA Try.underlying31 rfl sz31 M rfl (k := 2) (j := 0) rfl rfl rfl ?_
  refine s_call1 1 (cv22 rfl rfl) rfl (bytes1L ⟨_, _, _, _⟩ (by assumption) b3 _ _ hB (by omega)) M (fun _ h => nomatch h) ?_
  rintro v g w ⟨rfl, hB, hlk⟩ M
  first | replace M := M.nf (L' := [_, _, [(_, _)]]) rfl | skip
  refine s_nil (e_blk (e_then (c_region ?_)))
  refine s_val (r_add (n := 2) rfl rfl (by decide)) ?_
  refine s_val (r_move (v := .int _ _) rfl) ?_
  refine s_nil (e_then (c_round (c_seq (c_region ?_))))
  replace M := (M.picks [0, 1] rfl rfl).useG (G' := [SVF x]) (by simp) --nL=2
  refine s_val (r_lss rfl rfl) ?_
  refine s_nil (e_then (c_seq ?_))
  refine c_yes rfl (by decide) ?_
  refine c_skip (e_then (c_seq (c_block (c_seq (c_region ?_)))))
  first | (refine s_val (r_indexN (vs := [_, _, _, _]) Try.underlying33 Try.underlying31 rfl sz31 rfl rfl (by omega) (by omega) rfl) ?_) | (refine s_val (r_indexN Try.underlying33 Try.underlying31 rfl sz31 rfl rfl (by omega) (by omega) rfl) ?_)
  refine a_alloc zr31 cells_agg M ?_
  intro b7 w M
  first | replace M := M.nf (L' := [_, _, [(_, _)]]) rfl | skip
  refine a_storeS (v := .agg _) (cs' := [_, _, _, _]) sz31 M rfl rfl cells_agg (k := 2) (j := 0) rfl rfl rfl rfl rfl rfl ?_
  intro w M
  first | replace M := M.nf (L' := [_, _, [(_, _)]]) rfl | skip
  refine s_nil (e_then (c_region ?_))
  refine s_val (r_move (v := .func _ _ _) rfl) ?_
  refine a_loadA Try.underlying31 rfl sz31 M rfl (k := 2) (j := 0) rfl rfl rfl ?_
  refine s_call1 1 (cv22 rfl rfl) rfl (bytes1L ⟨_, _, _, _⟩ (by assumption) b3 _ _ hB (by omega)) M (fun _ h => nomatch h) ?_
  rintro v g w ⟨rfl, hB, hlk⟩ M
  first | replace M := M.nf (L' := [_, _, [(_, _)]]) rfl | skip
  refine s_nil (e_blk (e_then (c_region ?_)))
  refine s_val (r_add (n := 3) rfl rfl (by decide)) ?_
  refine s_val (r_move (v := .int _ _) rfl) ?_
  refine s_nil (e_then (c_round (c_seq (c_region ?_))))
  replace M := (M.picks [0, 1] rfl rfl).useG (G' := [SVF x]) (by simp) --nL=2
  refine s_val (r_lss rfl rfl) ?_
  refine s_nil (e_then (c_seq ?_))
  refine c_yes rfl (by decide) ?_
  refine c_skip (e_then (c_seq (c_block (c_seq (c_region ?_)))))
  first | (refine s_val (r_indexN (vs := [_, _, _, _]) Try.underlying33 Try.underlying31 rfl sz31 rfl rfl (by omega) (by omega) rfl) ?_) | (refine s_val (r_indexN Try.underlying33 Try.underlying31 rfl sz31 rfl rfl (by omega) (by omega) rfl) ?_)
  refine a_alloc zr31 cells_agg M ?_
  intro b7 w M
  first | replace M := M.nf (L' := [_, _, [(_, _)]]) rfl | skip
  refine a_storeS (v := .agg _) (cs' := [_, _, _, _]) sz31 M rfl rfl cells_agg (k := 2) (j := 0) rfl rfl rfl rfl rfl rfl ?_
  intro w M
  first | replace M := M.nf (L' := [_, _, [(_, _)]]) rfl | skip
  refine s_nil (e_then (c_region ?_))
  refine s_val (r_move (v := .func _ _ _) rfl) ?_
  refine a_loadA Try.underlying31 rfl sz31 M rfl (k := 2) (j := 0) rfl rfl rfl ?_
  refine s_call1 1 (cv22 rfl rfl) rfl (bytes1L ⟨_, _, _, _⟩ (by assumption) b3 _ _ hB (by omega)) M (fun _ h => nomatch h) ?_
  rintro v g w ⟨rfl, hB, hlk⟩ M
  first | replace M := M.nf (L' := [_, _, [(_, _)]]) rfl | skip
  refine s_nil (e_blk (e_then (c_region ?_)))
  refine s_val (r_add (n := 4) rfl rfl (by decide)) ?_
  refine s_val (r_move (v := .int _ _) rfl) ?_
  refine s_nil (e_then (c_round (c_seq (c_region ?_))))
  replace M := (M.picks [0, 1] rfl rfl).useG (G' := [SVF x]) (by simp) --nL=2
  refine s_val (r_lss rfl rfl) ?_
  refine s_nil (e_then (c_seq ?_))
  refine c_no rfl (by decide) ?_
  refine c_exit (e_then_exit (e_then_exit (e_blk_here (e_then (c_seq (c_region ?_))))))
  --nL=2
  replace M := (M.picks [0, 1] rfl rfl).useG (G' := [SVF x]) (by simp)
  refine s_val (r_move (v := .func _ _ _) rfl) ?_
  refine s_val (r_fieldAddr (o' := 18) fb38_3 (by decide) rfl rfl) ?_
  refine a_load1 (v := .slice _ _ _) Try.underlying34 rfl M rfl (k := 0) (j := 0) rfl rfl rfl ?_
  refine s_val (r_len Try.underlying34 rfl) ?_
  refine s_call1 1 (cv24 rfl rfl) rfl (bytes2N _ (by omega) b3 _ _ hB (by omega)) M (fun _ h => nomatch h) ?_
  rintro v g w ⟨rfl, hB, hlk⟩ M
  first | replace M := M.nf (L' := [_, _]) rfl | skip
  refine s_nil (e_then (c_seq (c_seq (c_region ?_))))
  --nL=2
  replace M := (M.picks [0, 1] rfl rfl).useG (G' := [SVF x]) (by simp)
  have hH := scrH_len hx
  replace hB : BufAt 63 5 b3 (scrH x.scr) g := hB
  generalize hHH : scrH x.scr = H at hB hH
  refine s_val (r_fieldAddr (o' := 18) fb38_3 (by decide) rfl rfl) ?_
  refine a_load1 (v := .slice _ _ _) Try.underlying34 rfl M rfl (k := 0) (j := 0) rfl rfl rfl ?_
  refine s_val (r_len Try.underlying34 rfl) ?_
  refine s_val (r_move (v := .int _ _) rfl) ?_
  refine s_nil (e_then (c_block ?_))
  refine c_loopG [9, 53, 54, 55, 56, 57, 58, 59, 60, 61, 62, 63, 64, 65] (Γ := Nat × List Int × Seg) (vals := fun (k, l, sg) => [(53, i64 k)]) (I := fun m (k, l, sg) w => m + k = x.vs.length ∧ l = H ++ (x.vs.take k).flatMap vtxB ∧ l.length ≤ 200 + k * 80 ∧ BufAt 63 5 b3 l sg ∧ St ks [] w0 w [[(b1, C x.cells 38)], sg] [SVF x]) x.vs.length (0, H, g) ⟨rfl, trivial⟩ ⟨rfl, by simp, by omega, hB, M⟩ ?_
  rintro m ⟨k, l, sg⟩ e w ⟨hk, hl, hlk, hB, M⟩
  refine c_seq (c_region ?_)
  refine s_val (r_lss rfl rfl) ?_
  refine s_nil (e_then (c_seq ?_))
  refine c_if rfl (fun h54 => ?_) (fun h54 => ?_)
  ·
   have htop := (M.fact (j := 0) rfl).vs.sl.top
   obtain ⟨y, hy⟩ : ∃ y, x.vs[k]? = some y := ⟨_, List.getElem?_eq_getElem (by omega)⟩
   obtain ⟨bi, oi, ha⟩ := (M.fact (j := 0) rfl).vs.addr (by omega)
   have hyw := hx.vs y (List.mem_of_getElem? hy)
   refine c_skip (e_then (c_seq (c_block (c_seq (c_region ?_)))))
   refine s_val (r_indexAddrS Try.underlying34 sz41 rfl (ha) rfl (by omega) (by omega) rfl) ?_
   refine s_val (r_loadN (cs := vtx y) Try.underlying41 rfl sz41 rfl rfl (fun j v hv => (M.fact (j := 0) rfl).vs.cell ha hy hv)) ?_
   refine a_alloc zr41 cells_agg M ?_
   intro b9 w M
   first | replace M := M.nf (L' := [_, _, [(_, _)]]) rfl | skip
   refine a_storeS (v := .agg _) (cs' := [_, _, _, _, _, _, _, _]) sz41 M rfl rfl cells_agg (k := 2) (j := 0) rfl rfl rfl rfl rfl rfl ?_
   intro w M
   first | replace M := M.nf (L' := [_, _, [(_, _)]]) rfl | skip
   refine s_nil (e_then (c_seq (c_region ?_)))
   refine s_val (r_move (v := .func _ _ _) rfl) ?_
   refine s_val (r_fieldAddr (o' := 0) fb41_0 (by decide) rfl rfl) ?_
   refine a_loadN (vs := [_, _, _, _]) Try.underlying31 rfl sz31 M rfl (k := 2) (j := 0) rfl rfl rfl rfl ?_
   refine s_call1 1 (cv22 rfl rfl) rfl (bytes1L y.place hyw.1 b3 _ _ hB (by omega)) M (fun _ h => nomatch h) ?_
   rintro v g w ⟨rfl, hB, hlk⟩ M
   first | replace M := M.nf (L' := [_, _, [(_, _)]]) rfl | skip
   refine s_nil (e_then (c_region ?_))
   refine s_val (r_move (v := .func _ _ _) rfl) ?_
   refine s_val (r_fieldAddr (o' := 4) fb41_1 (by decide) rfl rfl) ?_
   refine a_loadN (vs := [_, _, _, _]) Try.underlying31 rfl sz31 M rfl (k := 2) (j := 0) rfl rfl rfl rfl ?_
   refine s_call1 1 (cv22 rfl rfl) rfl (bytes1L y.colour hyw.2 b3 _ _ hB (by omega)) M (fun _ h => nomatch h) ?_
   rintro v g w ⟨rfl, hB, hlk⟩ M
   first | replace M := M.nf (L' := [_, _, [(_, _)]]) rfl | skip
   refine s_nil (e_blk (e_then (c_region ?_)))
   first | (refine s_val (r_add rfl rfl (w64 (by omega) (by omega))) ?_) | (refine s_val (r_add rfl rfl rfl) ?_)
   refine s_val (r_move (v := .int _ _) rfl) ?_
   refine s_nil (e_then ?_)
   exact loop_end (m - 1) (k + 1, _, _) (by repeat (first | exact ag_refl | exact ag_mask rfl ag_refl | refine ag_upd rfl ?_ | refine ag_mask rfl ?_)) ⟨i64succ k, trivial⟩ (by omega) ⟨by omega, by rw [flat_take hy, hl, List.append_assoc, List.append_assoc]; rfl, by omega, hB, (M.picks [0, 1] rfl rfl).useG (by simp)⟩
  ·
   rw [take_doneI (by omega)] at hl
   refine c_exit (e_then_exit (e_then_exit (e_blk_here (e_then (c_seq (c_seq (c_region ?_)))))))
   refine s_val (r_fieldAddr (o' := 19) fb38_4 (by decide) rfl rfl) ?_
   refine a_load1 (v := .slice _ _ _) Try.underlying35 rfl M rfl (k := 0) (j := 0) rfl rfl rfl ?_
   refine s_val (r_fieldAddr (o' := 20) fb38_5 (by decide) rfl rfl) ?_
   refine a_load1 (v := .slice _ _ _) Try.underlying35 rfl M rfl (k := 0) (j := 0) rfl rfl rfl ?_
   refine a_buildSliceS (cs := [_, _]) Try.underlying94 sz35 zr35 rfl rfl (by decide) rfl (ps := [(0, .slice _ _ _), (1, .slice _ _ _)]) (qs := [(0, [_]), (1, [_])]) rfl ⟨rfl, rfl, rfl, rfl, rfl, rfl, trivial⟩ rfl M ?_
   intro b70 w M
   first | replace M := M.nf (L' := [_, _, [(_, _)]]) rfl | skip
   have hrow : LsF encS 1 ⟨some ⟨b70, 0, none⟩, 2⟩ (plOf x) w := ⟨slF_at M (k := 2) (j := 0) (o := 0) rfl rfl rfl rfl rfl, fun _ _ => rfl⟩
   replace M := M.frz (k := 2) rfl (LsF encS 1 ⟨some ⟨b70, 0, none⟩, 2⟩ (plOf x)) (fun w' h => ⟨slF_new h rfl rfl, fun _ _ => rfl⟩)
   replace M := M.addFact (F := fun w => LsF encS 1 ⟨some ⟨b70, 0, none⟩, 2⟩ (plOf x) w ∧ ∀ y ∈ plOf x, PsF y.1 y.2 w) (((M.stable (j := 0) rfl).and (M.stable (j := 1) rfl)).imp fun w' h => ⟨h.2, fun y hy => by
     simp only [List.mem_cons, List.not_mem_nil, or_false] at hy
     rcases hy with rfl | rfl
     · exact h.1.ss
     · exact h.1.ps⟩)
   replace M := (M.picks [0, 1] rfl rfl).useG (G' := [SVF x, fun w => LsF encS 1 ⟨some ⟨b70, 0, none⟩, 2⟩ (plOf x) w ∧ ∀ y ∈ plOf x, PsF y.1 y.2 w]) (by simp)
   refine s_val (r_len Try.underlying94 rfl) ?_
   refine s_val (r_move (v := .int _ _) rfl) ?_
   refine s_nil (e_then (c_block ?_))
   refine c_loopG [11, 13, 15, 72, 73, 74, 75, 76, 77, 78, 79, 80, 81, 82, 83, 84, 85, 86, 87, 88, 89, 90, 91, 92, 93, 94, 95, 96, 97, 98, 99, 100, 101, 102, 103, 104, 105, 106, 107, 108, 109, 110, 111, 112, 113, 114] (Γ := Nat × List Int × Seg) (vals := fun (k, l, sg) => [(72, i64 k)]) (I := fun m (k, l', sg) w => m + k = 2 ∧ l' = l ++ ((plOf x).take k).flatMap (fun y => progsB (y.2.map (·.2))) ∧ l'.length ≤ 100000 + k * 20000000 ∧ BufAt 63 5 b3 l' sg ∧ St ks [] w0 w [[(b1, C x.cells 38)], sg] [SVF x, fun w => LsF encS 1 ⟨some ⟨b70, 0, none⟩, 2⟩ (plOf x) w ∧ ∀ y ∈ plOf x, PsF y.1 y.2 w]) 2 (0, l, sg) ⟨rfl, trivial⟩ ⟨rfl, by simp, by omega, hB, M⟩ ?_
   rintro m ⟨k, l1, sg⟩ e w ⟨hk, hl1, hlk, hB, M⟩
   refine c_seq (c_region ?_)
   refine s_val (r_lss rfl rfl) ?_
   refine s_nil (e_then (c_seq ?_))
   refine c_if rfl (fun h73 => ?_) (fun h73 => ?_)
   ·
    obtain ⟨y, hy⟩ : ∃ y, (plOf x)[k]? = some y := ⟨_, List.getElem?_eq_getElem (show k < 2 by omega)⟩
    obtain ⟨bi, oi, ha⟩ := (M.fact (j := 1) rfl).1.addr (show 0 < 2 by decide)
    obtain ⟨hyl, hyw⟩ := hpw y (List.mem_of_getElem? hy)
    refine c_skip (e_then (c_seq (c_block (c_seq (c_region ?_)))))
    refine s_val (r_indexAddrS Try.underlying94 sz35 rfl (ha) rfl (by omega) (by omega) rfl) ?_
    refine s_val (r_load1 (v := .slice _ _ _) Try.underlying35 rfl rfl ((M.fact (j := 1) rfl).1.cell0 ha hy rfl)) ?_
    refine s_val (r_assign (v := .slice _ _ _) rfl) ?_
    refine s_nil (e_then (c_seq (c_region ?_)))
    refine s_val (r_move (v := .func _ _ _) rfl) ?_
    refine s_val (r_move (v := .slice _ _ _) rfl) ?_
    refine s_val (r_len Try.underlying35 rfl) ?_
    refine s_call1 1 (cv24 rfl rfl) rfl (bytes2N _ (by omega) b3 _ _ hB (by omega)) M (fun _ h => nomatch h) ?_
    rintro v g w ⟨rfl, hB, hlk⟩ M
    first | replace M := M.nf (L' := [_, _]) rfl | skip
    refine s_nil (e_then (c_seq (c_region ?_)))
    --nL=2
    replace M := (M.picks [0, 1] rfl rfl).useG (G' := [SVF x, fun w => LsF encS 1 ⟨some ⟨b70, 0, none⟩, 2⟩ (plOf x) w ∧ ∀ y ∈ plOf x, PsF y.1 y.2 w]) (by simp)
    have htop := ((M.fact (j := 1) rfl).2 y (List.mem_of_getElem? hy)).row.sl.top
    refine s_val (r_move (v := .slice _ _ _) rfl) ?_
    refine s_val (r_len Try.underlying35 rfl) ?_
    refine s_val (r_move (v := .int _ _) rfl) ?_
    refine s_nil (e_then (c_block ?_))
    refine c_loopG [13, 15, 82, 83, 84, 85, 86, 87, 88, 89, 90, 91, 92, 93, 94, 95, 96, 97, 98, 99, 100, 101, 102, 103, 104, 105, 106, 107, 108, 109, 110, 111, 112, 113] (Γ := Nat × List Int × Seg) (vals := fun (k, l, sg) => [(82, i64 k)]) (I := fun m2 (k2, l', sg) w => m2 + k2 = y.2.length ∧ l' = l1 ++ cnt y.2.length ++ ((y.2.take k2).flatMap fun z => progB z.2) ∧ l'.length ≤ 110000 + k * 20000000 + k2 * 14010 ∧ BufAt 63 5 b3 l' sg ∧ St ks [] w0 w [[(b1, C x.cells 38)], sg] [SVF x, fun w => LsF encS 1 ⟨some ⟨b70, 0, none⟩, 2⟩ (plOf x) w ∧ ∀ y ∈ plOf x, PsF y.1 y.2 w]) y.2.length (0, _, _) ⟨rfl, trivial⟩ ⟨rfl, by simp, by omega, hB, M⟩ ?_
    rintro m2 ⟨k2, l2, sg⟩ e2 w ⟨hk2, hl2, hlk2, hB, M⟩
    refine c_seq (c_region ?_)
    refine s_val (r_lss rfl rfl) ?_
    refine s_nil (e_then (c_seq ?_))
    refine c_if rfl (fun h83 => ?_) (fun h83 => ?_)
    ·
     obtain ⟨z, hz⟩ : ∃ z, y.2[k2]? = some z := ⟨_, List.getElem?_eq_getElem (by omega)⟩
     obtain ⟨bj, oj, ha2⟩ := ((M.fact (j := 1) rfl).2 y (List.mem_of_getElem? hy)).row.addr (by omega)
     obtain ⟨hzw, hzl⟩ := hyw z (List.mem_of_getElem? hz)
     refine c_skip (e_then (c_seq (c_block (c_seq (c_region ?_)))))
     refine s_val (r_indexAddrS Try.underlying35 sz46 rfl (ha2) rfl (by omega) (by omega) rfl) ?_
     refine s_val (r_load1 (v := .slice _ _ _) Try.underlying46 rfl rfl (((M.fact (j := 1) rfl).2 y (List.mem_of_getElem? hy)).row.cell0 ha2 hz rfl)) ?_
     refine s_val (r_assign (v := .slice _ _ _) rfl) ?_
     refine s_nil (e_then (c_seq (c_region ?_)))
     refine s_val (r_move (v := .func _ _ _) rfl) ?_
     refine s_val (r_move (v := .slice _ _ _) rfl) ?_
     refine s_val (r_len Try.underlying46 rfl) ?_
     refine s_call1 1 (cv24 rfl rfl) rfl (bytes2N _ (by omega) b3 _ _ hB (by omega)) M (fun _ h => nomatch h) ?_
     rintro v g w ⟨rfl, hB, hlk⟩ M
     first | replace M := M.nf (L' := [_, _]) rfl | skip
     refine s_nil (e_then (c_seq (c_region ?_)))
     --nL=2
     replace M := (M.picks [0, 1] rfl rfl).useG (G' := [SVF x, fun w => LsF encS 1 ⟨some ⟨b70, 0, none⟩, 2⟩ (plOf x) w ∧ ∀ y ∈ plOf x, PsF y.1 y.2 w]) (by simp)
     have htop2 := (((M.fact (j := 1) rfl).2 y (List.mem_of_getElem? hy)).each z (List.mem_of_getElem? hz)).sl.top
     refine s_val (r_move (v := .slice _ _ _) rfl) ?_
     refine s_val (r_len Try.underlying46 rfl) ?_
     refine s_val (r_move (v := .int _ _) rfl) ?_
     refine s_nil (e_then (c_block ?_))
     refine c_loopG [15, 92, 93, 94, 95, 96, 97, 98, 99, 100, 101, 102, 103, 104, 105, 106, 107, 108, 109, 110, 111, 112] (Γ := Nat × List Int × Seg) (vals := fun (k, l, sg) => [(92, i64 k)]) (I := fun m3 (k3, l', sg) w => m3 + k3 = z.2.length ∧ l' = l2 ++ cnt z.2.length ++ (z.2.take k3).flatMap insB ∧ l'.length ≤ l2.length + 10 + k3 * 14 ∧ BufAt 63 5 b3 l' sg ∧ St ks [] w0 w [[(b1, C x.cells 38)], sg] [SVF x, fun w => LsF encS 1 ⟨some ⟨b70, 0, none⟩, 2⟩ (plOf x) w ∧ ∀ y ∈ plOf x, PsF y.1 y.2 w]) z.2.length (0, _, _) ⟨rfl, trivial⟩ ⟨rfl, by simp, by omega, hB, M⟩ ?_
     rintro m3 ⟨k3, l3, sg⟩ e3 w ⟨hk3, hl3, hlk3, hB, M⟩
     refine c_seq (c_region ?_)
     refine s_val (r_lss rfl rfl) ?_
     refine s_nil (e_then (c_seq ?_))
     refine c_if rfl (fun h93 => ?_) (fun h93 => ?_)
     ·
      obtain ⟨i, hi⟩ : ∃ i, z.2[k3]? = some i := ⟨_, List.getElem?_eq_getElem (by omega)⟩
      obtain ⟨bk, ok, ha3⟩ := (((M.fact (j := 1) rfl).2 y (List.mem_of_getElem? hy)).each z (List.mem_of_getElem? hz)).addr (by omega)
      have hiw := hzw i (List.mem_of_getElem? hi)
      have hil := insB_len hiw
      have hi14 : (insB i).length = 4 + (intB i.imm).length := by simp only [insB, List.length_append, List.length_cons, List.length_nil]
      obtain ⟨_, _, _, _, hm1, hm2⟩ := hiw
      obtain ⟨s, n, sg', hn, hO, rfl⟩ := hB
      refine c_skip (e_then (c_seq (c_block (c_seq (c_region ?_)))))
      refine s_val (r_indexAddrS Try.underlying46 sz44 rfl (ha3) rfl (by omega) (by omega) rfl) ?_
      refine s_val (r_loadN (cs := ins i) Try.underlying44 rfl sz44 rfl rfl (fun j v hv => (((M.fact (j := 1) rfl).2 y (List.mem_of_getElem? hy)).each z (List.mem_of_getElem? hz)).cell ha3 hi hv)) ?_
      refine a_alloc zr44 cells_agg M ?_
      intro b15 w M
      first | replace M := M.nf (L' := [_, _, [(_, _)]]) rfl | skip
      refine a_storeS (v := .agg _) (cs' := [_, _, _, _, _]) sz44 M rfl rfl cells_agg (k := 2) (j := 0) rfl rfl rfl rfl rfl rfl ?_
      intro w M
      first | replace M := M.nf (L' := [_, _, [(_, _)]]) rfl | skip
      refine s_nil (e_then ?_)
      --nL=4 --slot 15=own(3,0,0) --slot 3=own(1,0,0)
      replace M := M.flat (L' := [[(b1, C x.cells 38)], [(b3, C [s.v n] 63)], sg', [(b15, C (ins i) 44)]]) rfl
      refine c_drawT (by kernel_rfl) [(.q, 0), (.q, 1), (.q, 2), (.q, 3), (.q, 4), (.q, 5), (.q, 6), (.q, 7), (.q, 8), (.fl, 9), (.ch, 10), (.q, 11), (.q, 12), (.q, 13), (.ch, 14), (.ch, 15)] [16] [[], [], [1], [], [3], [], [5], [], [7], [1, 2, 3, 4, 5, 6, 7, 8], [0, 1, 2, 3, 4, 5, 6, 7, 8, 9], [], [11], [11, 12], [0, 1, 2, 3, 4, 5, 6, 7, 8, 9, 10, 11, 12, 13], [0, 1, 2, 3, 4, 5, 6, 7, 8, 9, 10, 11, 12, 13, 14], [0, 1, 2, 3, 4, 5, 6, 7, 8, 9, 10, 11, 12, 13, 14, 15]] (by kernel_rfl) [2] M ?_
      refine w_read (v := .slice _ _ _) rfl wt_none (fun w X G' M => r_load1 Try.underlying63 rfl rfl (M.cell (k := 1) (j := 0) rfl rfl rfl)) ?_
      refine w_val rfl wt_none (fun w => (r_fieldAddr (o' := 0) fb44_0 (by decide) rfl rfl)) ?_
      refine w_read (v := .int _ _) rfl wt_none (fun w X G' M => r_load1 Try.underlying42 rfl rfl (M.cell (k := 3) (j := 0) rfl rfl rfl)) ?_
      refine w_val rfl wt_none (fun w => (r_fieldAddr (o' := 1) fb44_1 (by decide) rfl rfl)) ?_
      refine w_read (v := .int _ _) rfl wt_none (fun w X G' M => r_load1 Try.underlying5 rfl rfl (M.cell (k := 3) (j := 0) rfl rfl rfl)) ?_
      refine w_val rfl wt_none (fun w => (r_fieldAddr (o' := 2) fb44_2 (by decide) rfl rfl)) ?_
      refine w_read (v := .int _ _) rfl wt_none (fun w X G' M => r_load1 Try.underlying5 rfl rfl (M.cell (k := 3) (j := 0) rfl rfl rfl)) ?_
      refine w_val rfl wt_none (fun w => (r_fieldAddr (o' := 3) fb44_3 (by decide) rfl rfl)) ?_
      refine w_read (v := .int _ _) rfl wt_none (fun w X G' M => r_load1 Try.underlying5 rfl rfl (M.cell (k := 3) (j := 0) rfl rfl rfl)) ?_
      refine w_buildSliceS (cs := [_, _, _, _]) rfl wt_none Try.underlying63 sz5 zr5 rfl rfl (by decide) rfl (ps := [(0, .int _ _), (1, .int _ _), (2, .int _ _), (3, .int _ _)]) (qs := [(0, [_]), (1, [_]), (2, [_]), (3, [_])]) rfl ⟨rfl, rfl, rfl, rfl, rfl, rfl, rfl, rfl, rfl, rfl, rfl, rfl, trivial⟩ rfl ?_
      intro b105
      first | refine w_nf (L' := [_, _, _, _, [(_, _)]]) rfl ?_ | skip
      refine w_append 2 rfl wt_none Try.underlying63 sz5 by5 zr5 rfl rfl rfl hO rfl rfl (fun w X M => (SlF.src Try.underlying63 (slF_lit M (k := 4) (j := 0) rfl rfl rfl rfl) rfl)) (by simp only [maxLen]; omega) (by omega) (fun _ => (by repeat (first | exact trivial | refine ⟨.inr rfl, ?_⟩ | refine ⟨.inl rfl, ?_⟩))) (fun _ h => h) ?_
      intro s1 sg1 hO1
      first | refine w_nf (L' := [_, _, _, _, [(_, _)]]) rfl ?_ | skip
      refine w_val rfl wt_none (fun w => (r_fieldAddr (o' := 4) fb44_4 (by decide) rfl rfl)) ?_
      refine w_read (v := .int _ _) rfl wt_none (fun w X G' M => r_load1 Try.underlying22 rfl rfl (M.cell (k := 3) (j := 0) rfl rfl rfl)) ?_
      first | (refine w_val rfl wt_none (fun w => (r_conv Try.underlying22 Try.underlying3 rfl (w64 (by omega) (by omega)))) ?_) | (refine w_val rfl wt_none (fun w => (r_conv Try.underlying22 Try.underlying3 rfl rfl)) ?_)
      refine w_call0 rfl wt_none (fun w => cl23 rfl) (refInt _ (by omega) (by omega)) (fun _ h => nomatch h) (fun _ _ => (by repeat (first | exact trivial | refine ⟨.inr rfl, ?_⟩ | refine ⟨.inl rfl, ?_⟩))) (fun _ h => h) ?_
      rintro v ⟨sc, sgc⟩ ⟨rfl, hOc⟩
      first | refine w_nf (L' := [_, _, _, _, [(_, _)], _]) rfl ?_ | skip
      refine w_append 2 rfl wt_none Try.underlying63 sz5 by5 zr5 rfl rfl rfl hO1 rfl rfl (fun w X M => (Own.src Try.underlying63 (bv_one _) (by decide) M (k := 5) rfl hOc)) (by simp only [maxLen]; omega) (by omega) (fun _ => (by repeat (first | exact trivial | refine ⟨.inr rfl, ?_⟩ | refine ⟨.inl rfl, ?_⟩))) (fun _ h => List.mem_append_left _ (h)) ?_
      intro s2 sg2 hO2
      first | refine w_nf (L' := [_, _, _, _, [(_, _)], _]) rfl ?_ | skip
      refine w_nil ?_
      intro w M
      refine a_store (v := .slice _ _ _) sz63 M rfl rfl rfl (k := 1) (j := 0) rfl rfl rfl rfl rfl ?_
      intro w M
      first | replace M := M.nf (L' := [_, _, _, _, [(_, _)], _]) rfl | skip
      refine s_nil (e_blk (e_then (c_region ?_)))
      first | (refine s_val (r_add rfl rfl (w64 (by omega) (by omega))) ?_) | (refine s_val (r_add rfl rfl rfl) ?_)
      refine s_val (r_move (v := .int _ _) rfl) ?_
      refine s_nil (e_then ?_)
      exact loop_end (m3 - 1) (k3 + 1, l3 ++ insB i, (b3, C [s2.v _] 63) :: sg2) (by repeat (first | exact ag_refl | exact ag_mask rfl ag_refl | refine ag_upd rfl ?_ | refine ag_mask rfl ?_)) ⟨i64succ k3, trivial⟩ (by omega) ⟨by omega, by rw [flat_take hi, hl3, List.append_assoc], by rw [List.length_append]; omega, bufOf hO2 (by rw [insB, ← List.append_assoc, bv_append, bv_append]; rfl), ((M.picks [0, 1, 2] rfl rfl).useG (by simp)).flat rfl⟩
     ·
      rw [take_doneI (by omega)] at hl3
      refine c_exit (e_then_exit (e_then_exit (e_blk_here (e_blk (e_then (c_region ?_))))))
      first | (refine s_val (r_add rfl rfl (w64 (by omega) (by omega))) ?_) | (refine s_val (r_add rfl rfl rfl) ?_)
      refine s_val (r_move (v := .int _ _) rfl) ?_
      refine s_nil (e_then ?_)
      exact loop_end (m2 - 1) (k2 + 1, _, _) (by repeat (first | exact ag_refl | exact ag_mask rfl ag_refl | refine ag_upd rfl ?_ | refine ag_mask rfl ?_)) ⟨i64succ k2, trivial⟩ (by omega) ⟨by omega, by rw [flat_take hz, hl3, hl2]; simp only [progB, List.append_assoc], by omega, hB, M⟩
    ·
     rw [take_doneI (by omega)] at hl2
     refine c_exit (e_then_exit (e_then_exit (e_blk_here (e_blk (e_then (c_region ?_))))))
     first | (refine s_val (r_add rfl rfl (w64 (by omega) (by omega))) ?_) | (refine s_val (r_add rfl rfl rfl) ?_)
     refine s_val (r_move (v := .int _ _) rfl) ?_
     refine s_nil (e_then ?_)
     exact loop_end (m - 1) (k + 1, _, _) (by repeat (first | exact ag_refl | exact ag_mask rfl ag_refl | refine ag_upd rfl ?_ | refine ag_mask rfl ?_)) ⟨i64succ k, trivial⟩ (by omega) ⟨by omega, by rw [flat_take hy, hl2, hl1]; simp only [progsB, List.append_assoc, List.length_map, List.flatMap_map], by omega, hB, M⟩
   ·
    rw [show k = 2 by omega] at hl1
    replace hl1 : l1 = l ++ (lists x.scr).flatMap progsB := hl1
    replace M := M.useG (G' := [SVF x]) (by simp)
    have htop := (M.fact (j := 0) rfl).ds.row.sl.top
    refine c_exit (e_then_exit (e_then_exit (e_blk_here (e_then (c_seq (c_region ?_))))))
    refine s_val (r_move (v := .func _ _ _) rfl) ?_
    refine s_val (r_fieldAddr (o' := 21) fb38_6 (by decide) rfl rfl) ?_
    refine a_load1 (v := .slice _ _ _) Try.underlying36 rfl M rfl (k := 0) (j := 0) rfl rfl rfl ?_
    refine s_val (r_len Try.underlying36 rfl) ?_
    refine s_call1 1 (cv24 rfl rfl) rfl (bytes2N _ (by omega) b3 _ _ hB (by omega)) M (fun _ h => nomatch h) ?_
    rintro v g w ⟨rfl, hB, hlk⟩ M
    first | replace M := M.nf (L' := [_, _]) rfl | skip
    refine s_nil (e_then (c_seq (c_seq (c_region ?_))))
    replace M := (M.picks [0, 1] rfl rfl).useG (G' := [SVF x]) (by simp) --nL=2
    refine s_val (r_fieldAddr (o' := 21) fb38_6 (by decide) rfl rfl) ?_
    refine a_load1 (v := .slice _ _ _) Try.underlying36 rfl M rfl (k := 0) (j := 0) rfl rfl rfl ?_
    refine s_val (r_len Try.underlying36 rfl) ?_
    refine s_val (r_move (v := .int _ _) rfl) ?_
    refine s_nil (e_then (c_block ?_))
    refine c_loopG [17, 18, 20, 123, 124, 125, 126, 127, 128, 129, 130, 131, 132, 133, 134, 135, 136, 137, 138, 139, 140, 141, 142, 143, 144, 145, 146, 147, 148, 149, 150, 151, 152, 153, 154, 155, 156, 157, 158, 159, 160, 161, 162, 163, 164, 165, 166, 167, 168, 169, 170, 171, 172, 173, 174, 175, 176, 177, 178, 179, 180, 181, 182, 183, 184, 185, 186, 187, 188] (Γ := Nat × List Int × Seg) (vals := fun (k, l, sg) => [(123, i64 k)]) (I := fun m (k, l', sg) w => m + k = x.ds.length ∧ l' = l1 ++ cnt x.ds.length ++ (x.ds.take k).flatMap (fun y => drwB y.2) ∧ l'.length ≤ 41000000 + k * 11000 ∧ BufAt 63 5 b3 l' sg ∧ St ks [] w0 w [[(b1, C x.cells 38)], sg] [SVF x]) x.ds.length (0, _, _) ⟨rfl, trivial⟩ ⟨rfl, by simp, by omega, hB, M⟩ ?_
    rintro m ⟨k, l2, sg⟩ e w ⟨hk, hl2, hlk, hB, M⟩
    refine c_seq (c_region ?_)
    refine s_val (r_lss rfl rfl) ?_
    refine s_nil (e_then (c_seq ?_))
    refine c_if rfl (fun h124 => ?_) (fun h124 => ?_)
    ·
     obtain ⟨y, hy⟩ : ∃ y, x.ds[k]? = some y := ⟨_, List.getElem?_eq_getElem (by omega)⟩
     obtain ⟨bi, oi, ha⟩ := (M.fact (j := 0) rfl).ds.row.addr (by omega)
     have hyl := hds y (List.mem_of_getElem? hy)
     have hdl2 := drwB_len hyl
     have hst15 : (sttB y.2.st).length = 15 := rfl
     obtain ⟨s, n, sg', hn, hO, rfl⟩ := hB
     replace M := M.flat (L' := [[(b1, C x.cells 38)], [(b3, C [s.v n] 63)], sg']) rfl
     --nL=3 --slot 3=own(1,0,0)
     refine c_skip (e_then (c_seq (c_block (c_seq (c_region ?_)))))
     refine s_val (r_indexAddrS Try.underlying36 sz61 rfl (ha) rfl (by omega) (by omega) rfl) ?_
     refine s_val (r_loadN (cs := encD y) Try.underlying61 rfl sz61 rfl rfl (fun j v hv => (M.fact (j := 0) rfl).ds.row.cell ha hy hv)) ?_
     refine a_alloc zr61 cells_agg M ?_
     intro b17 w M
     first | replace M := M.nf (L' := [_, _, _, [(_, _)]]) rfl | skip
     refine a_storeS (v := .agg _) (cs' := [_, _, _, _, _, _, _, _, _, _, _, _, _, _, _, _, _, _, _, _, _, _, _, _, _, _, _]) sz61 M rfl rfl cells_agg (k := 3) (j := 0) rfl rfl rfl rfl rfl rfl ?_
     intro w M
     first | replace M := M.nf (L' := [_, _, _, [(_, _)]]) rfl | skip
     refine s_nil (e_then (c_seq (c_region ?_)))
     refine s_val (r_buildS (cs := [_]) zr97 cells_agg pl97 (ps := []) (qs := []) rfl trivial rfl) ?_
     refine a_box (v := .agg _) rfl cells_agg M ?_
     intro b128 w M
     first | replace M := M.nf (L' := [_, _, _, [(_, _)], [(_, _)]]) rfl | skip
     refine s_val (r_assign (v := .pointer _) rfl) ?_
     refine s_nil (e_then (c_seq (c_region ?_)))
     refine s_val (r_fieldAddr (o' := 0) fb61_0 (by decide) rfl rfl) ?_
     refine a_loadN (vs := [_, _, _, _, _, _, _, _, _, _, _, _, _, _, _]) Try.underlying54 rfl sz54 M rfl (k := 3) (j := 0) rfl rfl rfl rfl ?_
     refine s_val (r_move (v := .pointer _) rfl) ?_
     refine s_call1 4 (cl25 rfl) rfl (sttPut y.2.st b128 [] _ ⟨⟨none, 0⟩, 0, [], rfl, Own.nil _ _, rfl⟩ (by simp)) M (fun _ h => nomatch h) ?_
     rintro v gw w ⟨rfl, hBw⟩ M
     first | replace M := M.nf (L' := [_, _, _, [(_, _)], _]) rfl | skip
     refine s_nil (e_then (c_seq ?_))
     refine c_drawT (by kernel_rfl) [(.q, 1), (.ch, 2), (.q, 0), (.ch, 3)] [4] [[], [], [1], [0, 1, 2], [0, 1, 2, 3]] (by kernel_rfl) [2, 4] M ?_
     refine w_val rfl wt_none (fun w => (r_move (v := .pointer _) rfl)) ?_
     refine w_call1 4 rfl wt_none (fun w => cl26 rfl) rfl (wrBytes b128 _ _ hBw (by simp only [List.nil_append]; omega)) (fun _ h => nomatch h) (fun _ _ => (by repeat (first | exact trivial | refine ⟨.inr rfl, ?_⟩ | refine ⟨.inl rfl, ?_⟩))) (fun _ h => h) ?_
     rintro v ⟨gw, sw, sgw⟩ ⟨rfl, hOw, hBw⟩
     first | refine w_nf (L' := [_, _, _, [(_, _)], _, _]) rfl ?_ | skip
     refine w_read (v := .slice _ _ _) rfl wt_none (fun w X G' M => r_load1 Try.underlying63 rfl rfl (M.cell (k := 1) (j := 0) rfl rfl rfl)) ?_
     refine w_append 2 rfl wt_none Try.underlying63 sz5 by5 zr5 rfl rfl rfl hO rfl rfl (fun w X M => (Own.src Try.underlying63 (bv_one _) (by decide) M (k := 5) rfl hOw)) (by simp only [maxLen, List.nil_append]; omega) (by simp only [List.nil_append]; omega) (fun _ => (by repeat (first | exact trivial | refine ⟨.inr rfl, ?_⟩ | refine ⟨.inl rfl, ?_⟩))) (fun _ h => List.mem_append_left _ (h)) ?_
     intro s1 sg1 hO1
     first | refine w_nf (L' := [_, _, _, [(_, _)], _, _]) rfl ?_ | skip
     refine w_nil ?_
     intro w M
     refine a_store (v := .slice _ _ _) sz63 M rfl rfl rfl (k := 1) (j := 0) rfl rfl rfl rfl rfl ?_
     intro w M
     first | replace M := M.nf (L' := [_, _, _, [(_, _)], _, _]) rfl | skip
     refine s_nil (e_then (c_seq (c_seq (c_region ?_))))
     replace M := (M.picks [0, 1, 2, 3] rfl rfl).useG (G' := [SVF x]) (by simp)
     have hO1' : Own 5 1 s1 (n + 15) (bv (l2 ++ sttB y.2.st)) sg1 := by rw [bv_append]; exact hO1
     clear hO1
     --nL=4
     refine s_val (r_fieldAddr (o' := 15) fb61_1 (by decide) rfl rfl) ?_
     refine a_load1 (v := .bool _) Try.underlying4 rfl M rfl (k := 3) (j := 0) rfl rfl rfl ?_
     refine s_nil (e_then ?_)
     refine c_cond rfl (fun h138 => ?_) (fun h138 => ?_)
     ·
      have hdw : drwB y.2 = sttB y.2.st ++ ([3, y.2.c0, y.2.c1, y.2.c2, y.2.c3, y.2.cstencil, y.2.wanted] ++ cntI y.2.cdepth) := by rw [drwB, if_pos h138]
      refine c_seq ?_
      refine c_drawT (by kernel_rfl) [(.q, 0), (.fl, 1), (.ch, 2), (.q, 3), (.q, 4), (.q, 5), (.ch, 6), (.q, 7), (.q, 8), (.q, 9), (.q, 10), (.q, 11), (.q, 12), (.fl, 13), (.ch, 14)] [15] [[], [], [0, 1], [], [3], [3, 4], [0, 1, 2, 3, 4, 5], [], [7], [7, 8], [], [10], [10, 11], [7, 8, 9, 10, 11, 12], [0, 1, 2, 3, 4, 5, 6, 7, 8, 9, 10, 11, 12, 13], [0, 1, 2, 3, 4, 5, 6, 7, 8, 9, 10, 11, 12, 13, 14]] (by kernel_rfl) [2] M ?_
      refine w_read (v := .slice _ _ _) rfl wt_none (fun w X G' M => r_load1 Try.underlying63 rfl rfl (M.cell (k := 1) (j := 0) rfl rfl rfl)) ?_
      refine w_buildSliceS (cs := [_]) rfl wt_none Try.underlying63 sz5 zr5 rfl rfl (by decide) rfl (ps := [(0, .int _ _)]) (qs := [(0, [_])]) rfl ⟨rfl, rfl, rfl, trivial⟩ rfl ?_
      intro b140
      first | refine w_nf (L' := [_, _, _, _, [(_, _)]]) rfl ?_ | skip
      refine w_append 2 rfl wt_none Try.underlying63 sz5 by5 zr5 rfl rfl rfl hO1' rfl rfl (fun w X M => (SlF.src Try.underlying63 (slF_lit M (k := 4) (j := 0) rfl rfl rfl rfl) rfl)) (by simp only [maxLen]; omega) (by omega) (fun _ => (by repeat (first | exact trivial | refine ⟨.inr rfl, ?_⟩ | refine ⟨.inl rfl, ?_⟩))) (fun _ h => h) ?_
      intro s2 sg2 hO2
      first | refine w_nf (L' := [_, _, _, _, [(_, _)]]) rfl ?_ | skip
      refine w_val rfl wt_none (fun w => (r_fieldAddr (o' := 16) fb61_2 (by decide) rfl rfl)) ?_
      refine w_val rfl wt_none (fun w => (r_fieldAddr (o' := 16) fb57_0 (by decide) rfl rfl)) ?_
      refine w_val rfl wt_none (fun w => (r_sliceArr Try.underlying55 sz5 rfl)) ?_
      refine w_append 2 rfl wt_none Try.underlying63 sz5 by5 zr5 rfl rfl rfl hO2 rfl rfl (fun w X M => (SlF.src Try.underlying63 (slF_at M (k := 3) (j := 0) (o := 16) (n := 4) rfl rfl rfl rfl rfl) rfl)) (by simp only [maxLen]; omega) (by omega) (fun _ => (by repeat (first | exact trivial | refine ⟨.inr rfl, ?_⟩ | refine ⟨.inl rfl, ?_⟩))) (fun _ h => h) ?_
      intro s3 sg3 hO3
      first | refine w_nf (L' := [_, _, _, _, [(_, _)]]) rfl ?_ | skip
      refine w_val rfl wt_none (fun w => (r_fieldAddr (o' := 16) fb61_2 (by decide) rfl rfl)) ?_
      refine w_val rfl wt_none (fun w => (r_fieldAddr (o' := 21) fb57_2 (by decide) rfl rfl)) ?_
      refine w_read (v := .int _ _) rfl wt_none (fun w X G' M => r_load1 Try.underlying5 rfl rfl (M.cell (k := 3) (j := 0) rfl rfl rfl)) ?_
      refine w_val rfl wt_none (fun w => (r_fieldAddr (o' := 16) fb61_2 (by decide) rfl rfl)) ?_
      refine w_val rfl wt_none (fun w => (r_fieldAddr (o' := 22) fb57_3 (by decide) rfl rfl)) ?_
      refine w_read (v := .int _ _) rfl wt_none (fun w X G' M => r_load1 Try.underlying5 rfl rfl (M.cell (k := 3) (j := 0) rfl rfl rfl)) ?_
      refine w_buildSliceS (cs := [_, _]) rfl wt_none Try.underlying63 sz5 zr5 rfl rfl (by decide) rfl (ps := [(0, .int _ _), (1, .int _ _)]) (qs := [(0, [_]), (1, [_])]) rfl ⟨rfl, rfl, rfl, rfl, rfl, rfl, trivial⟩ rfl ?_
      intro b152
      first | refine w_nf (L' := [_, _, _, _, [(_, _)], [(_, _)]]) rfl ?_ | skip
      refine w_append 2 rfl wt_none Try.underlying63 sz5 by5 zr5 rfl rfl rfl hO3 rfl rfl (fun w X M => (SlF.src Try.underlying63 (slF_lit M (k := 5) (j := 0) rfl rfl rfl rfl) rfl)) (by simp only [maxLen]; omega) (by omega) (fun _ => (by repeat (first | exact trivial | refine ⟨.inr rfl, ?_⟩ | refine ⟨.inl rfl, ?_⟩))) (fun _ h => h) ?_
      intro s4 sg4 hO4
      first | refine w_nf (L' := [_, _, _, _, [(_, _)], [(_, _)]]) rfl ?_ | skip
      refine w_nil ?_
      intro w M
      refine a_store (v := .slice _ _ _) sz63 M rfl rfl rfl (k := 1) (j := 0) rfl rfl rfl rfl rfl ?_
      intro w M
      first | replace M := M.nf (L' := [_, _, _, _, [(_, _)], [(_, _)]]) rfl | skip
      refine s_nil (e_then (c_seq (c_region ?_)))
      replace M := (((M.picks [0, 1, 2, 3] rfl rfl).useG (G' := [SVF x]) (by simp))).flat (L' := [[(b1, C x.cells 38)], (b3, C [s4.v _] 63) :: sg4, [(b17, C (encD y) 61)]]) rfl
      have hB : BufAt 63 5 b3 (l2 ++ sttB y.2.st ++ [3, y.2.c0, y.2.c1, y.2.c2, y.2.c3, y.2.cstencil, y.2.wanted]) ((b3, C [s4.v _] 63) :: sg4) := bufOf hO4 (by rw [bv_append, bv_append]; simp [bv])
      have hl4 : (l2 ++ sttB y.2.st ++ [3, y.2.c0, y.2.c1, y.2.c2, y.2.c3, y.2.cstencil, y.2.wanted]).length ≤ l2.length + 22 := by simp only [List.length_append, hst15]; simp
      --nL=3 --slot 17=own(2,0,0)
      refine s_val (r_move (v := .func _ _ _) rfl) ?_
      refine s_val (r_fieldAddr (o' := 16) fb61_2 (by decide) rfl rfl) ?_
      refine s_val (r_fieldAddr (o' := 20) fb57_1 (by decide) rfl rfl) ?_
      refine a_load1 (v := .int _ _) Try.underlying3 rfl M rfl (k := 2) (j := 0) rfl rfl rfl ?_
      refine s_call1 1 (cv24 rfl rfl) rfl (bytes2L _ b3 _ _ hB (by omega)) M (fun _ h => nomatch h) ?_
      rintro v g w ⟨rfl, hB, hlk2⟩ M
      first | replace M := M.nf (L' := [_, _, _]) rfl | skip
      refine s_nil (e_then (c_exit (e_then_exit (e_blk_here (e_then (c_region ?_))))))
      first | (refine s_val (r_add rfl rfl (w64 (by omega) (by omega))) ?_) | (refine s_val (r_add rfl rfl rfl) ?_)
      refine s_val (r_move (v := .int _ _) rfl) ?_
      refine s_nil (e_then ?_)
      exact loop_end (m - 1) (k + 1, _, _) (by repeat (first | exact ag_refl | exact ag_mask rfl ag_refl | refine ag_upd rfl ?_ | refine ag_mask rfl ?_)) ⟨i64succ k, trivial⟩ (by omega) ⟨by omega, by rw [flat_take hy, hdw, hl2]; simp only [List.append_assoc], by omega, hB, (M.picks [0, 1] rfl rfl).useG (by simp)⟩
     ·
      have hdw : drwB y.2 = sttB y.2.st ++ ([y.2.kind] ++ (cntI y.2.vertex ++ (cntI y.2.fragment ++ (cnt y.2.indices.length ++ y.2.indices.flatMap cntI)))) := by rw [drwB, if_neg (by rw [h138]; decide)]
      refine c_skip (e_then (c_seq (c_region ?_)))
      refine a_load1 (v := .slice _ _ _) Try.underlying63 rfl M rfl (k := 1) (j := 0) rfl rfl rfl ?_
      refine s_val (r_fieldAddr (o' := 25) fb61_5 (by decide) rfl rfl) ?_
      refine a_load1 (v := .int _ _) Try.underlying58 rfl M rfl (k := 3) (j := 0) rfl rfl rfl ?_
      refine a_buildSliceS (cs := [_]) Try.underlying63 sz5 zr5 rfl rfl (by decide) rfl (ps := [(0, .int _ _)]) (qs := [(0, [_])]) rfl ⟨rfl, rfl, rfl, trivial⟩ rfl M ?_
      intro b162 w M
      first | replace M := M.nf (L' := [_, _, _, _, [(_, _)]]) rfl | skip
      refine a_append 2 Try.underlying63 sz5 by5 zr5 rfl rfl M rfl hO1' rfl rfl (SlF.src Try.underlying63 (slF_lit M (k := 4) (j := 0) rfl rfl rfl rfl) rfl) (by simp only [maxLen]; omega) (by omega) ?_
      intro s2 sg2 w hO2 M
      first | replace M := M.nf (L' := [_, _, _, _, [(_, _)]]) rfl | skip
      refine a_store (v := .slice _ _ _) sz63 M rfl rfl rfl (k := 1) (j := 0) rfl rfl rfl rfl rfl ?_
      intro w M
      first | replace M := M.nf (L' := [_, _, _, _, [(_, _)]]) rfl | skip
      refine s_nil (e_then (c_seq (c_region ?_)))
      replace M := (((M.picks [0, 1, 2, 3] rfl rfl).useG (G' := [SVF x]) (by simp))).flat (L' := [[(b1, C x.cells 38)], (b3, C [s2.v _] 63) :: sg2, [(b17, C (encD y) 61)]]) rfl
      have hB : BufAt 63 5 b3 (l2 ++ sttB y.2.st ++ [y.2.kind]) ((b3, C [s2.v _] 63) :: sg2) := bufOf hO2 (by rw [bv_append, bv_append]; simp [bv])
      have hl4 : (l2 ++ sttB y.2.st ++ [y.2.kind]).length ≤ l2.length + 16 := by simp only [List.length_append, hst15]; simp
      --nL=3 --slot 17=own(2,0,0)
      refine s_val (r_move (v := .func _ _ _) rfl) ?_
      refine s_val (r_fieldAddr (o' := 23) fb61_3 (by decide) rfl rfl) ?_
      refine a_load1 (v := .int _ _) Try.underlying3 rfl M rfl (k := 2) (j := 0) rfl rfl rfl ?_
      refine s_call1 1 (cv24 rfl rfl) rfl (bytes2L _ b3 _ _ hB (by omega)) M (fun _ h => nomatch h) ?_
      rintro v g w ⟨rfl, hB, hlk2⟩ M
      first | replace M := M.nf (L' := [_, _, _]) rfl | skip
      refine s_nil (e_then (c_seq (c_region ?_)))
      refine s_val (r_move (v := .func _ _ _) rfl) ?_
      refine s_val (r_fieldAddr (o' := 24) fb61_4 (by decide) rfl rfl) ?_
      refine a_load1 (v := .int _ _) Try.underlying3 rfl M rfl (k := 2) (j := 0) rfl rfl rfl ?_
      refine s_call1 1 (cv24 rfl rfl) rfl (bytes2L _ b3 _ _ hB (by omega)) M (fun _ h => nomatch h) ?_
      rintro v g w ⟨rfl, hB, hlk3⟩ M
      first | replace M := M.nf (L' := [_, _, _]) rfl | skip
      refine s_nil (e_then (c_seq (c_region ?_)))
      refine s_val (r_move (v := .func _ _ _) rfl) ?_
      refine s_val (r_fieldAddr (o' := 26) fb61_6 (by decide) rfl rfl) ?_
      refine a_load1 (v := .slice _ _ _) Try.underlying59 rfl M rfl (k := 2) (j := 0) rfl rfl rfl ?_
      refine s_val (r_len Try.underlying59 rfl) ?_
      refine s_call1 1 (cv24 rfl rfl) rfl (bytes2N _ (by omega) b3 _ _ hB (by omega)) M (fun _ h => nomatch h) ?_
      rintro v g w ⟨rfl, hB, hlk4⟩ M
      first | replace M := M.nf (L' := [_, _, _]) rfl | skip
      refine s_nil (e_then (c_seq (c_region ?_)))
      replace M := (M.picks [0, 1, 2] rfl rfl).useG (G' := [SVF x]) (by simp)
      have htop3 := ((M.fact (j := 0) rfl).ds.each y (List.mem_of_getElem? hy)).sl.top
      --nL=3
      refine s_val (r_fieldAddr (o' := 26) fb61_6 (by decide) rfl rfl) ?_
      refine a_load1 (v := .slice _ _ _) Try.underlying59 rfl M rfl (k := 2) (j := 0) rfl rfl rfl ?_
      refine s_val (r_len Try.underlying59 rfl) ?_
      refine s_val (r_move (v := .int _ _) rfl) ?_
      refine s_nil (e_then (c_block ?_))
      refine c_loopG [20, 180, 181, 182, 183, 184, 185, 186, 187] (Γ := Nat × List Int × Seg) (vals := fun (k, l, sg) => [(180, i64 k)]) (I := fun m2 (k2, l', sg) w => m2 + k2 = y.2.indices.length ∧ l' = l2 ++ sttB y.2.st ++ [y.2.kind] ++ cntI y.2.vertex ++ cntI y.2.fragment ++ cnt y.2.indices.length ++ (y.2.indices.take k2).flatMap cntI ∧ l'.length ≤ l2.length + 100 + k2 * 10 ∧ BufAt 63 5 b3 l' sg ∧ St ks [] w0 w [[(b1, C x.cells 38)], sg, [(b17, C (encD y) 61)]] [SVF x]) y.2.indices.length (0, _, _) ⟨rfl, trivial⟩ ⟨rfl, by simp, by omega, hB, M⟩ ?_
      rintro m2 ⟨k2, l3, sg⟩ e2 w ⟨hk2, hl3, hlk5, hB, M⟩
      refine c_seq (c_region ?_)
      refine s_val (r_lss rfl rfl) ?_
      refine s_nil (e_then (c_seq ?_))
      refine c_if rfl (fun h181 => ?_) (fun h181 => ?_)
      ·
       obtain ⟨z, hz⟩ : ∃ z, y.2.indices[k2]? = some z := ⟨_, List.getElem?_eq_getElem (by omega)⟩
       obtain ⟨bj, oj, ha2⟩ := ((M.fact (j := 0) rfl).ds.each y (List.mem_of_getElem? hy)).addr (by omega)
       refine c_skip (e_then (c_seq (c_block (c_seq (c_region ?_)))))
       refine s_val (r_indexAddrS Try.underlying59 sz3 rfl (ha2) rfl (by omega) (by omega) rfl) ?_
       refine s_val (r_load1 (v := .int _ _) Try.underlying3 rfl rfl (((M.fact (j := 0) rfl).ds.each y (List.mem_of_getElem? hy)).cell0 ha2 hz rfl)) ?_
       refine s_val (r_assign (v := .int _ _) rfl) ?_
       refine s_nil (e_then (c_region ?_))
       refine s_val (r_move (v := .func _ _ _) rfl) ?_
       refine s_val (r_move (v := .int _ _) rfl) ?_
       refine s_call1 1 (cv24 rfl rfl) rfl (bytes2L _ b3 _ _ hB (by omega)) M (fun _ h => nomatch h) ?_
       rintro v g w ⟨rfl, hB, hlk6⟩ M
       first | replace M := M.nf (L' := [_, _, _]) rfl | skip
       refine s_nil (e_blk (e_then (c_region ?_)))
       first | (refine s_val (r_add rfl rfl (w64 (by omega) (by omega))) ?_) | (refine s_val (r_add rfl rfl rfl) ?_)
       refine s_val (r_move (v := .int _ _) rfl) ?_
       refine s_nil (e_then ?_)
       exact loop_end (m2 - 1) (k2 + 1, _, _) (by repeat (first | exact ag_refl | exact ag_mask rfl ag_refl | refine ag_upd rfl ?_ | refine ag_mask rfl ?_)) ⟨i64succ k2, trivial⟩ (by omega) ⟨by omega, by rw [flat_take hz, hl3]; simp only [List.append_assoc], by omega, hB, (M.picks [0, 1, 2] rfl rfl).useG (by simp)⟩
      ·
       rw [take_doneI (by omega)] at hl3
       refine c_exit (e_then_exit (e_then_exit (e_blk_here (e_blk (e_then (c_region ?_))))))
       first | (refine s_val (r_add rfl rfl (w64 (by omega) (by omega))) ?_) | (refine s_val (r_add rfl rfl rfl) ?_)
       refine s_val (r_move (v := .int _ _) rfl) ?_
       refine s_nil (e_then ?_)
       exact loop_end (m - 1) (k + 1, _, _) (by repeat (first | exact ag_refl | exact ag_mask rfl ag_refl | refine ag_upd rfl ?_ | refine ag_mask rfl ?_)) ⟨i64succ k, trivial⟩ (by omega) ⟨by omega, by rw [flat_take hy, hdw, hl3, hl2]; simp only [List.append_assoc], by omega, hB, (M.picks [0, 1] rfl rfl).useG (by simp)⟩
    ·
     rw [take_doneI (by omega)] at hl2
     have hfin : l2 = scrB x.scr := by rw [hl2, hl1, hl, scrB_eq, ← hHH]; simp [SV.scr, List.flatMap_map]
     subst hfin
     obtain ⟨s, n, sg', rfl, hO, rfl⟩ := hB
     replace M := M.flat (L' := [[(b1, C x.cells 38)], [(b3, C [s.v _] 63)], sg']) rfl
     --nL=3 --slot 3=own(1,0,0)
     refine c_exit (e_then_exit (e_then_exit (e_blk_here (e_then (c_seq (c_region ?_))))))
     refine a_load1 (v := .slice _ _ _) Try.underlying63 rfl M rfl (k := 1) (j := 0) rfl rfl rfl ?_
     refine s_val (r_assign (v := .slice _ _ _) rfl) ?_
     refine s_nil (e_then (c_ret ?_))
     refine ret_run (res_1 (v := .slice _ _ _) rfl rfl) ?_
     exact ⟨_, (s, sg'), rfl, ⟨rfl, hO⟩, (M.picks [2] rfl rfl).useG (by simp)⟩
end Go.Proofs.Ytcjnniigonaapaa
