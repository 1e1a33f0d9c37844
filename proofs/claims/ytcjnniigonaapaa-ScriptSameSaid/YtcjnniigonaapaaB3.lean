/-
  WALKS B3: writers; a script put.
-/
import Derived.Test.YtcjnniigonaapaaB2
namespace Go.Proofs.Ytcjnniigonaapaa
open Go Go.Az Go.Proofs
set_option maxHeartbeats 1000000
abbrev WrAt (b : Nat) (l : List Int) (sg : Seg) : Prop := BufAt 97 5 b l sg

theorem wrByte (c : Int) (b : Nat) (l : List Int) (sg : Seg) (hB : WrAt b l sg) (hl : l.length ≤ 200000000) (ks : List Nat) (w0 : World) (M : St ks (keysOf [sg]) w0 w0 [sg] []) :
    Calls Try.prog 48 #[.pointer (some ⟨b, 0, none⟩), u8 c] w0 fun e w' => ∃ v, ∃ g : Seg, e = .returned v ∧ (v = .tuple #[] ∧ WrAt b (l ++ [c]) g ∧ (l ++ [c]).length ≤ l.length + 1) ∧ St ks (keysOf [sg]) w0 w' [g] [] := by
  obtain ⟨s, n, sg', hn, hO, rfl⟩ := hB
  replace M := M.flat (L' := [[(b, C [s.v n] 97)], sg']) rfl
  refine calls_of 16 Try.func48 rfl rfl rfl ?_
  refine c_seq (c_region ?_)
  refine s_val (r_move (v := .pointer _) rfl) ?_
  refine s_val (r_neqnil Try.underlying95 rfl rfl) ?_
  refine s_nil (e_then ?_)
  refine c_yes rfl (by decide) ?_
  refine c_region ?_
  refine s_val (r_move (v := .pointer _) rfl) ?_
  refine s_val (r_move (v := .pointer _) rfl) ?_
  refine s_val (r_nil rfl) ?_
  refine s_val (r_fieldAddr (o' := 0) fb97_0 (by decide) rfl rfl) ?_
  refine a_load1 (v := .slice _ _ _) Try.underlying63 rfl M rfl (k := 0) (j := 0) rfl rfl rfl ?_
  refine s_val (r_move (v := .int _ _) rfl) ?_
  refine a_buildSliceS (cs := [_]) Try.underlying63 sz5 zr5 rfl rfl (by decide) rfl (ps := [(0, .int _ _)]) (qs := [(0, [_])]) rfl ⟨rfl, rfl, rfl, trivial⟩ rfl M ?_
  intro b12 w M
  first | replace M := M.nf (L' := [_, _, [(_, _)]]) rfl | skip
  refine a_append 1 Try.underlying63 sz5 by5 zr5 rfl rfl M rfl hO rfl rfl (SlF.src Try.underlying63 (slF_lit M (k := 2) (j := 0) rfl rfl rfl rfl) rfl) (by simp only [maxLen]; omega) (by omega) ?_
  intro s1 sg1 w hO1 M
  first | replace M := M.nf (L' := [_, _, [(_, _)]]) rfl | skip
  refine s_val (r_nil rfl) ?_
  refine s_val (r_fieldAddr (o' := 0) fb97_0 (by decide) rfl rfl) ?_
  refine a_store (v := .slice _ _ _) sz63 M rfl rfl rfl (k := 0) (j := 0) rfl rfl rfl rfl rfl ?_
  intro w M
  first | replace M := M.nf (L' := [_, _, [(_, _)]]) rfl | skip
  refine s_nil ?_
  refine end_run (res_none rfl) ?_
  exact ⟨_, (b, C [s1.v _] 97) :: sg1, rfl, ⟨rfl, bufOf hO1 (by rw [bv_append]; rfl), by simp⟩, ((M.picks [0, 1] rfl rfl).useG (by simp)).flat rfl⟩

theorem wrCount (n : Int) (h0 : 0 ≤ n) (h1 : n ≤ 9223372036854775807) (b : Nat) (l : List Int) (sg : Seg) (hB : WrAt b l sg) (hl : l.length ≤ 100000000) (ks : List Nat) (w0 : World) (M : St ks (keysOf [sg]) w0 w0 [sg] []) :
    Calls Try.prog 29 #[.pointer (some ⟨b, 0, none⟩), i64 n] w0 fun e w' => ∃ v, ∃ g : Seg, e = .returned v ∧ (v = .tuple #[] ∧ WrAt b (l ++ cntI n) g ∧ (l ++ cntI n).length ≤ l.length + 10) ∧ St ks (keysOf [sg]) w0 w' [g] [] := by
  obtain ⟨q, rfl⟩ := Int.eq_ofNat_of_zero_le h0
  have hcq : cntI (q : Int) = cnt q := by unfold cntI; congr 1; omega
  have hcl : (l ++ cnt q).length ≤ l.length + 10 := by rw [List.length_append]; have := cnt_len10 (n := q) (by omega); omega
  rw [hcq]
  skip
  refine calls_of 19 Try.func29 rfl rfl rfl ?_
  refine c_seq (c_seq (c_region ?_))
  refine s_val (r_move (v := .int _ _) rfl) ?_
  refine s_val (r_max2 rfl rfl) ?_
  refine s_val (r_assign (v := .int _ _) rfl) ?_
  refine s_nil (e_then (c_block ?_))
  refine c_loopG [1, 6, 7, 8, 9, 10, 11, 12, 13, 14] (Γ := Nat × List Int × Seg) (vals := fun (k, l', sg') => [(1, i64 k)]) (I := fun m (k, l', sg') w => m = k ∧ k ≤ q ∧ l' ++ cnt k = l ++ cnt q ∧ WrAt b l' sg' ∧ St ks (keysOf [sg]) w0 w [sg'] []) q (q, l, sg) ⟨congrArg i64 (by omega), trivial⟩ ⟨rfl, Nat.le_refl _, rfl, hB, M⟩ ?_
  rintro m ⟨k, l1, sg1⟩ e w ⟨rfl, hkq, he, hB, M⟩
  have hll := congrArg List.length he
  simp only [List.length_append] at hll hcl
  refine c_seq (c_seq (c_region ?_))
  refine s_val (r_move (v := .int _ _) rfl) ?_
  refine s_val (r_geq rfl rfl) ?_
  refine s_nil (e_then ?_)
  refine c_if rfl (fun h7 => ?_) (fun h7 => ?_)
  ·
   rw [cnt_ge (by omega)] at he
   refine c_skip (e_then (c_seq (c_block (c_region ?_))))
   refine s_val (r_move (v := .pointer _) rfl) ?_
   refine s_val (r_move (v := .int _ _) rfl) ?_
   first | (refine s_val (r_conv Try.underlying3 Try.underlying5 rfl (w8 (by omega) (by omega))) ?_) | (refine s_val (r_conv Try.underlying3 Try.underlying5 rfl wr8) ?_)
   refine s_val (r_or rfl rfl or128) ?_
   refine s_call1 0 (cl48 rfl) rfl (wrByte _ b _ _ hB (by omega)) M (fun _ h => nomatch h) ?_
   rintro v g w ⟨rfl, hB, hlk⟩ M
   first | replace M := M.nf (L' := [_]) rfl | skip
   refine s_nil (e_blk (e_then (c_region ?_)))
   refine s_val (r_move (v := .int _ _) rfl) ?_
   refine s_val (r_shr rfl rfl (by decide) (sr (c := 128) (by decide) (by decide))) ?_
   refine s_val (r_assign (v := .int _ _) rfl) ?_
   refine s_nil (e_then ?_)
   have hbe : (m : Int) % 256 % 128 + 128 = ((m % 128 + 128 : Nat) : Int) := by omega
   rw [hbe] at hB
   exact loop_end (m / 128) (m / 128, _, _) (by repeat (first | exact ag_refl | exact ag_mask rfl ag_refl | refine ag_upd rfl ?_ | refine ag_mask rfl ?_)) ⟨congrArg i64 (by omega), trivial⟩ (by omega) ⟨rfl, by omega, by rw [← he]; simp, hB, (M.picks [0] rfl rfl).useG (by simp)⟩
  ·
   rw [cnt_lt (by omega)] at he
   refine c_exit (e_then_exit (e_then_exit (e_blk_here (e_then (c_region ?_)))))
   refine s_val (r_move (v := .pointer _) rfl) ?_
   refine s_val (r_move (v := .int _ _) rfl) ?_
   first | (refine s_val (r_conv Try.underlying3 Try.underlying5 rfl (w8 (by omega) (by omega))) ?_) | (refine s_val (r_conv Try.underlying3 Try.underlying5 rfl wr8) ?_)
   refine s_call1 0 (cl48 rfl) rfl (wrByte _ b _ _ hB (by omega)) M (fun _ h => nomatch h) ?_
   rintro v g w ⟨rfl, hB, hlk⟩ M
   first | replace M := M.nf (L' := [_]) rfl | skip
   refine s_nil ?_
   refine end_run (res_none rfl) ?_
   rw [he] at hB
   exact ⟨_, _, rfl, ⟨rfl, hB, by rw [List.length_append]; exact hcl⟩, (M.picks [0] rfl rfl).useG (by simp)⟩
theorem wrCountN (n : Nat) (h1 : n ≤ 1000000) (b : Nat) (l : List Int) (sg : Seg) (hB : WrAt b l sg) (hl : l.length ≤ 100000000) (ks : List Nat) (w0 : World) (M : St ks (keysOf [sg]) w0 w0 [sg] []) :
    Calls Try.prog 29 #[.pointer (some ⟨b, 0, none⟩), i64 n] w0 fun e w' => ∃ v, ∃ g : Seg, e = .returned v ∧ (v = .tuple #[] ∧ WrAt b (l ++ cnt n) g ∧ (l ++ cnt n).length ≤ l.length + 10) ∧ St ks (keysOf [sg]) w0 w' [g] [] := by
  rw [← cntI_nat n h1]; exact wrCount n (by omega) (by omega) b l sg hB hl ks w0 M

theorem wrInt (n : Int) (h1 : -9223372036854775808 ≤ n) (h2 : n ≤ 9223372036854775807) (b : Nat) (l : List Int) (sg : Seg) (hB : WrAt b l sg) (hl : l.length ≤ 100000000) (ks : List Nat) (w0 : World) (M : St ks (keysOf [sg]) w0 w0 [sg] []) :
    Calls Try.prog 49 #[.pointer (some ⟨b, 0, none⟩), i64 n] w0 fun e w' => ∃ v, ∃ g : Seg, e = .returned v ∧ (v = .tuple #[] ∧ WrAt b (l ++ intB n) g ∧ (l ++ intB n).length ≤ l.length + 10) ∧ St ks (keysOf [sg]) w0 w' [g] [] := by
  have hz := zig_lt h1 h2
  obtain ⟨q, hq⟩ := Int.eq_ofNat_of_zero_le hz.1
  have hiq : intB n = cnt q := by
    show cnt (zig n).toNat = cnt q
    rw [hq]; rfl
  have hcl : (l ++ cnt q).length ≤ l.length + 10 := by rw [List.length_append]; have := cnt_len10 (n := q) (by omega); omega
  rw [hiq]
  skip
  refine calls_of 25 Try.func49 rfl rfl rfl ?_
  refine c_seq (c_region ?_)
  refine s_val (r_move (v := .int _ _) rfl) ?_
  first | (refine s_val (r_conv Try.underlying3 Try.underlying90 rfl (wu64 (by omega) (by omega))) ?_) | (refine s_val (r_conv Try.underlying3 Try.underlying90 rfl wrU64) ?_)
  refine s_val (r_shl (n := n % 18446744073709551616 * 2 % 18446744073709551616) rfl rfl (by decide) (by rw [wrU64]; rfl)) ?_
  refine s_val (r_move (v := .int _ _) rfl) ?_
  refine s_val (r_shr rfl rfl (by decide) (sr (c := 9223372036854775808) (by decide) (by decide))) ?_
  first | (refine s_val (r_conv Try.underlying3 Try.underlying90 rfl (wu64 (by omega) (by omega))) ?_) | (refine s_val (r_conv Try.underlying3 Try.underlying90 rfl wrU64) ?_)
  refine s_val (r_xor (n := (q : Int)) rfl rfl (by rw [← hq]; exact zigxor h1 h2 rfl rfl)) ?_
  refine s_val (r_assign (v := .int _ _) rfl) ?_
  refine s_nil (e_then (c_seq (c_block ?_)))
  refine c_loopG [4, 12, 13, 14, 15, 16, 17, 18, 19, 20] (Γ := Nat × List Int × Seg) (vals := fun (k, l', sg') => [(4, u64 k)]) (I := fun m (k, l', sg') w => m = k ∧ k ≤ q ∧ l' ++ cnt k = l ++ cnt q ∧ WrAt b l' sg' ∧ St ks (keysOf [sg]) w0 w [sg'] []) q (q, l, sg) ⟨rfl, trivial⟩ ⟨rfl, Nat.le_refl _, rfl, hB, M⟩ ?_
  rintro m ⟨k, l1, sg1⟩ e w ⟨rfl, hkq, he, hB, M⟩
  have hll := congrArg List.length he
  simp only [List.length_append] at hll hcl
  refine c_seq (c_seq (c_region ?_))
  refine s_val (r_move (v := .int _ _) rfl) ?_
  refine s_val (r_geq rfl rfl) ?_
  refine s_nil (e_then ?_)
  refine c_if rfl (fun h13 => ?_) (fun h13 => ?_)
  ·
   rw [cnt_ge (by omega)] at he
   refine c_skip (e_then (c_seq (c_block (c_region ?_))))
   refine s_val (r_move (v := .pointer _) rfl) ?_
   refine s_val (r_move (v := .int _ _) rfl) ?_
   first | (refine s_val (r_conv Try.underlying90 Try.underlying5 rfl (w8 (by omega) (by omega))) ?_) | (refine s_val (r_conv Try.underlying90 Try.underlying5 rfl wr8) ?_)
   refine s_val (r_or rfl rfl or128) ?_
   refine s_call1 0 (cl48 rfl) rfl (wrByte _ b _ _ hB (by omega)) M (fun _ h => nomatch h) ?_
   rintro v g w ⟨rfl, hB, hlk⟩ M
   first | replace M := M.nf (L' := [_]) rfl | skip
   refine s_nil (e_blk (e_then (c_region ?_)))
   refine s_val (r_move (v := .int _ _) rfl) ?_
   refine s_val (r_shr rfl rfl (by decide) (sr (c := 128) (by decide) (by decide))) ?_
   refine s_val (r_assign (v := .int _ _) rfl) ?_
   refine s_nil (e_then ?_)
   have hbe : (m : Int) % 256 % 128 + 128 = ((m % 128 + 128 : Nat) : Int) := by omega
   rw [hbe] at hB
   exact loop_end (m / 128) (m / 128, _, _) (by repeat (first | exact ag_refl | exact ag_mask rfl ag_refl | refine ag_upd rfl ?_ | refine ag_mask rfl ?_)) ⟨congrArg u64 (by omega), trivial⟩ (by omega) ⟨rfl, by omega, by rw [← he]; simp, hB, (M.picks [0] rfl rfl).useG (by simp)⟩
  ·
   rw [cnt_lt (by omega)] at he
   refine c_exit (e_then_exit (e_then_exit (e_blk_here (e_then (c_region ?_)))))
   refine s_val (r_move (v := .pointer _) rfl) ?_
   refine s_val (r_move (v := .int _ _) rfl) ?_
   first | (refine s_val (r_conv Try.underlying90 Try.underlying5 rfl (w8 (by omega) (by omega))) ?_) | (refine s_val (r_conv Try.underlying90 Try.underlying5 rfl wr8) ?_)
   refine s_call1 0 (cl48 rfl) rfl (wrByte _ b _ _ hB (by omega)) M (fun _ h => nomatch h) ?_
   rintro v g w ⟨rfl, hB, hlk⟩ M
   first | replace M := M.nf (L' := [_]) rfl | skip
   refine s_nil ?_
   refine end_run (res_none rfl) ?_
   rw [he] at hB
   exact ⟨_, _, rfl, ⟨rfl, hB, by rw [List.length_append]; exact hcl⟩, (M.picks [0] rfl rfl).useG (by simp)⟩

theorem wrLen (b : Nat) (l : List Int) (sg : Seg) (hB : WrAt b l sg) (ks : List Nat) (w0 : World) (M : St ks (keysOf [sg]) w0 w0 [sg] []) :
    Calls Try.prog 33 #[.pointer (some ⟨b, 0, none⟩)] w0 fun e w' => ∃ v, ∃ g : Seg, e = .returned v ∧ (v = i64 l.length ∧ WrAt b l g) ∧ St ks (keysOf [sg]) w0 w' [g] [] := by
  obtain ⟨s, n, sg', rfl, hO, rfl⟩ := hB
  replace M := M.flat (L' := [[(b, C [s.v l.length] 97)], sg']) rfl
  refine calls_of 10 Try.func33 rfl rfl rfl ?_
  refine c_seq (c_region ?_)
  refine s_val (r_assign (v := .int _ _) rfl) ?_
  refine s_nil (e_then (c_seq (c_seq (c_region ?_))))
  refine s_val (r_move (v := .pointer _) rfl) ?_
  refine s_val (r_eqlnil Try.underlying95 rfl rfl) ?_
  refine s_nil (e_then ?_)
  refine c_no rfl (by decide) ?_
  refine c_skip (e_then (c_seq (c_region ?_)))
  refine s_val (r_move (v := .pointer _) rfl) ?_
  refine s_val (r_nil rfl) ?_
  refine s_val (r_fieldAddr (o' := 0) fb97_0 (by decide) rfl rfl) ?_
  refine a_load1 (v := .slice _ _ _) Try.underlying63 rfl M rfl (k := 0) (j := 0) rfl rfl rfl ?_
  refine s_val (r_len Try.underlying63 rfl) ?_
  refine s_val (r_assign (v := .int _ _) rfl) ?_
  refine s_nil (e_then (c_ret ?_))
  refine ret_run (res_1 (v := .int _ _) rfl rfl) ?_
  exact ⟨_, _, rfl, ⟨rfl, s, _, sg', rfl, hO, rfl⟩, M.flat rfl⟩

theorem numbersOf (v : V4) (hv : v.wf) (b : Nat) (l : List Int) (sg : Seg) (hB : WrAt b l sg) (hl : l.length ≤ 90000000) (ks : List Nat) (w0 : World) (M : St ks (keysOf [sg]) w0 w0 [sg] []) :
    Calls Try.prog 30 #[.pointer (some ⟨b, 0, none⟩), .agg (v4 v).toArray] w0 fun e w' => ∃ v', ∃ g : Seg, e = .returned v' ∧ (v' = .tuple #[] ∧ WrAt b (l ++ numB v) g ∧ (l ++ numB v).length ≤ l.length + 40) ∧ St ks (keysOf [sg]) w0 w' [g] [] := by
  obtain ⟨⟨a1, a2⟩, ⟨b1, b2⟩, ⟨c1, c2⟩, ⟨d1, d2⟩⟩ := hv
  skip
  refine calls_of 14 Try.func30 rfl rfl rfl ?_
  refine c_seq (c_region ?_)
  refine a_box (v := .agg _) rfl cells_agg M ?_
  intro b3 w M
  first | replace M := M.nf (L' := [_, [(_, _)]]) rfl | skip
  refine s_nil (e_then (c_seq (c_region ?_)))
  refine a_loadA Try.underlying31 rfl sz31 M rfl (k := 1) (j := 0) rfl rfl rfl ?_
  refine s_val (r_move (v := .int _ _) rfl) ?_
  refine s_nil (e_then (c_block ?_))
  refine c_rounds 5 ?_
  refine c_round (c_seq (c_region ?_))
  refine s_val (r_lss rfl rfl) ?_
  refine s_nil (e_then (c_seq ?_))
  refine c_yes rfl (by decide) ?_
  refine c_skip (e_then (c_seq (c_block (c_seq (c_region ?_)))))
  refine s_val (r_index1 Try.underlying31 Try.underlying3 rfl sz3 rfl rfl (by omega) (by omega) rfl) ?_
  refine s_val (r_assign (v := .int _ _) rfl) ?_
  refine s_nil (e_then (c_region ?_))
  refine s_val (r_move (v := .pointer _) rfl) ?_
  refine s_val (r_move (v := .int _ _) rfl) ?_
  refine s_call1 0 (cl49 rfl) rfl (wrInt _ (by assumption) (by assumption) b _ _ hB (by omega)) M (fun _ h => nomatch h) ?_
  rintro v' g w ⟨rfl, hB, hlk⟩ M
  first | replace M := M.nf (L' := [_, [(_, _)]]) rfl | skip
  refine s_nil (e_blk (e_then (c_region ?_)))
  refine s_val (r_add (n := 1) rfl rfl (by decide)) ?_
  refine s_val (r_move (v := .int _ _) rfl) ?_
  refine s_nil (e_then (c_round (c_seq (c_region ?_))))
  refine s_val (r_lss rfl rfl) ?_
  refine s_nil (e_then (c_seq ?_))
  refine c_yes rfl (by decide) ?_
  refine c_skip (e_then (c_seq (c_block (c_seq (c_region ?_)))))
  refine s_val (r_index1 Try.underlying31 Try.underlying3 rfl sz3 rfl rfl (by omega) (by omega) rfl) ?_
  refine s_val (r_assign (v := .int _ _) rfl) ?_
  refine s_nil (e_then (c_region ?_))
  refine s_val (r_move (v := .pointer _) rfl) ?_
  refine s_val (r_move (v := .int _ _) rfl) ?_
  refine s_call1 0 (cl49 rfl) rfl (wrInt _ (by assumption) (by assumption) b _ _ hB (by omega)) M (fun _ h => nomatch h) ?_
  rintro v' g w ⟨rfl, hB, hlk⟩ M
  first | replace M := M.nf (L' := [_, [(_, _)]]) rfl | skip
  refine s_nil (e_blk (e_then (c_region ?_)))
  refine s_val (r_add (n := 2) rfl rfl (by decide)) ?_
  refine s_val (r_move (v := .int _ _) rfl) ?_
  refine s_nil (e_then (c_round (c_seq (c_region ?_))))
  refine s_val (r_lss rfl rfl) ?_
  refine s_nil (e_then (c_seq ?_))
  refine c_yes rfl (by decide) ?_
  refine c_skip (e_then (c_seq (c_block (c_seq (c_region ?_)))))
  refine s_val (r_index1 Try.underlying31 Try.underlying3 rfl sz3 rfl rfl (by omega) (by omega) rfl) ?_
  refine s_val (r_assign (v := .int _ _) rfl) ?_
  refine s_nil (e_then (c_region ?_))
  refine s_val (r_move (v := .pointer _) rfl) ?_
  refine s_val (r_move (v := .int _ _) rfl) ?_
  refine s_call1 0 (cl49 rfl) rfl (wrInt _ (by assumption) (by assumption) b _ _ hB (by omega)) M (fun _ h => nomatch h) ?_
  rintro v' g w ⟨rfl, hB, hlk⟩ M
  first | replace M := M.nf (L' := [_, [(_, _)]]) rfl | skip
  refine s_nil (e_blk (e_then (c_region ?_)))
  refine s_val (r_add (n := 3) rfl rfl (by decide)) ?_
  refine s_val (r_move (v := .int _ _) rfl) ?_
  refine s_nil (e_then (c_round (c_seq (c_region ?_))))
  refine s_val (r_lss rfl rfl) ?_
  refine s_nil (e_then (c_seq ?_))
  refine c_yes rfl (by decide) ?_
  refine c_skip (e_then (c_seq (c_block (c_seq (c_region ?_)))))
  refine s_val (r_index1 Try.underlying31 Try.underlying3 rfl sz3 rfl rfl (by omega) (by omega) rfl) ?_
  refine s_val (r_assign (v := .int _ _) rfl) ?_
  refine s_nil (e_then (c_region ?_))
  refine s_val (r_move (v := .pointer _) rfl) ?_
  refine s_val (r_move (v := .int _ _) rfl) ?_
  refine s_call1 0 (cl49 rfl) rfl (wrInt _ (by assumption) (by assumption) b _ _ hB (by omega)) M (fun _ h => nomatch h) ?_
  rintro v' g w ⟨rfl, hB, hlk⟩ M
  first | replace M := M.nf (L' := [_, [(_, _)]]) rfl | skip
  refine s_nil (e_blk (e_then (c_region ?_)))
  refine s_val (r_add (n := 4) rfl rfl (by decide)) ?_
  refine s_val (r_move (v := .int _ _) rfl) ?_
  refine s_nil (e_then (c_round (c_seq (c_region ?_))))
  refine s_val (r_lss rfl rfl) ?_
  refine s_nil (e_then (c_seq ?_))
  refine c_no rfl (by decide) ?_
  refine c_exit (e_then_exit (e_then_exit (e_blk_here ?_)))
  refine end_run (res_none rfl) ?_
  have e : l ++ numB v = l ++ intB v.a ++ intB v.b ++ intB v.c ++ intB v.d := by simp [numB]
  exact ⟨_, g, rfl, ⟨rfl, by rw [e]; exact hB, by rw [e]; omega⟩, (M.picks [0] rfl rfl).useG (by simp)⟩

theorem progPut (s : Sl) (p : Prog) (hp : p.wf) (hpl : p.length ≤ 1000) (n : Nat) (hn : n = p.length) (b : Nat) (l : List Int) (sg : Seg) (hB : WrAt b l sg) (hl : l.length ≤ 80000000) (ks : List Nat) (w0 : World) (M : St ks (keysOf [sg]) w0 w0 [sg] [PrF s p]) :
    Calls Try.prog 31 #[s.v n, .pointer (some ⟨b, 0, none⟩)] w0 fun e w' => ∃ v, ∃ g : Seg, e = .returned v ∧ (v = .tuple #[] ∧ WrAt b (l ++ progB p) g ∧ (l ++ progB p).length ≤ l.length + 14010) ∧ St ks (keysOf [sg]) w0 w' [g] [] := by
  subst hn
  skip
  refine calls_of 33 Try.func31 rfl rfl rfl ?_
  refine c_seq (c_region ?_)
  refine s_val (r_move (v := .pointer _) rfl) ?_
  refine s_val (r_move (v := .slice _ _ _) rfl) ?_
  refine s_val (r_len Try.underlying46 rfl) ?_
  refine s_call1 0 (cl29 rfl) rfl (wrCountN _ (by omega) b _ _ hB (by omega)) M (fun _ h => nomatch h) ?_
  rintro v g w ⟨rfl, hB, hlk0⟩ M
  first | replace M := M.nf (L' := [_]) rfl | skip
  refine s_nil (e_then (c_seq (c_region ?_)))
  replace M := M.useG (G' := [PrF s p]) (by simp)
  refine s_val (r_move (v := .slice _ _ _) rfl) ?_
  refine s_val (r_len Try.underlying46 rfl) ?_
  refine s_val (r_move (v := .int _ _) rfl) ?_
  refine s_nil (e_then (c_block ?_))
  refine c_loopG [5, 12, 13, 14, 15, 16, 17, 18, 19, 20, 21, 22, 23, 24, 25, 26, 27, 28, 29, 30, 31, 32] (Γ := Nat × List Int × Seg) (vals := fun (k, l, sg) => [(12, i64 k)]) (I := fun m3 (k3, l', sg3) w => m3 + k3 = p.length ∧ l' = l ++ cnt p.length ++ (p.take k3).flatMap insB ∧ l'.length ≤ l.length + 10 + k3 * 14 ∧ WrAt b l' sg3 ∧ St ks (keysOf [sg]) w0 w [sg3] [PrF s p]) p.length (0, _, _) ⟨rfl, trivial⟩ ⟨rfl, by simp, by omega, hB, M⟩ ?_
  rintro m3 ⟨k3, l3, sg3⟩ e3 w ⟨hk3, hl3, hlk3, hB, M⟩
  refine c_seq (c_region ?_)
  refine s_val (r_lss rfl rfl) ?_
  refine s_nil (e_then (c_seq ?_))
  refine c_if rfl (fun h13 => ?_) (fun h13 => ?_)
  ·
   obtain ⟨i, hi⟩ : ∃ i, p[k3]? = some i := ⟨_, List.getElem?_eq_getElem (by omega)⟩
   obtain ⟨bk, ok, ha3⟩ := (M.fact (j := 0) rfl).addr (by omega)
   have hiw := hp i (List.mem_of_getElem? hi)
   have hil := insB_len hiw
   have hi14 : (l3 ++ insB i).length = l3.length + (insB i).length := List.length_append
   obtain ⟨_, _, _, _, hm1, hm2⟩ := hiw
   refine c_skip (e_then (c_seq (c_block (c_seq (c_region ?_)))))
   refine s_val (r_indexAddrS Try.underlying46 sz44 rfl (ha3) rfl (by omega) (by omega) rfl) ?_
   refine s_val (r_loadN (cs := ins i) Try.underlying44 rfl sz44 rfl rfl (fun j v hv => (M.fact (j := 0) rfl).cell ha3 hi hv)) ?_
   refine a_alloc zr44 cells_agg M ?_
   intro b5 w M
   first | replace M := M.nf (L' := [_, [(_, _)]]) rfl | skip
   refine a_storeS (v := .agg _) (cs' := [_, _, _, _, _]) sz44 M rfl rfl cells_agg (k := 1) (j := 0) rfl rfl rfl rfl rfl rfl ?_
   intro w M
   first | replace M := M.nf (L' := [_, [(_, _)]]) rfl | skip
   refine s_nil (e_then (c_seq (c_region ?_)))
   refine s_val (r_move (v := .pointer _) rfl) ?_
   refine s_val (r_fieldAddr (o' := 0) fb44_0 (by decide) rfl rfl) ?_
   refine a_load1 (v := .int _ _) Try.underlying42 rfl M rfl (k := 1) (j := 0) rfl rfl rfl ?_
   refine s_val (r_fieldAddr (o' := 1) fb44_1 (by decide) rfl rfl) ?_
   refine a_load1 (v := .int _ _) Try.underlying5 rfl M rfl (k := 1) (j := 0) rfl rfl rfl ?_
   refine s_val (r_fieldAddr (o' := 2) fb44_2 (by decide) rfl rfl) ?_
   refine a_load1 (v := .int _ _) Try.underlying5 rfl M rfl (k := 1) (j := 0) rfl rfl rfl ?_
   refine s_val (r_fieldAddr (o' := 3) fb44_3 (by decide) rfl rfl) ?_
   refine a_load1 (v := .int _ _) Try.underlying5 rfl M rfl (k := 1) (j := 0) rfl rfl rfl ?_
   refine a_buildSliceS (cs := [_, _, _, _]) Try.underlying63 sz5 zr5 rfl rfl (by decide) rfl (ps := [(0, .int _ _), (1, .int _ _), (2, .int _ _), (3, .int _ _)]) (qs := [(0, [_]), (1, [_]), (2, [_]), (3, [_])]) rfl ⟨rfl, rfl, rfl, rfl, rfl, rfl, rfl, rfl, rfl, rfl, rfl, rfl, trivial⟩ rfl M ?_
   intro b25 w M
   first | replace M := M.nf (L' := [_, [(_, _)], [(_, _)]]) rfl | skip
   replace M := M.frz (k := 2) rfl (SlF ⟨some ⟨b25, 0, none⟩, 4⟩ 4 1 (bv [i.op, i.dst, i.a, i.b])) (fun w' h => slF_new h rfl rfl)
   refine s_call1 0 (cl28 rfl) rfl (wrPut b _ _ ⟨some ⟨b25, 0, none⟩, 4⟩ 4 [i.op, i.dst, i.a, i.b] hB (by omega)) M (by simp) ?_
   rintro v g w ⟨rfl, hB⟩ M
   first | replace M := M.nf (L' := [_, [(_, _)], [(_, _)]]) rfl | skip
   refine s_nil (e_then (c_region ?_))
   have hl4 : (l3 ++ [i.op, i.dst, i.a, i.b]).length = l3.length + 4 := by simp
   refine s_val (r_move (v := .pointer _) rfl) ?_
   refine s_val (r_fieldAddr (o' := 4) fb44_4 (by decide) rfl rfl) ?_
   refine a_load1 (v := .int _ _) Try.underlying22 rfl M rfl (k := 1) (j := 0) rfl rfl rfl ?_
   first | (refine s_val (r_conv Try.underlying22 Try.underlying3 rfl (w64 (by omega) (by omega))) ?_) | (refine s_val (r_conv Try.underlying22 Try.underlying3 rfl rfl) ?_)
   refine s_call1 0 (cl49 rfl) rfl (wrInt _ (by omega) (by omega) b _ _ hB (by omega)) M (fun _ h => nomatch h) ?_
   rintro v g w ⟨rfl, hB, hlk⟩ M
   first | replace M := M.nf (L' := [_, [(_, _)], [(_, _)]]) rfl | skip
   refine s_nil (e_blk (e_then (c_region ?_)))
   first | (refine s_val (r_add rfl rfl (w64 (by omega) (by omega))) ?_) | (refine s_val (r_add rfl rfl rfl) ?_)
   refine s_val (r_move (v := .int _ _) rfl) ?_
   refine s_nil (e_then ?_)
   have e : l3 ++ [i.op, i.dst, i.a, i.b] ++ intB i.imm = l3 ++ insB i := by simp [insB]
   rw [e] at hB
   exact loop_end (m3 - 1) (k3 + 1, l3 ++ insB i, _) (by repeat (first | exact ag_refl | exact ag_mask rfl ag_refl | refine ag_upd rfl ?_ | refine ag_mask rfl ?_)) ⟨i64succ k3, trivial⟩ (by omega) ⟨by omega, by rw [flat_take hi, hl3, List.append_assoc], by omega, hB, (M.picks [0] rfl rfl).useG (by simp)⟩
  ·
   rw [take_doneI (by omega)] at hl3
   refine c_exit (e_then_exit (e_then_exit (e_blk_here ?_)))
   refine end_run (res_none rfl) ?_
   have e : l3 = l ++ progB p := by rw [hl3]; simp [progB]
   subst e
   exact ⟨_, _, rfl, ⟨rfl, hB, by omega⟩, M.useG (by simp)⟩
end Go.Proofs.Ytcjnniigonaapaa
