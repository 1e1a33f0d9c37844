/-
  WALKS B1: readers.
-/
import Derived.Test.YtcjnniigonaapaaA2
import Derived.Test.YtcjnniigonaapaaG2
import Derived.Test.YtcjnniigonaapaaD3
namespace Go.Az
open Go
/-- a reader as it lies: its cells, and its bytes, which are its own -/
def RdAt (T E b : Nat) (r : Rd) (sg : Seg) : Prop := r.ok ∧ ∃ s sg', Own E 1 s r.b.length (bv r.b) sg' ∧ sg = (b, C [s.v r.b.length, .int .i64 r.at_, .int .i64 r.err] T) :: sg'
end Go.Az
namespace Go.Proofs.Ytcjnniigonaapaa
open Go Go.Az Go.Proofs
set_option maxHeartbeats 1000000
abbrev RdAt' (b : Nat) (r : Rd) (sg : Seg) : Prop := RdAt 119 5 b r sg

theorem rdErr (b : Nat) (r : Rd) (sg : Seg) (hB : RdAt' b r sg) (ks : List Nat) (w0 : World) (M : St ks (keysOf [sg]) w0 w0 [sg] []) :
    Calls Try.prog 54 #[.pointer (some ⟨b, 0, none⟩)] w0 fun e w' => ∃ v, ∃ g : Seg, e = .returned v ∧ (v = i64 r.err ∧ RdAt' b r g) ∧ St ks (keysOf [sg]) w0 w' [g] [] := by
  obtain ⟨hok, s, sg', hO, rfl⟩ := hB
  replace M := M.flat (L' := [[(b, C [s.v r.b.length, i64 r.at_, i64 r.err] 119)], sg']) rfl
  refine calls_of 9 Try.func54 rfl rfl rfl ?_
  refine c_seq (c_region ?_)
  refine s_val (r_assign (v := .int _ _) rfl) ?_
  refine s_nil (e_then (c_seq (c_seq (c_region ?_))))
  refine s_val (r_move (v := .pointer _) rfl) ?_
  refine s_val (r_eqlnil Try.underlying104 rfl rfl) ?_
  refine s_nil (e_then ?_)
  refine c_no rfl (by decide) ?_
  refine c_skip (e_then (c_seq (c_region ?_)))
  refine s_val (r_move (v := .pointer _) rfl) ?_
  refine s_val (r_nil rfl) ?_
  refine s_val (r_fieldAddr (o' := 2) fb119_2 (by decide) rfl rfl) ?_
  refine a_load1 (v := .int _ _) Try.underlying66 rfl M rfl (k := 0) (j := 0) rfl rfl rfl ?_
  refine s_val (r_assign (v := .int _ _) rfl) ?_
  refine s_nil (e_then (c_ret ?_))
  refine ret_run (res_1 (v := .int _ _) rfl rfl) ?_
  exact ⟨_, _, rfl, ⟨rfl, hok, s, sg', hO, rfl⟩, M.flat rfl⟩
theorem rdFail (b : Nat) (r : Rd) (sg : Seg) (hB : RdAt' b r sg) (e : Int) (ks : List Nat) (w0 : World) (M : St ks (keysOf [sg]) w0 w0 [sg] []) :
    Calls Try.prog 51 #[.pointer (some ⟨b, 0, none⟩), i64 e] w0 fun e' w' => ∃ v, ∃ g : Seg, e' = .returned v ∧ (v = .tuple #[] ∧ RdAt' b (r.fail e) g) ∧ St ks (keysOf [sg]) w0 w' [g] [] := by
  obtain ⟨hok, s, sg', hO, rfl⟩ := hB
  replace M := M.flat (L' := [[(b, C [s.v r.b.length, i64 r.at_, i64 r.err] 119)], sg']) rfl
  refine calls_of 17 Try.func51 rfl rfl rfl ?_
  refine c_seq (c_region ?_)
  refine s_val (r_move (v := .pointer _) rfl) ?_
  refine s_val (r_neqnil Try.underlying104 rfl rfl) ?_
  refine s_val (r_move (v := .bool _) rfl) ?_
  refine s_unguard (yield_Fr rfl rfl) rfl ?_
  refine s_val (r_move (v := .pointer _) rfl) ?_
  refine s_unguard (yield_Fr rfl rfl) rfl ?_
  refine s_val (r_nil rfl) ?_
  refine s_unguard (yield_Fr rfl rfl) rfl ?_
  refine s_val (r_fieldAddr (o' := 2) fb119_2 (by decide) rfl rfl) ?_
  refine s_unguard (yield_Fr rfl rfl) rfl ?_
  refine a_load1 (v := .int _ _) Try.underlying66 rfl M rfl (k := 0) (j := 0) rfl rfl rfl ?_
  refine s_unguard (yield_Fr rfl rfl) rfl ?_
  refine s_val (r_eql rfl rfl) ?_
  refine s_val (r_pick (v := .bool _) rfl rfl) ?_
  refine s_nil (e_then ?_)
  refine c_if rfl (fun h12 => ?_) (fun h12 => ?_)
  ·
   have hr : r.fail e = ⟨r.b, r.at_, e⟩ := if_pos h12
   refine c_region ?_
   refine s_val (r_move (v := .pointer _) rfl) ?_
   refine s_val (r_move (v := .int _ _) rfl) ?_
   refine s_val (r_nil rfl) ?_
   refine s_val (r_fieldAddr (o' := 2) fb119_2 (by decide) rfl rfl) ?_
   refine a_store (v := .int _ _) sz66 M rfl rfl rfl (k := 0) (j := 0) rfl rfl rfl rfl rfl ?_
   intro w M
   first | replace M := M.nf (L' := [_, _]) rfl | skip
   refine s_nil ?_
   refine end_run (res_none rfl) ?_
   exact ⟨_, _, rfl, ⟨rfl, hok.fail e, by rw [hr]; exact ⟨s, sg', hO, rfl⟩⟩, M.flat rfl⟩
  ·
   have hr : r.fail e = r := if_neg h12
   refine c_skip ?_
   refine end_run (res_none rfl) ?_
   exact ⟨_, _, rfl, ⟨rfl, hok.fail e, by rw [hr]; exact ⟨s, sg', hO, rfl⟩⟩, M.flat rfl⟩
theorem rdLeft (b : Nat) (r : Rd) (sg : Seg) (hB : RdAt' b r sg) (ks : List Nat) (w0 : World) (M : St ks (keysOf [sg]) w0 w0 [sg] []) :
    Calls Try.prog 50 #[.pointer (some ⟨b, 0, none⟩)] w0 fun e w' => ∃ v, ∃ g : Seg, e = .returned v ∧ (v = i64 r.left ∧ RdAt' b r g) ∧ St ks (keysOf [sg]) w0 w' [g] [] := by
  obtain ⟨hok, s, sg', hO, rfl⟩ := hB
  have hk1 := hok.at_
  have hk2 := hok.len
  replace M := M.flat (L' := [[(b, C [s.v r.b.length, i64 r.at_, i64 r.err] 119)], sg']) rfl
  refine calls_of 22 Try.func50 rfl rfl rfl ?_
  refine c_seq (c_region ?_)
  refine s_val (r_assign (v := .int _ _) rfl) ?_
  refine s_nil (e_then (c_seq (c_seq (c_region ?_))))
  refine s_val (r_move (v := .pointer _) rfl) ?_
  refine s_val (r_eqlnil Try.underlying104 rfl rfl) ?_
  refine s_val (r_move (v := .bool _) rfl) ?_
  refine s_unguard (yield_Fr rfl rfl) rfl ?_
  refine s_val (r_move (v := .pointer _) rfl) ?_
  refine s_unguard (yield_Fr rfl rfl) rfl ?_
  refine s_val (r_nil rfl) ?_
  refine s_unguard (yield_Fr rfl rfl) rfl ?_
  refine s_val (r_fieldAddr (o' := 2) fb119_2 (by decide) rfl rfl) ?_
  refine s_unguard (yield_Fr rfl rfl) rfl ?_
  refine a_load1 (v := .int _ _) Try.underlying66 rfl M rfl (k := 0) (j := 0) rfl rfl rfl ?_
  refine s_unguard (yield_Fr rfl rfl) rfl ?_
  refine s_val (r_neq rfl rfl) ?_
  refine s_val (r_pick (v := .bool _) rfl rfl) ?_
  refine s_nil (e_then ?_)
  refine c_if rfl (fun h11 => ?_) (fun h11 => ?_)
  ·
   have hr : r.left = 0 := if_neg h11
   refine c_seq (c_region ?_)
   refine s_val (r_assign (v := .int _ _) rfl) ?_
   refine s_nil (e_then (c_ret (e_then_ret ?_)))
   refine ret_run (res_1 (v := .int _ _) rfl rfl) ?_
   exact ⟨_, _, rfl, ⟨congrArg i64 hr.symm, hok, s, sg', hO, rfl⟩, M.flat rfl⟩
  ·
   have hr : r.left = r.b.length - r.at_ := if_pos (Decidable.not_not.1 h11)
   refine c_skip (e_then (c_seq ?_))
   refine c_drawK (by kernel_rfl) [(.q, 0), (.q, 1), (.q, 2), (.q, 3), (.q, 4), (.q, 5), (.q, 6), (.q, 7), (.q, 8), (.q, 9), (.q, 10)] [[], [0], [0, 1], [0, 1, 2], [0, 1, 2, 3], [], [5], [5, 6], [5, 6, 7], [0, 1, 2, 3, 4, 5, 6, 7, 8], [0, 1, 2, 3, 4, 5, 6, 7, 8, 9]] (by kernel_rfl) [] M ?_
   refine w_val rfl wt_none (fun w => (r_move (v := .pointer _) rfl)) ?_
   refine w_val rfl wt_none (fun w => (r_nil rfl)) ?_
   refine w_val rfl wt_none (fun w => (r_fieldAddr (o' := 0) fb119_0 (by decide) rfl rfl)) ?_
   refine w_read (v := .slice _ _ _) rfl wt_none (fun w X G' M => r_load1 Try.underlying63 rfl rfl (M.cell (k := 0) (j := 0) rfl rfl rfl)) ?_
   refine w_val rfl wt_none (fun w => (r_len Try.underlying63 rfl)) ?_
   refine w_val rfl wt_none (fun w => (r_move (v := .pointer _) rfl)) ?_
   refine w_val rfl wt_none (fun w => (r_nil rfl)) ?_
   refine w_val rfl wt_none (fun w => (r_fieldAddr (o' := 1) fb119_1 (by decide) rfl rfl)) ?_
   refine w_read (v := .int _ _) rfl wt_none (fun w X G' M => r_load1 Try.underlying3 rfl rfl (M.cell (k := 0) (j := 0) rfl rfl rfl)) ?_
   first | (refine w_val rfl wt_none (fun w => (r_sub rfl rfl (w64 (by omega) (by omega)))) ?_) | (refine w_val rfl wt_none (fun w => (r_sub rfl rfl rfl)) ?_)
   refine w_val rfl wt_none (fun w => (r_assign (v := .int _ _) rfl)) ?_
   refine w_nil ?_
   intro w M
   refine e_then (c_ret ?_)
   refine ret_run (res_1 (v := .int _ _) rfl rfl) ?_
   exact ⟨_, _, rfl, ⟨congrArg i64 hr.symm, hok, s, sg', hO, rfl⟩, M.flat rfl⟩
theorem rdByte (b : Nat) (r : Rd) (sg : Seg) (hB : RdAt' b r sg) (ks : List Nat) (w0 : World) (M : St ks (keysOf [sg]) w0 w0 [sg] []) :
    Calls Try.prog 55 #[.pointer (some ⟨b, 0, none⟩)] w0 fun e w' => ∃ v, ∃ g : Seg, e = .returned v ∧ (v = u8 r.byte.1 ∧ RdAt' b r.byte.2 g) ∧ St ks (keysOf [sg]) w0 w' [g] [] := by
  skip
  refine calls_of 26 Try.func55 rfl rfl rfl ?_
  refine c_seq (c_region ?_)
  refine s_val (r_assign (v := .int _ _) rfl) ?_
  refine s_nil (e_then (c_seq (c_seq (c_region ?_))))
  refine s_val (r_move (v := .pointer _) rfl) ?_
  refine s_call1 0 (cl50 rfl) rfl (rdLeft b r _ hB) M (fun _ h => nomatch h) ?_
  rintro v g w ⟨rfl, hB⟩ M
  first | replace M := M.nf (L' := [_]) rfl | skip
  refine s_val (r_eql rfl rfl) ?_
  refine s_nil (e_then ?_)
  refine c_if rfl (fun h5 => ?_) (fun h5 => ?_)
  ·
   have hr : r.byte = (0, r.fail 3) := if_pos h5
   refine c_seq (c_region ?_)
   refine s_val (r_move (v := .pointer _) rfl) ?_
   refine s_call1 0 (cl51 rfl) rfl (rdFail b r _ hB 3) M (fun _ h => nomatch h) ?_
   rintro v g w ⟨rfl, hB⟩ M
   first | replace M := M.nf (L' := [_]) rfl | skip
   refine s_nil (e_then (c_seq (c_region ?_)))
   refine s_val (r_assign (v := .int _ _) rfl) ?_
   refine s_nil (e_then (c_ret (e_then_ret ?_)))
   refine ret_run (res_1 (v := .int _ _) rfl rfl) ?_
   exact ⟨_, g, rfl, ⟨by rw [hr], by rw [hr]; exact hB⟩, (M.picks [0] rfl rfl).useG (by simp)⟩
  ·
   have hr : r.byte = (r.b.getD r.at_ 0, ⟨r.b, r.at_ + 1, r.err⟩) := if_neg h5
   have hok2 : r.byte.2.ok := hB.1.byte
   obtain ⟨hl1, hl2⟩ := Rd.left_pos h5
   obtain ⟨hok, s, sg', hO, rfl⟩ := hB
   have hk1 := hok.at_
   have hk2 := hok.len
   replace M := (M.picks [0] rfl rfl).flat (L' := [[(b, C [s.v r.b.length, i64 r.at_, i64 r.err] 119)], sg']) rfl
   obtain ⟨x, hx⟩ : ∃ x, r.b[r.at_]? = some x := ⟨_, List.getElem?_eq_getElem (by omega)⟩
   have hxd : r.b.getD r.at_ 0 = x := by simp [List.getD_eq_getElem?_getD, hx]
   obtain ⟨bd, had⟩ := hO.addrB (by omega)
   --nL=2 --slot 0=own(0,0,0)
   refine c_skip (e_then (c_seq (c_region ?_)))
   refine s_val (r_move (v := .pointer _) rfl) ?_
   refine s_val (r_nil rfl) ?_
   refine s_val (r_fieldAddr (o' := 1) fb119_1 (by decide) rfl rfl) ?_
   refine a_load1 (v := .int _ _) Try.underlying3 rfl M rfl (k := 0) (j := 0) rfl rfl rfl ?_
   first | (refine s_val (r_add rfl rfl (w64 (by omega) (by omega))) ?_) | (refine s_val (r_add rfl rfl rfl) ?_)
   refine s_val (r_nil rfl) ?_
   refine s_val (r_fieldAddr (o' := 1) fb119_1 (by decide) rfl rfl) ?_
   refine a_store (v := .int _ _) sz3 M rfl rfl rfl (k := 0) (j := 0) rfl rfl rfl rfl rfl ?_
   intro w M
   first | replace M := M.nf (L' := [_, _]) rfl | skip
   refine s_nil (e_then (c_seq ?_))
   refine c_drawK (by kernel_rfl) [(.q, 0), (.q, 1), (.q, 2), (.q, 3), (.q, 4), (.q, 5), (.q, 6), (.q, 7), (.q, 8), (.q, 9), (.q, 10), (.q, 11)] [[], [0], [0, 1], [0, 1, 2], [], [4], [4, 5], [4, 5, 6], [4, 5, 6, 7], [0, 1, 2, 3, 4, 5, 6, 7, 8], [0, 1, 2, 3, 4, 5, 6, 7, 8, 9], [0, 1, 2, 3, 4, 5, 6, 7, 8, 9, 10]] (by kernel_rfl) [] M ?_
   refine w_val rfl wt_none (fun w => (r_move (v := .pointer _) rfl)) ?_
   refine w_val rfl wt_none (fun w => (r_nil rfl)) ?_
   refine w_val rfl wt_none (fun w => (r_fieldAddr (o' := 0) fb119_0 (by decide) rfl rfl)) ?_
   refine w_read (v := .slice _ _ _) rfl wt_none (fun w X G' M => r_load1 Try.underlying63 rfl rfl (M.cell (k := 0) (j := 0) rfl rfl rfl)) ?_
   refine w_val rfl wt_none (fun w => (r_move (v := .pointer _) rfl)) ?_
   refine w_val rfl wt_none (fun w => (r_nil rfl)) ?_
   refine w_val rfl wt_none (fun w => (r_fieldAddr (o' := 1) fb119_1 (by decide) rfl rfl)) ?_
   refine w_read (v := .int _ _) rfl wt_none (fun w X G' M => r_load1 Try.underlying3 rfl rfl (M.cell (k := 0) (j := 0) rfl rfl rfl)) ?_
   first | (refine w_val rfl wt_none (fun w => (r_sub rfl rfl (w64 (by omega) (by omega)))) ?_) | (refine w_val rfl wt_none (fun w => (r_sub rfl rfl rfl)) ?_)
   refine w_val rfl wt_none (fun w => (r_indexAddrS Try.underlying63 sz5 rfl (had) rfl (by omega) (by omega) rfl)) ?_
   refine w_read rfl wt_none (fun w X G' M => r_load1 Try.underlying5 rfl rfl (hO.cellB M (k := 1) rfl had hx (by omega))) ?_
   refine w_val rfl wt_none (fun w => (r_assign (v := .int _ _) rfl)) ?_
   refine w_nil ?_
   intro w M
   refine e_then (c_ret ?_)
   refine ret_run (res_1 (v := .int _ _) rfl rfl) ?_
   exact ⟨_, _, rfl, ⟨by rw [hr]; exact congrArg u8 hxd.symm, by rw [hr] at hok2 ⊢; exact ⟨hok2, s, sg', hO, rfl⟩⟩, ((M.picks [0, 1] rfl rfl).useG (by simp)).flat rfl⟩
theorem long_step {n c : Int} {sh : Nat} (h0 : 0 ≤ n) (h1 : n < 2 ^ sh) (hc : 0 ≤ c ∧ c ≤ 255) : 0 ≤ n + c % 128 * 2 ^ sh ∧ n + c % 128 * 2 ^ sh < 2 ^ (sh + 7) := by
  have hp : (0 : Int) < 2 ^ sh := Int.pow_pos (by decide)
  have hm : c % 128 ≤ 127 ∧ 0 ≤ c % 128 := by omega
  have e7 : (2 : Int) ^ (sh + 7) = 2 ^ sh * 128 := by rw [Int.pow_add]; rfl
  have hmul : c % 128 * 2 ^ sh ≤ 127 * 2 ^ sh := Int.mul_le_mul_of_nonneg_right hm.1 (Int.le_of_lt hp)
  have hmul0 : 0 ≤ c % 128 * 2 ^ sh := Int.mul_nonneg hm.2 (Int.le_of_lt hp)
  rw [e7]; omega
theorem long_fit {c : Int} {sh q : Nat} (hq : sh = 7 * q) (hs : sh ≤ 63) (h63 : sh = 63 → c ≤ 1) (hc : 0 ≤ c ∧ c ≤ 255) : 0 ≤ c % 128 * 2 ^ sh ∧ c % 128 * 2 ^ sh < 18446744073709551616 := by
  have hp : (0 : Int) < 2 ^ sh := Int.pow_pos (by decide)
  have hm : c % 128 ≤ 127 ∧ 0 ≤ c % 128 := by omega
  have hmul : c % 128 * 2 ^ sh ≤ 127 * 2 ^ sh := Int.mul_le_mul_of_nonneg_right hm.1 (Int.le_of_lt hp)
  refine ⟨Int.mul_nonneg hm.2 (Int.le_of_lt hp), ?_⟩
  rcases Nat.lt_or_ge sh 57 with h | h
  · have h2 : (2 : Nat) ^ sh ≤ 2 ^ 56 := Nat.pow_le_pow_right (by decide) (by omega)
    have h3 : ((2 ^ sh : Nat) : Int) ≤ ((2 ^ 56 : Nat) : Int) := Int.ofNat_le.2 h2
    rw [Int.natCast_pow] at h3
    have h4 : ((2 : Nat) : Int) ^ sh = 2 ^ sh := rfl
    have h5 : ((2 ^ 56 : Nat) : Int) = 72057594037927936 := by decide
    omega
  · obtain rfl : sh = 63 := by omega
    have e : (2 : Int) ^ 63 = 9223372036854775808 := by decide
    have := h63 rfl
    rw [e]; omega
theorem shl_u64 {c : Int} {sh : Nat} {j : Int} (hj : j = sh) (hs : sh ≤ 63) (h : 0 ≤ c * 2 ^ sh ∧ c * 2 ^ sh < 18446744073709551616) : IntKind.u64.wrap (c * 2 ^ (min j.toNat IntKind.u64.bits)) = c * 2 ^ sh := by
  subst hj
  have : min (sh : Int).toNat IntKind.u64.bits = sh := by
    show min (sh : Int).toNat 64 = sh
    omega
  rw [this]
  exact wu64 (by omega) (by omega)
theorem rdLong (b : Nat) (r : Rd) (sg : Seg) (hB : RdAt' b r sg) (ks : List Nat) (w0 : World) (M : St ks (keysOf [sg]) w0 w0 [sg] []) :
    Calls Try.prog 52 #[.pointer (some ⟨b, 0, none⟩)] w0 fun e w' => ∃ v, ∃ g : Seg, e = .returned v ∧ (v = u64 r.long.1 ∧ RdAt' b r.long.2 g) ∧ St ks (keysOf [sg]) w0 w' [g] [] := by
  skip
  refine calls_of 39 Try.func52 rfl rfl rfl ?_
  refine c_seq (c_region ?_)
  refine s_val (r_assign (v := .int _ _) rfl) ?_
  refine s_nil (e_then (c_seq (c_region ?_)))
  refine s_val (r_assign (v := .int _ _) rfl) ?_
  refine s_nil (e_then (c_seq (c_region ?_)))
  refine s_val (r_assign (v := .int _ _) rfl) ?_
  refine s_nil (e_then (c_block ?_))
  refine c_loopG [2, 3, 4, 5, 6, 7, 8, 9, 10, 11, 12, 13, 14, 15, 16, 17, 18, 19, 20, 21, 22, 23, 24, 25, 26, 27, 28, 29, 30, 31, 32, 33, 34, 35, 36, 37, 38] (Γ := Nat × Nat × Int × Rd × Seg) (vals := fun (f, sh, n, r', sg') => [(3, u64 n), (4, i64 sh)]) (I := fun m (f, sh, n, r', sg') w => m = f ∧ 1 ≤ f ∧ f * 7 + sh = 70 ∧ (∃ q, sh = 7 * q) ∧ 0 ≤ n ∧ n < 2 ^ sh ∧ longGo f sh n r' = r.long ∧ RdAt' b r' sg' ∧ St ks (keysOf [sg]) w0 w [sg'] []) 10 (10, 0, 0, r, sg) ⟨rfl, rfl, trivial⟩ ⟨rfl, by decide, rfl, ⟨0, rfl⟩, by decide, by decide, rfl, hB, M⟩ ?_
  rintro m ⟨f, sh, n, r1, sg1⟩ e w ⟨rfl, hf1, hf, ⟨q, hq⟩, hn0, hn1, hg, hB, M⟩
  obtain ⟨f, rfl⟩ : ∃ j, m = j + 1 := ⟨m - 1, by omega⟩
  have hcb := Rd.byte_range hB.1
  refine c_seq (c_block (c_seq (c_region ?_)))
  refine s_val (r_move (v := .pointer _) rfl) ?_
  refine s_call1 0 (cl55 rfl) rfl (rdByte b r1 _ hB) M (fun _ h => nomatch h) ?_
  rintro v g w ⟨rfl, hB⟩ M
  first | replace M := M.nf (L' := [_]) rfl | skip
  refine s_val (r_assign (v := .int _ _) rfl) ?_
  refine s_nil (e_then (c_seq (c_seq (c_region ?_))))
  refine s_val (r_move (v := .int _ _) rfl) ?_
  refine s_val (r_eql rfl rfl) ?_
  refine s_val (r_move (v := .bool _) rfl) ?_
  refine s_splitD 12 rfl (fun g12 => ?_) (fun g12 => ?_)
  ·
   refine s_unguard (yield_Fr rfl rfl) rfl ?_
   refine s_val (r_move (v := .int _ _) rfl) ?_
   refine s_unguard (yield_Fr rfl rfl) rfl ?_
   refine s_val (r_gtr rfl rfl) ?_
   refine s_val (r_pick (v := .bool _) rfl rfl) ?_
   refine s_val (r_move (v := .bool _) rfl) ?_
   refine s_splitD 16 rfl (fun g16 => ?_) (fun g16 => ?_)
   ·
    refine s_skip (yield_Fr rfl rfl) rfl ?_
    refine s_skip (yield_Fr rfl rfl) rfl ?_
    refine s_skip (yield_Fr rfl rfl) rfl ?_
    refine s_skipU (yield_U rfl rfl) ?_
    refine s_skipU (yield_U rfl rfl) ?_
    refine s_skip (yield_Fr rfl rfl) rfl ?_
    refine s_val (r_pick (v := .bool _) rfl rfl) ?_
    refine s_nil (e_then ?_)
    refine c_yes rfl (by decide) ?_
    refine c_region ?_
    have hR : r1.longR sh = r1.byte.2.fail 4 := if_pos (by omega)
    refine s_val (r_move (v := .pointer _) rfl) ?_
    refine s_call1 0 (cl51 rfl) rfl (rdFail b _ _ hB 4) M (fun _ h => nomatch h) ?_
    rintro v g w ⟨rfl, hB⟩ M
    first | replace M := M.nf (L' := [_]) rfl | skip
    refine s_nil (e_then (c_seq (c_seq (c_region ?_))))
    replace hB : RdAt' b (r1.longR sh) g := by rw [hR]; exact hB
    refine s_val (r_move (v := .pointer _) rfl) ?_
    refine s_call1 0 (cl54 rfl) rfl (rdErr b _ _ hB) M (fun _ h => nomatch h) ?_
    rintro v g w ⟨rfl, hB⟩ M
    first | replace M := M.nf (L' := [_]) rfl | skip
    refine s_val (r_neq rfl rfl) ?_
    refine s_nil (e_then ?_)
    refine c_if rfl (fun h28 => ?_) (fun h28 => ?_)
    ·
     have hr : r.long = (0, r1.longR sh) := by rw [← hg, longGo, if_pos h28]
     refine c_seq (c_region ?_)
     refine s_val (r_assign (v := .int _ _) rfl) ?_
     refine s_nil (e_then (c_ret (e_then_ret (e_blk_ret (e_then_ret (e_then_ret (e_blk_ret ?_)))))))
     refine ret_run (res_1 (v := .int _ _) rfl rfl) ?_
     exact ⟨_, g, rfl, ⟨by rw [hr], by rw [hr]; exact hB⟩, (M.picks [0] rfl rfl).useG (by simp)⟩
    ·
     have h63 : sh = 63 → r1.byte.1 ≤ 1 := by
       intro e63
       rcases Int.lt_or_le 1 r1.byte.1 with hgt | hle
       · exfalso
         apply h28
         have hR2 : r1.longR sh = r1.byte.2.fail 4 := if_pos (Or.inl ⟨e63, hgt⟩)
         rw [hR2]
         unfold Rd.fail
         split
         · exact (by decide : (4 : Int) ≠ 0)
         · assumption
       · exact hle
     have hst := long_step hn0 hn1 hcb
     have hft := long_fit hq (by omega) h63 hcb
     refine c_skip (e_then (c_seq (c_region ?_)))
     refine s_val (r_move (v := .int _ _) rfl) ?_
     refine s_val (r_move (v := .int _ _) rfl) ?_
     refine s_val (r_and rfl rfl and127) ?_
     first | (refine s_val (r_conv Try.underlying5 Try.underlying90 rfl (wu64 (by omega) (by omega))) ?_) | (refine s_val (r_conv Try.underlying5 Try.underlying90 rfl wrU64) ?_)
     refine s_val (r_move (v := .int _ _) rfl) ?_
     refine s_val (r_shl rfl rfl (by omega) (shl_u64 rfl (by omega) hft)) ?_
     refine s_val (r_or rfl rfl (orShl hn0 hn1 (by omega) (by omega) hft.2)) ?_
     refine s_val (r_assign (v := .int _ _) rfl) ?_
     refine s_nil (e_then (c_seq (c_region ?_)))
     refine s_val (r_move (v := .int _ _) rfl) ?_
     refine s_val (r_lss rfl rfl) ?_
     refine s_nil (e_then ?_)
     refine c_if rfl (fun h37 => ?_) (fun h37 => ?_)
     ·
      have hr : r.long = (n + r1.byte.1 % 128 * 2 ^ sh, r1.longR sh) := by rw [← hg, longGo, if_neg h28, if_pos h37]
      refine c_seq (c_region ?_)
      refine s_val (r_move (v := .int _ _) rfl) ?_
      refine s_val (r_assign (v := .int _ _) rfl) ?_
      refine s_nil (e_then (c_ret (e_blk_ret (e_then_ret (e_then_ret (e_blk_ret ?_))))))
      refine ret_run (res_1 (v := .int _ _) rfl rfl) ?_
      exact ⟨_, g, rfl, ⟨by rw [hr], by rw [hr]; exact hB⟩, (M.picks [0] rfl rfl).useG (by simp)⟩
     ·
      refine c_skip (e_blk (e_then (c_region ?_)))
      refine s_val (r_move (v := .int _ _) rfl) ?_
      first | (refine s_val (r_add rfl rfl (w64 (by omega) (by omega))) ?_) | (refine s_val (r_add rfl rfl rfl) ?_)
      refine s_val (r_assign (v := .int _ _) rfl) ?_
      refine s_nil (e_then ?_)
      exact loop_end f (f, sh + 7, n + r1.byte.1 % 128 * 2 ^ sh, r1.longR sh, g) (by repeat (first | exact ag_refl | exact ag_mask rfl ag_refl | refine ag_upd rfl ?_ | refine ag_mask rfl ?_)) ⟨rfl, congrArg i64 (by omega), trivial⟩ (by omega) ⟨rfl, by omega, by omega, ⟨q + 1, by omega⟩, hst.1, hst.2, by rw [← hg, longGo, if_neg h28, if_neg h37], hB, (M.picks [0] rfl rfl).useG (by simp)⟩
   ·
    refine s_unguard (yield_Fr rfl rfl) rfl ?_
    refine s_val (r_move (v := .int _ _) rfl) ?_
    refine s_unguard (yield_Fr rfl rfl) rfl ?_
    refine s_val (r_gtr rfl rfl) ?_
    refine s_unguard (yield_Fr rfl rfl) rfl ?_
    refine s_val (r_move (v := .bool _) rfl) ?_
    refine s_splitD 19 rfl (fun g19 => ?_) (fun g19 => ?_)
    ·
     refine s_unguard (yield_Fr rfl rfl) rfl ?_
     refine s_val (r_move (v := .int _ _) rfl) ?_
     refine s_unguard (yield_Fr rfl rfl) rfl ?_
     refine s_val (r_eql rfl rfl) ?_
     refine s_unguard (yield_Fr rfl rfl) rfl ?_
     refine s_val (r_pick (v := .bool _) rfl rfl) ?_
     refine s_val (r_pick (v := .bool _) rfl rfl) ?_
     refine s_nil (e_then ?_)
     refine c_if rfl (fun h23 => ?_) (fun h23 => ?_)
     ·
      refine c_region ?_
      have hR : r1.longR sh = r1.byte.2.fail 4 := if_pos (by omega)
      refine s_val (r_move (v := .pointer _) rfl) ?_
      refine s_call1 0 (cl51 rfl) rfl (rdFail b _ _ hB 4) M (fun _ h => nomatch h) ?_
      rintro v g w ⟨rfl, hB⟩ M
      first | replace M := M.nf (L' := [_]) rfl | skip
      refine s_nil (e_then (c_seq (c_seq (c_region ?_))))
      replace hB : RdAt' b (r1.longR sh) g := by rw [hR]; exact hB
      refine s_val (r_move (v := .pointer _) rfl) ?_
      refine s_call1 0 (cl54 rfl) rfl (rdErr b _ _ hB) M (fun _ h => nomatch h) ?_
      rintro v g w ⟨rfl, hB⟩ M
      first | replace M := M.nf (L' := [_]) rfl | skip
      refine s_val (r_neq rfl rfl) ?_
      refine s_nil (e_then ?_)
      refine c_if rfl (fun h28 => ?_) (fun h28 => ?_)
      ·
       have hr : r.long = (0, r1.longR sh) := by rw [← hg, longGo, if_pos h28]
       refine c_seq (c_region ?_)
       refine s_val (r_assign (v := .int _ _) rfl) ?_
       refine s_nil (e_then (c_ret (e_then_ret (e_blk_ret (e_then_ret (e_then_ret (e_blk_ret ?_)))))))
       refine ret_run (res_1 (v := .int _ _) rfl rfl) ?_
       exact ⟨_, g, rfl, ⟨by rw [hr], by rw [hr]; exact hB⟩, (M.picks [0] rfl rfl).useG (by simp)⟩
      ·
       have h63 : sh = 63 → r1.byte.1 ≤ 1 := by
         intro e63
         rcases Int.lt_or_le 1 r1.byte.1 with hgt | hle
         · exfalso
           apply h28
           have hR2 : r1.longR sh = r1.byte.2.fail 4 := if_pos (Or.inl ⟨e63, hgt⟩)
           rw [hR2]
           unfold Rd.fail
           split
           · exact (by decide : (4 : Int) ≠ 0)
           · assumption
         · exact hle
       have hst := long_step hn0 hn1 hcb
       have hft := long_fit hq (by omega) h63 hcb
       refine c_skip (e_then (c_seq (c_region ?_)))
       refine s_val (r_move (v := .int _ _) rfl) ?_
       refine s_val (r_move (v := .int _ _) rfl) ?_
       refine s_val (r_and rfl rfl and127) ?_
       first | (refine s_val (r_conv Try.underlying5 Try.underlying90 rfl (wu64 (by omega) (by omega))) ?_) | (refine s_val (r_conv Try.underlying5 Try.underlying90 rfl wrU64) ?_)
       refine s_val (r_move (v := .int _ _) rfl) ?_
       refine s_val (r_shl rfl rfl (by omega) (shl_u64 rfl (by omega) hft)) ?_
       refine s_val (r_or rfl rfl (orShl hn0 hn1 (by omega) (by omega) hft.2)) ?_
       refine s_val (r_assign (v := .int _ _) rfl) ?_
       refine s_nil (e_then (c_seq (c_region ?_)))
       refine s_val (r_move (v := .int _ _) rfl) ?_
       refine s_val (r_lss rfl rfl) ?_
       refine s_nil (e_then ?_)
       refine c_if rfl (fun h37 => ?_) (fun h37 => ?_)
       ·
        have hr : r.long = (n + r1.byte.1 % 128 * 2 ^ sh, r1.longR sh) := by rw [← hg, longGo, if_neg h28, if_pos h37]
        refine c_seq (c_region ?_)
        refine s_val (r_move (v := .int _ _) rfl) ?_
        refine s_val (r_assign (v := .int _ _) rfl) ?_
        refine s_nil (e_then (c_ret (e_blk_ret (e_then_ret (e_then_ret (e_blk_ret ?_))))))
        refine ret_run (res_1 (v := .int _ _) rfl rfl) ?_
        exact ⟨_, g, rfl, ⟨by rw [hr], by rw [hr]; exact hB⟩, (M.picks [0] rfl rfl).useG (by simp)⟩
       ·
        refine c_skip (e_blk (e_then (c_region ?_)))
        refine s_val (r_move (v := .int _ _) rfl) ?_
        first | (refine s_val (r_add rfl rfl (w64 (by omega) (by omega))) ?_) | (refine s_val (r_add rfl rfl rfl) ?_)
        refine s_val (r_assign (v := .int _ _) rfl) ?_
        refine s_nil (e_then ?_)
        exact loop_end f (f, sh + 7, n + r1.byte.1 % 128 * 2 ^ sh, r1.longR sh, g) (by repeat (first | exact ag_refl | exact ag_mask rfl ag_refl | refine ag_upd rfl ?_ | refine ag_mask rfl ?_)) ⟨rfl, congrArg i64 (by omega), trivial⟩ (by omega) ⟨rfl, by omega, by omega, ⟨q + 1, by omega⟩, hst.1, hst.2, by rw [← hg, longGo, if_neg h28, if_neg h37], hB, (M.picks [0] rfl rfl).useG (by simp)⟩
     ·
      refine c_skip (e_then (c_seq (c_seq (c_region ?_))))
      have hR : r1.longR sh = r1.byte.2 := if_neg (by omega)
      replace hB : RdAt' b (r1.longR sh) g := by rw [hR]; exact hB
      refine s_val (r_move (v := .pointer _) rfl) ?_
      refine s_call1 0 (cl54 rfl) rfl (rdErr b _ _ hB) M (fun _ h => nomatch h) ?_
      rintro v g w ⟨rfl, hB⟩ M
      first | replace M := M.nf (L' := [_]) rfl | skip
      refine s_val (r_neq rfl rfl) ?_
      refine s_nil (e_then ?_)
      refine c_if rfl (fun h28 => ?_) (fun h28 => ?_)
      ·
       have hr : r.long = (0, r1.longR sh) := by rw [← hg, longGo, if_pos h28]
       refine c_seq (c_region ?_)
       refine s_val (r_assign (v := .int _ _) rfl) ?_
       refine s_nil (e_then (c_ret (e_then_ret (e_blk_ret (e_then_ret (e_then_ret (e_blk_ret ?_)))))))
       refine ret_run (res_1 (v := .int _ _) rfl rfl) ?_
       exact ⟨_, g, rfl, ⟨by rw [hr], by rw [hr]; exact hB⟩, (M.picks [0] rfl rfl).useG (by simp)⟩
      ·
       have h63 : sh = 63 → r1.byte.1 ≤ 1 := by
         intro e63
         rcases Int.lt_or_le 1 r1.byte.1 with hgt | hle
         · exfalso
           apply h28
           have hR2 : r1.longR sh = r1.byte.2.fail 4 := if_pos (Or.inl ⟨e63, hgt⟩)
           rw [hR2]
           unfold Rd.fail
           split
           · exact (by decide : (4 : Int) ≠ 0)
           · assumption
         · exact hle
       have hst := long_step hn0 hn1 hcb
       have hft := long_fit hq (by omega) h63 hcb
       refine c_skip (e_then (c_seq (c_region ?_)))
       refine s_val (r_move (v := .int _ _) rfl) ?_
       refine s_val (r_move (v := .int _ _) rfl) ?_
       refine s_val (r_and rfl rfl and127) ?_
       first | (refine s_val (r_conv Try.underlying5 Try.underlying90 rfl (wu64 (by omega) (by omega))) ?_) | (refine s_val (r_conv Try.underlying5 Try.underlying90 rfl wrU64) ?_)
       refine s_val (r_move (v := .int _ _) rfl) ?_
       refine s_val (r_shl rfl rfl (by omega) (shl_u64 rfl (by omega) hft)) ?_
       refine s_val (r_or rfl rfl (orShl hn0 hn1 (by omega) (by omega) hft.2)) ?_
       refine s_val (r_assign (v := .int _ _) rfl) ?_
       refine s_nil (e_then (c_seq (c_region ?_)))
       refine s_val (r_move (v := .int _ _) rfl) ?_
       refine s_val (r_lss rfl rfl) ?_
       refine s_nil (e_then ?_)
       refine c_if rfl (fun h37 => ?_) (fun h37 => ?_)
       ·
        have hr : r.long = (n + r1.byte.1 % 128 * 2 ^ sh, r1.longR sh) := by rw [← hg, longGo, if_neg h28, if_pos h37]
        refine c_seq (c_region ?_)
        refine s_val (r_move (v := .int _ _) rfl) ?_
        refine s_val (r_assign (v := .int _ _) rfl) ?_
        refine s_nil (e_then (c_ret (e_blk_ret (e_then_ret (e_then_ret (e_blk_ret ?_))))))
        refine ret_run (res_1 (v := .int _ _) rfl rfl) ?_
        exact ⟨_, g, rfl, ⟨by rw [hr], by rw [hr]; exact hB⟩, (M.picks [0] rfl rfl).useG (by simp)⟩
       ·
        refine c_skip (e_blk (e_then (c_region ?_)))
        refine s_val (r_move (v := .int _ _) rfl) ?_
        first | (refine s_val (r_add rfl rfl (w64 (by omega) (by omega))) ?_) | (refine s_val (r_add rfl rfl rfl) ?_)
        refine s_val (r_assign (v := .int _ _) rfl) ?_
        refine s_nil (e_then ?_)
        exact loop_end f (f, sh + 7, n + r1.byte.1 % 128 * 2 ^ sh, r1.longR sh, g) (by repeat (first | exact ag_refl | exact ag_mask rfl ag_refl | refine ag_upd rfl ?_ | refine ag_mask rfl ?_)) ⟨rfl, congrArg i64 (by omega), trivial⟩ (by omega) ⟨rfl, by omega, by omega, ⟨q + 1, by omega⟩, hst.1, hst.2, by rw [← hg, longGo, if_neg h28, if_neg h37], hB, (M.picks [0] rfl rfl).useG (by simp)⟩
    ·
     refine s_skip (yield_Fr rfl rfl) rfl ?_
     refine s_skip (yield_Fr rfl rfl) rfl ?_
     refine s_unguard (yield_Fr rfl rfl) rfl ?_
     refine s_val (r_pick (v := .bool _) rfl rfl) ?_
     refine s_val (r_pick (v := .bool _) rfl rfl) ?_
     refine s_nil (e_then ?_)
     refine c_no rfl (by decide) ?_
     refine c_skip (e_then (c_seq (c_seq (c_region ?_))))
     have hR : r1.longR sh = r1.byte.2 := if_neg (by omega)
     replace hB : RdAt' b (r1.longR sh) g := by rw [hR]; exact hB
     refine s_val (r_move (v := .pointer _) rfl) ?_
     refine s_call1 0 (cl54 rfl) rfl (rdErr b _ _ hB) M (fun _ h => nomatch h) ?_
     rintro v g w ⟨rfl, hB⟩ M
     first | replace M := M.nf (L' := [_]) rfl | skip
     refine s_val (r_neq rfl rfl) ?_
     refine s_nil (e_then ?_)
     refine c_if rfl (fun h28 => ?_) (fun h28 => ?_)
     ·
      have hr : r.long = (0, r1.longR sh) := by rw [← hg, longGo, if_pos h28]
      refine c_seq (c_region ?_)
      refine s_val (r_assign (v := .int _ _) rfl) ?_
      refine s_nil (e_then (c_ret (e_then_ret (e_blk_ret (e_then_ret (e_then_ret (e_blk_ret ?_)))))))
      refine ret_run (res_1 (v := .int _ _) rfl rfl) ?_
      exact ⟨_, g, rfl, ⟨by rw [hr], by rw [hr]; exact hB⟩, (M.picks [0] rfl rfl).useG (by simp)⟩
     ·
      have h63 : sh = 63 → r1.byte.1 ≤ 1 := by
        intro e63
        rcases Int.lt_or_le 1 r1.byte.1 with hgt | hle
        · exfalso
          apply h28
          have hR2 : r1.longR sh = r1.byte.2.fail 4 := if_pos (Or.inl ⟨e63, hgt⟩)
          rw [hR2]
          unfold Rd.fail
          split
          · exact (by decide : (4 : Int) ≠ 0)
          · assumption
        · exact hle
      have hst := long_step hn0 hn1 hcb
      have hft := long_fit hq (by omega) h63 hcb
      refine c_skip (e_then (c_seq (c_region ?_)))
      refine s_val (r_move (v := .int _ _) rfl) ?_
      refine s_val (r_move (v := .int _ _) rfl) ?_
      refine s_val (r_and rfl rfl and127) ?_
      first | (refine s_val (r_conv Try.underlying5 Try.underlying90 rfl (wu64 (by omega) (by omega))) ?_) | (refine s_val (r_conv Try.underlying5 Try.underlying90 rfl wrU64) ?_)
      refine s_val (r_move (v := .int _ _) rfl) ?_
      refine s_val (r_shl rfl rfl (by omega) (shl_u64 rfl (by omega) hft)) ?_
      refine s_val (r_or rfl rfl (orShl hn0 hn1 (by omega) (by omega) hft.2)) ?_
      refine s_val (r_assign (v := .int _ _) rfl) ?_
      refine s_nil (e_then (c_seq (c_region ?_)))
      refine s_val (r_move (v := .int _ _) rfl) ?_
      refine s_val (r_lss rfl rfl) ?_
      refine s_nil (e_then ?_)
      refine c_if rfl (fun h37 => ?_) (fun h37 => ?_)
      ·
       have hr : r.long = (n + r1.byte.1 % 128 * 2 ^ sh, r1.longR sh) := by rw [← hg, longGo, if_neg h28, if_pos h37]
       refine c_seq (c_region ?_)
       refine s_val (r_move (v := .int _ _) rfl) ?_
       refine s_val (r_assign (v := .int _ _) rfl) ?_
       refine s_nil (e_then (c_ret (e_blk_ret (e_then_ret (e_then_ret (e_blk_ret ?_))))))
       refine ret_run (res_1 (v := .int _ _) rfl rfl) ?_
       exact ⟨_, g, rfl, ⟨by rw [hr], by rw [hr]; exact hB⟩, (M.picks [0] rfl rfl).useG (by simp)⟩
      ·
       refine c_skip (e_blk (e_then (c_region ?_)))
       refine s_val (r_move (v := .int _ _) rfl) ?_
       first | (refine s_val (r_add rfl rfl (w64 (by omega) (by omega))) ?_) | (refine s_val (r_add rfl rfl rfl) ?_)
       refine s_val (r_assign (v := .int _ _) rfl) ?_
       refine s_nil (e_then ?_)
       exact loop_end f (f, sh + 7, n + r1.byte.1 % 128 * 2 ^ sh, r1.longR sh, g) (by repeat (first | exact ag_refl | exact ag_mask rfl ag_refl | refine ag_upd rfl ?_ | refine ag_mask rfl ?_)) ⟨rfl, congrArg i64 (by omega), trivial⟩ (by omega) ⟨rfl, by omega, by omega, ⟨q + 1, by omega⟩, hst.1, hst.2, by rw [← hg, longGo, if_neg h28, if_neg h37], hB, (M.picks [0] rfl rfl).useG (by simp)⟩
  ·
   refine s_skip (yield_Fr rfl rfl) rfl ?_
   refine s_skip (yield_Fr rfl rfl) rfl ?_
   refine s_val (r_pick (v := .bool _) rfl rfl) ?_
   refine s_val (r_move (v := .bool _) rfl) ?_
   refine s_unguard (yield_Fr rfl rfl) rfl ?_
   refine s_val (r_move (v := .int _ _) rfl) ?_
   refine s_unguard (yield_Fr rfl rfl) rfl ?_
   refine s_val (r_gtr rfl rfl) ?_
   refine s_unguard (yield_Fr rfl rfl) rfl ?_
   refine s_val (r_move (v := .bool _) rfl) ?_
   refine s_splitD 19 rfl (fun g19 => ?_) (fun g19 => ?_)
   ·
    refine s_unguard (yield_Fr rfl rfl) rfl ?_
    refine s_val (r_move (v := .int _ _) rfl) ?_
    refine s_unguard (yield_Fr rfl rfl) rfl ?_
    refine s_val (r_eql rfl rfl) ?_
    refine s_unguard (yield_Fr rfl rfl) rfl ?_
    refine s_val (r_pick (v := .bool _) rfl rfl) ?_
    refine s_val (r_pick (v := .bool _) rfl rfl) ?_
    refine s_nil (e_then ?_)
    refine c_if rfl (fun h23 => ?_) (fun h23 => ?_)
    ·
     refine c_region ?_
     have hR : r1.longR sh = r1.byte.2.fail 4 := if_pos (by omega)
     refine s_val (r_move (v := .pointer _) rfl) ?_
     refine s_call1 0 (cl51 rfl) rfl (rdFail b _ _ hB 4) M (fun _ h => nomatch h) ?_
     rintro v g w ⟨rfl, hB⟩ M
     first | replace M := M.nf (L' := [_]) rfl | skip
     refine s_nil (e_then (c_seq (c_seq (c_region ?_))))
     replace hB : RdAt' b (r1.longR sh) g := by rw [hR]; exact hB
     refine s_val (r_move (v := .pointer _) rfl) ?_
     refine s_call1 0 (cl54 rfl) rfl (rdErr b _ _ hB) M (fun _ h => nomatch h) ?_
     rintro v g w ⟨rfl, hB⟩ M
     first | replace M := M.nf (L' := [_]) rfl | skip
     refine s_val (r_neq rfl rfl) ?_
     refine s_nil (e_then ?_)
     refine c_if rfl (fun h28 => ?_) (fun h28 => ?_)
     ·
      have hr : r.long = (0, r1.longR sh) := by rw [← hg, longGo, if_pos h28]
      refine c_seq (c_region ?_)
      refine s_val (r_assign (v := .int _ _) rfl) ?_
      refine s_nil (e_then (c_ret (e_then_ret (e_blk_ret (e_then_ret (e_then_ret (e_blk_ret ?_)))))))
      refine ret_run (res_1 (v := .int _ _) rfl rfl) ?_
      exact ⟨_, g, rfl, ⟨by rw [hr], by rw [hr]; exact hB⟩, (M.picks [0] rfl rfl).useG (by simp)⟩
     ·
      have h63 : sh = 63 → r1.byte.1 ≤ 1 := by
        intro e63
        rcases Int.lt_or_le 1 r1.byte.1 with hgt | hle
        · exfalso
          apply h28
          have hR2 : r1.longR sh = r1.byte.2.fail 4 := if_pos (Or.inl ⟨e63, hgt⟩)
          rw [hR2]
          unfold Rd.fail
          split
          · exact (by decide : (4 : Int) ≠ 0)
          · assumption
        · exact hle
      have hst := long_step hn0 hn1 hcb
      have hft := long_fit hq (by omega) h63 hcb
      refine c_skip (e_then (c_seq (c_region ?_)))
      refine s_val (r_move (v := .int _ _) rfl) ?_
      refine s_val (r_move (v := .int _ _) rfl) ?_
      refine s_val (r_and rfl rfl and127) ?_
      first | (refine s_val (r_conv Try.underlying5 Try.underlying90 rfl (wu64 (by omega) (by omega))) ?_) | (refine s_val (r_conv Try.underlying5 Try.underlying90 rfl wrU64) ?_)
      refine s_val (r_move (v := .int _ _) rfl) ?_
      refine s_val (r_shl rfl rfl (by omega) (shl_u64 rfl (by omega) hft)) ?_
      refine s_val (r_or rfl rfl (orShl hn0 hn1 (by omega) (by omega) hft.2)) ?_
      refine s_val (r_assign (v := .int _ _) rfl) ?_
      refine s_nil (e_then (c_seq (c_region ?_)))
      refine s_val (r_move (v := .int _ _) rfl) ?_
      refine s_val (r_lss rfl rfl) ?_
      refine s_nil (e_then ?_)
      refine c_if rfl (fun h37 => ?_) (fun h37 => ?_)
      ·
       have hr : r.long = (n + r1.byte.1 % 128 * 2 ^ sh, r1.longR sh) := by rw [← hg, longGo, if_neg h28, if_pos h37]
       refine c_seq (c_region ?_)
       refine s_val (r_move (v := .int _ _) rfl) ?_
       refine s_val (r_assign (v := .int _ _) rfl) ?_
       refine s_nil (e_then (c_ret (e_blk_ret (e_then_ret (e_then_ret (e_blk_ret ?_))))))
       refine ret_run (res_1 (v := .int _ _) rfl rfl) ?_
       exact ⟨_, g, rfl, ⟨by rw [hr], by rw [hr]; exact hB⟩, (M.picks [0] rfl rfl).useG (by simp)⟩
      ·
       refine c_skip (e_blk (e_then (c_region ?_)))
       refine s_val (r_move (v := .int _ _) rfl) ?_
       first | (refine s_val (r_add rfl rfl (w64 (by omega) (by omega))) ?_) | (refine s_val (r_add rfl rfl rfl) ?_)
       refine s_val (r_assign (v := .int _ _) rfl) ?_
       refine s_nil (e_then ?_)
       exact loop_end f (f, sh + 7, n + r1.byte.1 % 128 * 2 ^ sh, r1.longR sh, g) (by repeat (first | exact ag_refl | exact ag_mask rfl ag_refl | refine ag_upd rfl ?_ | refine ag_mask rfl ?_)) ⟨rfl, congrArg i64 (by omega), trivial⟩ (by omega) ⟨rfl, by omega, by omega, ⟨q + 1, by omega⟩, hst.1, hst.2, by rw [← hg, longGo, if_neg h28, if_neg h37], hB, (M.picks [0] rfl rfl).useG (by simp)⟩
    ·
     refine c_skip (e_then (c_seq (c_seq (c_region ?_))))
     have hR : r1.longR sh = r1.byte.2 := if_neg (by omega)
     replace hB : RdAt' b (r1.longR sh) g := by rw [hR]; exact hB
     refine s_val (r_move (v := .pointer _) rfl) ?_
     refine s_call1 0 (cl54 rfl) rfl (rdErr b _ _ hB) M (fun _ h => nomatch h) ?_
     rintro v g w ⟨rfl, hB⟩ M
     first | replace M := M.nf (L' := [_]) rfl | skip
     refine s_val (r_neq rfl rfl) ?_
     refine s_nil (e_then ?_)
     refine c_if rfl (fun h28 => ?_) (fun h28 => ?_)
     ·
      have hr : r.long = (0, r1.longR sh) := by rw [← hg, longGo, if_pos h28]
      refine c_seq (c_region ?_)
      refine s_val (r_assign (v := .int _ _) rfl) ?_
      refine s_nil (e_then (c_ret (e_then_ret (e_blk_ret (e_then_ret (e_then_ret (e_blk_ret ?_)))))))
      refine ret_run (res_1 (v := .int _ _) rfl rfl) ?_
      exact ⟨_, g, rfl, ⟨by rw [hr], by rw [hr]; exact hB⟩, (M.picks [0] rfl rfl).useG (by simp)⟩
     ·
      have h63 : sh = 63 → r1.byte.1 ≤ 1 := by
        intro e63
        rcases Int.lt_or_le 1 r1.byte.1 with hgt | hle
        · exfalso
          apply h28
          have hR2 : r1.longR sh = r1.byte.2.fail 4 := if_pos (Or.inl ⟨e63, hgt⟩)
          rw [hR2]
          unfold Rd.fail
          split
          · exact (by decide : (4 : Int) ≠ 0)
          · assumption
        · exact hle
      have hst := long_step hn0 hn1 hcb
      have hft := long_fit hq (by omega) h63 hcb
      refine c_skip (e_then (c_seq (c_region ?_)))
      refine s_val (r_move (v := .int _ _) rfl) ?_
      refine s_val (r_move (v := .int _ _) rfl) ?_
      refine s_val (r_and rfl rfl and127) ?_
      first | (refine s_val (r_conv Try.underlying5 Try.underlying90 rfl (wu64 (by omega) (by omega))) ?_) | (refine s_val (r_conv Try.underlying5 Try.underlying90 rfl wrU64) ?_)
      refine s_val (r_move (v := .int _ _) rfl) ?_
      refine s_val (r_shl rfl rfl (by omega) (shl_u64 rfl (by omega) hft)) ?_
      refine s_val (r_or rfl rfl (orShl hn0 hn1 (by omega) (by omega) hft.2)) ?_
      refine s_val (r_assign (v := .int _ _) rfl) ?_
      refine s_nil (e_then (c_seq (c_region ?_)))
      refine s_val (r_move (v := .int _ _) rfl) ?_
      refine s_val (r_lss rfl rfl) ?_
      refine s_nil (e_then ?_)
      refine c_if rfl (fun h37 => ?_) (fun h37 => ?_)
      ·
       have hr : r.long = (n + r1.byte.1 % 128 * 2 ^ sh, r1.longR sh) := by rw [← hg, longGo, if_neg h28, if_pos h37]
       refine c_seq (c_region ?_)
       refine s_val (r_move (v := .int _ _) rfl) ?_
       refine s_val (r_assign (v := .int _ _) rfl) ?_
       refine s_nil (e_then (c_ret (e_blk_ret (e_then_ret (e_then_ret (e_blk_ret ?_))))))
       refine ret_run (res_1 (v := .int _ _) rfl rfl) ?_
       exact ⟨_, g, rfl, ⟨by rw [hr], by rw [hr]; exact hB⟩, (M.picks [0] rfl rfl).useG (by simp)⟩
      ·
       refine c_skip (e_blk (e_then (c_region ?_)))
       refine s_val (r_move (v := .int _ _) rfl) ?_
       first | (refine s_val (r_add rfl rfl (w64 (by omega) (by omega))) ?_) | (refine s_val (r_add rfl rfl rfl) ?_)
       refine s_val (r_assign (v := .int _ _) rfl) ?_
       refine s_nil (e_then ?_)
       exact loop_end f (f, sh + 7, n + r1.byte.1 % 128 * 2 ^ sh, r1.longR sh, g) (by repeat (first | exact ag_refl | exact ag_mask rfl ag_refl | refine ag_upd rfl ?_ | refine ag_mask rfl ?_)) ⟨rfl, congrArg i64 (by omega), trivial⟩ (by omega) ⟨rfl, by omega, by omega, ⟨q + 1, by omega⟩, hst.1, hst.2, by rw [← hg, longGo, if_neg h28, if_neg h37], hB, (M.picks [0] rfl rfl).useG (by simp)⟩
   ·
    refine s_skip (yield_Fr rfl rfl) rfl ?_
    refine s_skip (yield_Fr rfl rfl) rfl ?_
    refine s_unguard (yield_Fr rfl rfl) rfl ?_
    refine s_val (r_pick (v := .bool _) rfl rfl) ?_
    refine s_val (r_pick (v := .bool _) rfl rfl) ?_
    refine s_nil (e_then ?_)
    refine c_no rfl (by decide) ?_
    refine c_skip (e_then (c_seq (c_seq (c_region ?_))))
    have hR : r1.longR sh = r1.byte.2 := if_neg (by omega)
    replace hB : RdAt' b (r1.longR sh) g := by rw [hR]; exact hB
    refine s_val (r_move (v := .pointer _) rfl) ?_
    refine s_call1 0 (cl54 rfl) rfl (rdErr b _ _ hB) M (fun _ h => nomatch h) ?_
    rintro v g w ⟨rfl, hB⟩ M
    first | replace M := M.nf (L' := [_]) rfl | skip
    refine s_val (r_neq rfl rfl) ?_
    refine s_nil (e_then ?_)
    refine c_if rfl (fun h28 => ?_) (fun h28 => ?_)
    ·
     have hr : r.long = (0, r1.longR sh) := by rw [← hg, longGo, if_pos h28]
     refine c_seq (c_region ?_)
     refine s_val (r_assign (v := .int _ _) rfl) ?_
     refine s_nil (e_then (c_ret (e_then_ret (e_blk_ret (e_then_ret (e_then_ret (e_blk_ret ?_)))))))
     refine ret_run (res_1 (v := .int _ _) rfl rfl) ?_
     exact ⟨_, g, rfl, ⟨by rw [hr], by rw [hr]; exact hB⟩, (M.picks [0] rfl rfl).useG (by simp)⟩
    ·
     have h63 : sh = 63 → r1.byte.1 ≤ 1 := by
       intro e63
       rcases Int.lt_or_le 1 r1.byte.1 with hgt | hle
       · exfalso
         apply h28
         have hR2 : r1.longR sh = r1.byte.2.fail 4 := if_pos (Or.inl ⟨e63, hgt⟩)
         rw [hR2]
         unfold Rd.fail
         split
         · exact (by decide : (4 : Int) ≠ 0)
         · assumption
       · exact hle
     have hst := long_step hn0 hn1 hcb
     have hft := long_fit hq (by omega) h63 hcb
     refine c_skip (e_then (c_seq (c_region ?_)))
     refine s_val (r_move (v := .int _ _) rfl) ?_
     refine s_val (r_move (v := .int _ _) rfl) ?_
     refine s_val (r_and rfl rfl and127) ?_
     first | (refine s_val (r_conv Try.underlying5 Try.underlying90 rfl (wu64 (by omega) (by omega))) ?_) | (refine s_val (r_conv Try.underlying5 Try.underlying90 rfl wrU64) ?_)
     refine s_val (r_move (v := .int _ _) rfl) ?_
     refine s_val (r_shl rfl rfl (by omega) (shl_u64 rfl (by omega) hft)) ?_
     refine s_val (r_or rfl rfl (orShl hn0 hn1 (by omega) (by omega) hft.2)) ?_
     refine s_val (r_assign (v := .int _ _) rfl) ?_
     refine s_nil (e_then (c_seq (c_region ?_)))
     refine s_val (r_move (v := .int _ _) rfl) ?_
     refine s_val (r_lss rfl rfl) ?_
     refine s_nil (e_then ?_)
     refine c_if rfl (fun h37 => ?_) (fun h37 => ?_)
     ·
      have hr : r.long = (n + r1.byte.1 % 128 * 2 ^ sh, r1.longR sh) := by rw [← hg, longGo, if_neg h28, if_pos h37]
      refine c_seq (c_region ?_)
      refine s_val (r_move (v := .int _ _) rfl) ?_
      refine s_val (r_assign (v := .int _ _) rfl) ?_
      refine s_nil (e_then (c_ret (e_blk_ret (e_then_ret (e_then_ret (e_blk_ret ?_))))))
      refine ret_run (res_1 (v := .int _ _) rfl rfl) ?_
      exact ⟨_, g, rfl, ⟨by rw [hr], by rw [hr]; exact hB⟩, (M.picks [0] rfl rfl).useG (by simp)⟩
     ·
      refine c_skip (e_blk (e_then (c_region ?_)))
      refine s_val (r_move (v := .int _ _) rfl) ?_
      first | (refine s_val (r_add rfl rfl (w64 (by omega) (by omega))) ?_) | (refine s_val (r_add rfl rfl rfl) ?_)
      refine s_val (r_assign (v := .int _ _) rfl) ?_
      refine s_nil (e_then ?_)
      exact loop_end f (f, sh + 7, n + r1.byte.1 % 128 * 2 ^ sh, r1.longR sh, g) (by repeat (first | exact ag_refl | exact ag_mask rfl ag_refl | refine ag_upd rfl ?_ | refine ag_mask rfl ?_)) ⟨rfl, congrArg i64 (by omega), trivial⟩ (by omega) ⟨rfl, by omega, by omega, ⟨q + 1, by omega⟩, hst.1, hst.2, by rw [← hg, longGo, if_neg h28, if_neg h37], hB, (M.picks [0] rfl rfl).useG (by simp)⟩

theorem rdCount (b : Nat) (r : Rd) (sg : Seg) (hB : RdAt' b r sg) (most : Int) (hm : most ≤ 9223372036854775807) (ks : List Nat) (w0 : World) (M : St ks (keysOf [sg]) w0 w0 [sg] []) :
    Calls Try.prog 36 #[.pointer (some ⟨b, 0, none⟩), i64 most] w0 fun e w' => ∃ v, ∃ g : Seg, e = .returned v ∧ (v = i64 (r.count most).1 ∧ RdAt' b (r.count most).2 g) ∧ St ks (keysOf [sg]) w0 w' [g] [] := by
  have hrg := Rd.long_range hB.1
  skip
  refine calls_of 17 Try.func36 rfl rfl rfl ?_
  refine c_seq (c_region ?_)
  refine s_val (r_assign (v := .int _ _) rfl) ?_
  refine s_nil (e_then (c_seq (c_region ?_)))
  refine s_val (r_move (v := .pointer _) rfl) ?_
  refine s_call1 0 (cl52 rfl) rfl (rdLong b r _ hB) M (fun _ h => nomatch h) ?_
  rintro v g w ⟨rfl, hB⟩ M
  first | replace M := M.nf (L' := [_]) rfl | skip
  refine s_val (r_assign (v := .int _ _) rfl) ?_
  refine s_nil (e_then (c_seq (c_seq (c_region ?_))))
  refine s_val (r_move (v := .int _ _) rfl) ?_
  refine s_val (r_move (v := .int _ _) rfl) ?_
  refine s_val (r_max2 rfl rfl) ?_
  first | (refine s_val (r_conv Try.underlying3 Try.underlying90 rfl (wu64 (by omega) (by omega))) ?_) | (refine s_val (r_conv Try.underlying3 Try.underlying90 rfl wrU64) ?_)
  refine s_val (r_gtr rfl rfl) ?_
  refine s_nil (e_then ?_)
  refine c_if rfl (fun h12 => ?_) (fun h12 => ?_)
  ·
   have hr : r.count most = (0, r.long.2.fail 7) := if_pos (by omega)
   refine c_seq (c_region ?_)
   refine s_val (r_move (v := .pointer _) rfl) ?_
   refine s_call1 0 (cl51 rfl) rfl (rdFail b _ _ hB 7) M (fun _ h => nomatch h) ?_
   rintro v g w ⟨rfl, hB⟩ M
   first | replace M := M.nf (L' := [_]) rfl | skip
   refine s_nil (e_then (c_seq (c_region ?_)))
   refine s_val (r_assign (v := .int _ _) rfl) ?_
   refine s_nil (e_then (c_ret (e_then_ret ?_)))
   refine ret_run (res_1 (v := .int _ _) rfl rfl) ?_
   exact ⟨_, g, rfl, ⟨by rw [hr], by rw [hr]; exact hB⟩, (M.picks [0] rfl rfl).useG (by simp)⟩
  ·
   have hr : r.count most = (r.long.1, r.long.2) := if_neg (by omega)
   refine c_skip (e_then (c_seq (c_region ?_)))
   refine s_val (r_move (v := .int _ _) rfl) ?_
   first | (refine s_val (r_conv Try.underlying90 Try.underlying3 rfl (w64 (by omega) (by omega))) ?_) | (refine s_val (r_conv Try.underlying90 Try.underlying3 rfl rfl) ?_)
   refine s_val (r_assign (v := .int _ _) rfl) ?_
   refine s_nil (e_then (c_ret ?_))
   refine ret_run (res_1 (v := .int _ _) rfl rfl) ?_
   exact ⟨_, g, rfl, ⟨by rw [hr], by rw [hr]; exact hB⟩, (M.picks [0] rfl rfl).useG (by simp)⟩
theorem rdInt (b : Nat) (r : Rd) (sg : Seg) (hB : RdAt' b r sg) (ks : List Nat) (w0 : World) (M : St ks (keysOf [sg]) w0 w0 [sg] []) :
    Calls Try.prog 63 #[.pointer (some ⟨b, 0, none⟩)] w0 fun e w' => ∃ v, ∃ g : Seg, e = .returned v ∧ (v = i64 r.int.1 ∧ RdAt' b r.int.2 g) ∧ St ks (keysOf [sg]) w0 w' [g] [] := by
  have hrg := Rd.long_range hB.1
  skip
  refine calls_of 14 Try.func63 rfl rfl rfl ?_
  refine c_seq (c_region ?_)
  refine s_val (r_assign (v := .int _ _) rfl) ?_
  refine s_nil (e_then (c_seq (c_region ?_)))
  refine s_val (r_move (v := .pointer _) rfl) ?_
  refine s_call1 0 (cl52 rfl) rfl (rdLong b r _ hB) M (fun _ h => nomatch h) ?_
  rintro v g w ⟨rfl, hB⟩ M
  first | replace M := M.nf (L' := [_]) rfl | skip
  refine s_val (r_assign (v := .int _ _) rfl) ?_
  refine s_nil (e_then (c_seq (c_region ?_)))
  refine s_val (r_move (v := .int _ _) rfl) ?_
  refine s_val (r_shr rfl rfl (by decide) (sr (c := 2) (by decide) (by decide))) ?_
  first | (refine s_val (r_conv Try.underlying90 Try.underlying3 rfl (w64 (by omega) (by omega))) ?_) | (refine s_val (r_conv Try.underlying90 Try.underlying3 rfl rfl) ?_)
  refine s_val (r_move (v := .int _ _) rfl) ?_
  refine s_val (r_and rfl rfl and1) ?_
  first | (refine s_val (r_conv Try.underlying90 Try.underlying3 rfl (w64 (by omega) (by omega))) ?_) | (refine s_val (r_conv Try.underlying90 Try.underlying3 rfl rfl) ?_)
  first | (refine s_val (r_neg rfl (n64 (by omega) (by omega))) ?_) | (refine s_val (r_neg rfl rfl) ?_)
  refine s_val (r_xor rfl rfl (zagxor hrg.1 hrg.2 rfl rfl)) ?_
  refine s_val (r_assign (v := .int _ _) rfl) ?_
  refine s_nil (e_then (c_ret ?_))
  refine ret_run (res_1 (v := .int _ _) rfl rfl) ?_
  exact ⟨_, g, rfl, ⟨rfl, hB⟩, (M.picks [0] rfl rfl).useG (by simp)⟩
theorem rdWithin (b : Nat) (r : Rd) (sg : Seg) (hB : RdAt' b r sg) (p q : Int) (ks : List Nat) (w0 : World) (M : St ks (keysOf [sg]) w0 w0 [sg] []) :
    Calls Try.prog 53 #[.pointer (some ⟨b, 0, none⟩), i64 p, i64 q] w0 fun e w' => ∃ v, ∃ g : Seg, e = .returned v ∧ (v = i64 (r.within p q).1 ∧ RdAt' b (r.within p q).2 g) ∧ St ks (keysOf [sg]) w0 w' [g] [] := by
  skip
  refine calls_of 29 Try.func53 rfl rfl rfl ?_
  refine c_seq (c_region ?_)
  refine s_val (r_assign (v := .int _ _) rfl) ?_
  refine s_nil (e_then (c_seq (c_region ?_)))
  refine s_val (r_move (v := .pointer _) rfl) ?_
  refine s_call1 0 (cl63 rfl) rfl (rdInt b r _ hB) M (fun _ h => nomatch h) ?_
  rintro v g w ⟨rfl, hB⟩ M
  first | replace M := M.nf (L' := [_]) rfl | skip
  refine s_val (r_assign (v := .int _ _) rfl) ?_
  refine s_nil (e_then (c_seq (c_seq (c_region ?_))))
  refine s_val (r_move (v := .pointer _) rfl) ?_
  refine s_call1 0 (cl54 rfl) rfl (rdErr b _ _ hB) M (fun _ h => nomatch h) ?_
  rintro v g w ⟨rfl, hB⟩ M
  first | replace M := M.nf (L' := [_]) rfl | skip
  refine s_val (r_eql rfl rfl) ?_
  refine s_val (r_move (v := .bool _) rfl) ?_
  refine s_splitD 13 rfl (fun g13 => ?_) (fun g13 => ?_)
  ·
   refine s_unguard (yield_Fr rfl rfl) rfl ?_
   refine s_val (r_move (v := .int _ _) rfl) ?_
   refine s_unguard (yield_Fr rfl rfl) rfl ?_
   refine s_val (r_move (v := .int _ _) rfl) ?_
   refine s_unguard (yield_Fr rfl rfl) rfl ?_
   refine s_val (r_lss rfl rfl) ?_
   refine s_unguard (yield_Fr rfl rfl) rfl ?_
   refine s_val (r_move (v := .bool _) rfl) ?_
   refine s_splitD 17 rfl (fun g17 => ?_) (fun g17 => ?_)
   ·
    refine s_skip (yield_Fr rfl rfl) rfl ?_
    refine s_skip (yield_Fr rfl rfl) rfl ?_
    refine s_skip (yield_Fr rfl rfl) rfl ?_
    refine s_unguard (yield_Fr rfl rfl) rfl ?_
    refine s_val (r_pick (v := .bool _) rfl rfl) ?_
    refine s_val (r_pick (v := .bool _) rfl rfl) ?_
    refine s_nil (e_then ?_)
    refine c_yes rfl (by decide) ?_
    refine c_region ?_
    have hR : r.within1 p q = r.int.2.fail 2 := if_pos (by omega)
    refine s_val (r_move (v := .pointer _) rfl) ?_
    refine s_call1 0 (cl51 rfl) rfl (rdFail b _ _ hB 2) M (fun _ h => nomatch h) ?_
    rintro v g w ⟨rfl, hB⟩ M
    first | replace M := M.nf (L' := [_]) rfl | skip
    refine s_nil (e_then (c_seq (c_seq (c_region ?_))))
    replace hB : RdAt' b (r.within1 p q) g := by rw [hR]; exact hB
    refine s_val (r_move (v := .pointer _) rfl) ?_
    refine s_call1 0 (cl54 rfl) rfl (rdErr b _ _ hB) M (fun _ h => nomatch h) ?_
    rintro v g w ⟨rfl, hB⟩ M
    first | replace M := M.nf (L' := [_]) rfl | skip
    refine s_val (r_neq rfl rfl) ?_
    refine s_nil (e_then ?_)
    refine c_if rfl (fun h27 => ?_) (fun h27 => ?_)
    ·
     have hr : r.within p q = (0, r.within1 p q) := by rw [Rd.within, if_pos h27]
     refine c_seq (c_region ?_)
     refine s_val (r_assign (v := .int _ _) rfl) ?_
     refine s_nil (e_then (c_ret (e_then_ret ?_)))
     refine ret_run (res_1 (v := .int _ _) rfl rfl) ?_
     exact ⟨_, g, rfl, ⟨by rw [hr], by rw [hr]; exact hB⟩, (M.picks [0] rfl rfl).useG (by simp)⟩
    ·
     have hr : r.within p q = (r.int.1, r.within1 p q) := by rw [Rd.within, if_neg h27]
     refine c_skip (e_then (c_seq (c_region ?_)))
     refine s_val (r_move (v := .int _ _) rfl) ?_
     refine s_val (r_assign (v := .int _ _) rfl) ?_
     refine s_nil (e_then (c_ret ?_))
     refine ret_run (res_1 (v := .int _ _) rfl rfl) ?_
     exact ⟨_, g, rfl, ⟨by rw [hr], by rw [hr]; exact hB⟩, (M.picks [0] rfl rfl).useG (by simp)⟩
   ·
    refine s_unguard (yield_Fr rfl rfl) rfl ?_
    refine s_val (r_move (v := .int _ _) rfl) ?_
    refine s_unguard (yield_Fr rfl rfl) rfl ?_
    refine s_val (r_move (v := .int _ _) rfl) ?_
    refine s_unguard (yield_Fr rfl rfl) rfl ?_
    refine s_val (r_gtr rfl rfl) ?_
    refine s_unguard (yield_Fr rfl rfl) rfl ?_
    refine s_val (r_pick (v := .bool _) rfl rfl) ?_
    refine s_val (r_pick (v := .bool _) rfl rfl) ?_
    refine s_nil (e_then ?_)
    refine c_if rfl (fun h22 => ?_) (fun h22 => ?_)
    ·
     refine c_region ?_
     have hR : r.within1 p q = r.int.2.fail 2 := if_pos (by omega)
     refine s_val (r_move (v := .pointer _) rfl) ?_
     refine s_call1 0 (cl51 rfl) rfl (rdFail b _ _ hB 2) M (fun _ h => nomatch h) ?_
     rintro v g w ⟨rfl, hB⟩ M
     first | replace M := M.nf (L' := [_]) rfl | skip
     refine s_nil (e_then (c_seq (c_seq (c_region ?_))))
     replace hB : RdAt' b (r.within1 p q) g := by rw [hR]; exact hB
     refine s_val (r_move (v := .pointer _) rfl) ?_
     refine s_call1 0 (cl54 rfl) rfl (rdErr b _ _ hB) M (fun _ h => nomatch h) ?_
     rintro v g w ⟨rfl, hB⟩ M
     first | replace M := M.nf (L' := [_]) rfl | skip
     refine s_val (r_neq rfl rfl) ?_
     refine s_nil (e_then ?_)
     refine c_if rfl (fun h27 => ?_) (fun h27 => ?_)
     ·
      have hr : r.within p q = (0, r.within1 p q) := by rw [Rd.within, if_pos h27]
      refine c_seq (c_region ?_)
      refine s_val (r_assign (v := .int _ _) rfl) ?_
      refine s_nil (e_then (c_ret (e_then_ret ?_)))
      refine ret_run (res_1 (v := .int _ _) rfl rfl) ?_
      exact ⟨_, g, rfl, ⟨by rw [hr], by rw [hr]; exact hB⟩, (M.picks [0] rfl rfl).useG (by simp)⟩
     ·
      have hr : r.within p q = (r.int.1, r.within1 p q) := by rw [Rd.within, if_neg h27]
      refine c_skip (e_then (c_seq (c_region ?_)))
      refine s_val (r_move (v := .int _ _) rfl) ?_
      refine s_val (r_assign (v := .int _ _) rfl) ?_
      refine s_nil (e_then (c_ret ?_))
      refine ret_run (res_1 (v := .int _ _) rfl rfl) ?_
      exact ⟨_, g, rfl, ⟨by rw [hr], by rw [hr]; exact hB⟩, (M.picks [0] rfl rfl).useG (by simp)⟩
    ·
     refine c_skip (e_then (c_seq (c_seq (c_region ?_))))
     have hR : r.within1 p q = r.int.2 := if_neg (by omega)
     replace hB : RdAt' b (r.within1 p q) g := by rw [hR]; exact hB
     refine s_val (r_move (v := .pointer _) rfl) ?_
     refine s_call1 0 (cl54 rfl) rfl (rdErr b _ _ hB) M (fun _ h => nomatch h) ?_
     rintro v g w ⟨rfl, hB⟩ M
     first | replace M := M.nf (L' := [_]) rfl | skip
     refine s_val (r_neq rfl rfl) ?_
     refine s_nil (e_then ?_)
     refine c_if rfl (fun h27 => ?_) (fun h27 => ?_)
     ·
      have hr : r.within p q = (0, r.within1 p q) := by rw [Rd.within, if_pos h27]
      refine c_seq (c_region ?_)
      refine s_val (r_assign (v := .int _ _) rfl) ?_
      refine s_nil (e_then (c_ret (e_then_ret ?_)))
      refine ret_run (res_1 (v := .int _ _) rfl rfl) ?_
      exact ⟨_, g, rfl, ⟨by rw [hr], by rw [hr]; exact hB⟩, (M.picks [0] rfl rfl).useG (by simp)⟩
     ·
      have hr : r.within p q = (r.int.1, r.within1 p q) := by rw [Rd.within, if_neg h27]
      refine c_skip (e_then (c_seq (c_region ?_)))
      refine s_val (r_move (v := .int _ _) rfl) ?_
      refine s_val (r_assign (v := .int _ _) rfl) ?_
      refine s_nil (e_then (c_ret ?_))
      refine ret_run (res_1 (v := .int _ _) rfl rfl) ?_
      exact ⟨_, g, rfl, ⟨by rw [hr], by rw [hr]; exact hB⟩, (M.picks [0] rfl rfl).useG (by simp)⟩
  ·
   refine s_skip (yield_Fr rfl rfl) rfl ?_
   refine s_skip (yield_Fr rfl rfl) rfl ?_
   refine s_skip (yield_Fr rfl rfl) rfl ?_
   refine s_skip (yield_Fr rfl rfl) rfl ?_
   refine s_skipU (yield_U rfl rfl) ?_
   refine s_skipU (yield_U rfl rfl) ?_
   refine s_skipU (yield_U rfl rfl) ?_
   refine s_skip (yield_Fr rfl rfl) rfl ?_
   refine s_val (r_pick (v := .bool _) rfl rfl) ?_
   refine s_nil (e_then ?_)
   refine c_no rfl (by decide) ?_
   refine c_skip (e_then (c_seq (c_seq (c_region ?_))))
   have hR : r.within1 p q = r.int.2 := if_neg (by omega)
   replace hB : RdAt' b (r.within1 p q) g := by rw [hR]; exact hB
   refine s_val (r_move (v := .pointer _) rfl) ?_
   refine s_call1 0 (cl54 rfl) rfl (rdErr b _ _ hB) M (fun _ h => nomatch h) ?_
   rintro v g w ⟨rfl, hB⟩ M
   first | replace M := M.nf (L' := [_]) rfl | skip
   refine s_val (r_neq rfl rfl) ?_
   refine s_nil (e_then ?_)
   refine c_if rfl (fun h27 => ?_) (fun h27 => ?_)
   ·
    have hr : r.within p q = (0, r.within1 p q) := by rw [Rd.within, if_pos h27]
    refine c_seq (c_region ?_)
    refine s_val (r_assign (v := .int _ _) rfl) ?_
    refine s_nil (e_then (c_ret (e_then_ret ?_)))
    refine ret_run (res_1 (v := .int _ _) rfl rfl) ?_
    exact ⟨_, g, rfl, ⟨by rw [hr], by rw [hr]; exact hB⟩, (M.picks [0] rfl rfl).useG (by simp)⟩
   ·
    have hr : r.within p q = (r.int.1, r.within1 p q) := by rw [Rd.within, if_neg h27]
    refine c_skip (e_then (c_seq (c_region ?_)))
    refine s_val (r_move (v := .int _ _) rfl) ?_
    refine s_val (r_assign (v := .int _ _) rfl) ?_
    refine s_nil (e_then (c_ret ?_))
    refine ret_run (res_1 (v := .int _ _) rfl rfl) ?_
    exact ⟨_, g, rfl, ⟨by rw [hr], by rw [hr]; exact hB⟩, (M.picks [0] rfl rfl).useG (by simp)⟩
theorem rdBytes (b : Nat) (r : Rd) (sg : Seg) (hB : RdAt' b r sg) (k : Nat) (hk : k ≤ 1000000) (ks : List Nat) (w0 : World) (M : St ks (keysOf [sg]) w0 w0 [sg] []) :
    Calls Try.prog 35 #[.pointer (some ⟨b, 0, none⟩), i64 k] w0 fun e w' => ∃ v, ∃ g : Seg × Sl × Seg, e = .returned v ∧ (v = g.2.1.v (r.bytes k).1.length ∧ RdAt' b (r.bytes k).2 g.1 ∧ Own 5 1 g.2.1 (r.bytes k).1.length (bv (r.bytes k).1) g.2.2) ∧ St ks (keysOf [sg]) w0 w' [g.1, g.2.2] [] := by
  have hok2 := hB.1.bytes k
  skip
  refine calls_of 46 Try.func35 rfl rfl rfl ?_
  refine c_seq (c_region ?_)
  refine s_val (r_assign (v := .slice _ _ _) rfl) ?_
  refine s_nil (e_then (c_seq (c_seq (c_region ?_))))
  refine s_val (r_move (v := .int _ _) rfl) ?_
  refine s_val (r_lss rfl rfl) ?_
  refine s_val (r_move (v := .bool _) rfl) ?_
  refine s_splitD 7 rfl (fun g7 => ?_) (fun g7 => ?_)
  ·
   refine s_skip (yield_Fr rfl rfl) rfl ?_
   refine s_skip (yield_Fr rfl rfl) rfl ?_
   refine s_skip (yield_Fr rfl rfl) rfl ?_
   refine s_skip (yield_Fr rfl rfl) rfl ?_
   refine s_val (r_pick (v := .bool _) rfl rfl) ?_
   refine s_nil (e_then ?_)
   refine c_yes rfl (by decide) ?_
   have hr : r.bytes k = ([], r.fail 3) := if_pos (by omega)
   refine c_seq (c_region ?_)
   refine s_val (r_move (v := .pointer _) rfl) ?_
   refine s_call1 0 (cl51 rfl) rfl (rdFail b _ _ hB 3) M (fun _ h => nomatch h) ?_
   rintro v g w ⟨rfl, hB⟩ M
   first | replace M := M.nf (L' := [_]) rfl | skip
   refine s_nil (e_then (c_seq (c_region ?_)))
   refine s_val (r_assign (v := .slice _ _ _) rfl) ?_
   refine s_nil (e_then (c_ret (e_then_ret ?_)))
   refine ret_run (res_1 (v := .slice _ _ _) rfl rfl) ?_
   exact ⟨_, (g, ⟨none, 0⟩, []), rfl, ⟨by rw [hr]; rfl, by rw [hr]; exact hB, by rw [hr]; exact Own.nil _ _⟩, ((M.picks [0] rfl rfl).useG (by simp)).flat rfl⟩
  ·
   refine s_unguard (yield_Fr rfl rfl) rfl ?_
   refine s_val (r_move (v := .int _ _) rfl) ?_
   refine s_unguard (yield_Fr rfl rfl) rfl ?_
   refine s_val (r_move (v := .pointer _) rfl) ?_
   refine s_unguard (yield_Fr rfl rfl) rfl ?_
   refine s_call1 0 (cl50 rfl) rfl (rdLeft b r _ hB) M (fun _ h => nomatch h) ?_
   rintro v g w ⟨rfl, hB⟩ M
   first | replace M := M.nf (L' := [_]) rfl | skip
   refine s_unguard (yield_Fr rfl rfl) rfl ?_
   refine s_val (r_gtr rfl rfl) ?_
   refine s_val (r_pick (v := .bool _) rfl rfl) ?_
   refine s_nil (e_then ?_)
   refine c_if rfl (fun h12 => ?_) (fun h12 => ?_)
   ·
    have hr : r.bytes k = ([], r.fail 3) := if_pos (by omega)
    refine c_seq (c_region ?_)
    refine s_val (r_move (v := .pointer _) rfl) ?_
    refine s_call1 0 (cl51 rfl) rfl (rdFail b _ _ hB 3) M (fun _ h => nomatch h) ?_
    rintro v g w ⟨rfl, hB⟩ M
    first | replace M := M.nf (L' := [_]) rfl | skip
    refine s_nil (e_then (c_seq (c_region ?_)))
    refine s_val (r_assign (v := .slice _ _ _) rfl) ?_
    refine s_nil (e_then (c_ret (e_then_ret ?_)))
    refine ret_run (res_1 (v := .slice _ _ _) rfl rfl) ?_
    exact ⟨_, (g, ⟨none, 0⟩, []), rfl, ⟨by rw [hr]; rfl, by rw [hr]; exact hB, by rw [hr]; exact Own.nil _ _⟩, ((M.picks [0] rfl rfl).useG (by simp)).flat rfl⟩
   ·
    have hn1 : ¬ (k : Int) > r.left := by omega
    refine c_skip (e_then (c_seq (c_seq (c_region ?_))))
    refine s_val (r_move (v := .pointer _) rfl) ?_
    refine s_val (r_eqlnil Try.underlying104 rfl rfl) ?_
    refine s_val (r_move (v := .bool _) rfl) ?_
    refine s_unguard (yield_Fr rfl rfl) rfl ?_
    refine s_val (r_move (v := .int _ _) rfl) ?_
    refine s_unguard (yield_Fr rfl rfl) rfl ?_
    refine s_val (r_eql rfl rfl) ?_
    refine s_val (r_pick (v := .bool _) rfl rfl) ?_
    refine s_nil (e_then ?_)
    refine c_if rfl (fun h20 => ?_) (fun h20 => ?_)
    ·
     refine c_seq (c_region ?_)
     have hr : r.bytes k = ([], r) := by rw [Rd.bytes, if_neg hn1, if_pos (by omega)]
     refine s_val (r_assign (v := .slice _ _ _) rfl) ?_
     refine s_nil (e_then (c_ret (e_then_ret ?_)))
     refine ret_run (res_1 (v := .slice _ _ _) rfl rfl) ?_
     exact ⟨_, (g, ⟨none, 0⟩, []), rfl, ⟨by rw [hr]; rfl, by rw [hr]; exact hB, by rw [hr]; exact Own.nil _ _⟩, ((M.picks [0] rfl rfl).useG (by simp)).flat rfl⟩
    ·
     refine c_skip (e_then (c_seq (c_region ?_)))
     have hk0 : ¬ k = 0 := by omega
     have hr : r.bytes k = ((r.b.drop r.at_).take k, ⟨r.b, r.at_ + k, r.err⟩) := by rw [Rd.bytes, if_neg hn1, if_neg hk0]
     obtain ⟨hl1, hl2⟩ := Rd.left_pos (r := r) (by omega)
     obtain ⟨hok, s, sg', hO, rfl⟩ := hB
     have hk1 := hok.at_
     have hk2 := hok.len
     replace M := (M.picks [0] rfl rfl).flat (L' := [[(b, C [s.v r.b.length, i64 r.at_, i64 r.err] 119)], sg']) rfl
     have hcap := (hO.slF M (k := 1) rfl (by decide)).cap
     have htk : ((r.b.drop r.at_).take k).length = k := by simp; omega
     --nL=2 --slot 0=own(0,0,0)
     refine s_val (r_move (v := .pointer _) rfl) ?_
     refine s_val (r_nil rfl) ?_
     refine s_val (r_fieldAddr (o' := 1) fb119_1 (by decide) rfl rfl) ?_
     refine a_load1 (v := .int _ _) Try.underlying3 rfl M rfl (k := 0) (j := 0) rfl rfl rfl ?_
     refine s_val (r_move (v := .int _ _) rfl) ?_
     first | (refine s_val (r_add rfl rfl (w64 (by omega) (by omega))) ?_) | (refine s_val (r_add rfl rfl rfl) ?_)
     refine s_val (r_nil rfl) ?_
     refine s_val (r_fieldAddr (o' := 1) fb119_1 (by decide) rfl rfl) ?_
     refine a_store (v := .int _ _) sz3 M rfl rfl rfl (k := 0) (j := 0) rfl rfl rfl rfl rfl ?_
     intro w M
     first | replace M := M.nf (L' := [_, _]) rfl | skip
     refine s_nil (e_then (c_seq ?_))
     refine c_drawK (by kernel_rfl) [(.fl, 0), (.q, 1), (.q, 2), (.q, 3), (.q, 4), (.q, 5), (.q, 6), (.q, 7), (.q, 8), (.q, 9), (.q, 10), (.q, 11), (.q, 12), (.q, 13), (.q, 14), (.q, 15), (.ch, 16), (.q, 17)] [[], [], [1], [1, 2], [1, 2, 3], [], [5], [5, 6], [5, 6, 7], [], [5, 6, 7, 8, 9], [], [11], [11, 12], [11, 12, 13], [1, 2, 3, 4, 5, 6, 7, 8, 9, 10, 11, 12, 13, 14], [0, 1, 2, 3, 4, 5, 6, 7, 8, 9, 10, 11, 12, 13, 14, 15], [0, 1, 2, 3, 4, 5, 6, 7, 8, 9, 10, 11, 12, 13, 14, 15, 16]] (by kernel_rfl) [] M ?_
     refine w_buildSliceS (cs := []) rfl wt_none Try.underlying63 sz5 zr5 rfl rfl (by decide) rfl (ps := []) (qs := []) rfl trivial rfl ?_
     intro b29
     first | refine w_nf (L' := [_, _, [(_, _)]]) rfl ?_ | skip
     refine w_val rfl wt_none (fun w => (r_move (v := .pointer _) rfl)) ?_
     refine w_val rfl wt_none (fun w => (r_nil rfl)) ?_
     refine w_val rfl wt_none (fun w => (r_fieldAddr (o' := 0) fb119_0 (by decide) rfl rfl)) ?_
     refine w_read (v := .slice _ _ _) rfl wt_none (fun w X G' M => r_load1 Try.underlying63 rfl rfl (M.cell (k := 0) (j := 0) rfl rfl rfl)) ?_
     refine w_val rfl wt_none (fun w => (r_move (v := .pointer _) rfl)) ?_
     refine w_val rfl wt_none (fun w => (r_nil rfl)) ?_
     refine w_val rfl wt_none (fun w => (r_fieldAddr (o' := 1) fb119_1 (by decide) rfl rfl)) ?_
     refine w_read (v := .int _ _) rfl wt_none (fun w X G' M => r_load1 Try.underlying3 rfl rfl (M.cell (k := 0) (j := 0) rfl rfl rfl)) ?_
     refine w_val rfl wt_none (fun w => (r_move (v := .int _ _) rfl)) ?_
     first | (refine w_val rfl wt_none (fun w => (r_sub rfl rfl (w64 (by omega) (by omega)))) ?_) | (refine w_val rfl wt_none (fun w => (r_sub rfl rfl rfl)) ?_)
     refine w_val rfl wt_none (fun w => (r_move (v := .pointer _) rfl)) ?_
     refine w_val rfl wt_none (fun w => (r_nil rfl)) ?_
     refine w_val rfl wt_none (fun w => (r_fieldAddr (o' := 1) fb119_1 (by decide) rfl rfl)) ?_
     refine w_read (v := .int _ _) rfl wt_none (fun w X G' M => r_load1 Try.underlying3 rfl rfl (M.cell (k := 0) (j := 0) rfl rfl rfl)) ?_
     refine w_val rfl wt_none (fun w => (r_sliceLH Try.underlying63 sz5 rfl rfl rfl (by omega) (by omega) (by omega))) ?_
     refine w_append 2 rfl wt_none Try.underlying63 sz5 by5 zr5 rfl rfl rfl (own_lit (n := 0) rfl (by decide)) rfl rfl (fun w X M => (SlF.src Try.underlying63 (slF_cut (i := ((r.at_ : Int) + k - k).toNat) (j := ((r.at_ : Int) + k).toNat) (hO.slF M (k := 1) rfl (by decide)) (by omega) (by omega)) (bv_one _))) (by simp only [maxLen]; omega) (by omega) (fun _ => (by repeat (first | exact trivial | refine ⟨.inr rfl, ?_⟩ | refine ⟨.inl rfl, ?_⟩))) (fun _ h => h) ?_
     intro s1 sg1 hO1
     first | refine w_nf (L' := [_, _, _]) rfl ?_ | skip
     refine w_val rfl wt_none (fun w => (r_assign (v := .slice _ _ _) rfl)) ?_
     refine w_nil ?_
     intro w M
     refine e_then (c_ret ?_)
     refine ret_run (res_1 (v := .slice _ _ _) rfl rfl) ?_
     have e1 : ((r.at_ : Int) + k - k).toNat = r.at_ := by omega
     have e2 : ((r.at_ : Int) + k).toNat - r.at_ = k := by omega
     rw [e1, e2] at hO1
     exact ⟨_, ((b, C [s.v r.b.length, i64 ((r.at_ : Int) + k), i64 r.err] 119) :: sg', s1, sg1), rfl, ⟨by rw [hr, htk, e1, e2, Nat.zero_add], ⟨hok2, by rw [hr]; exact ⟨s, sg', hO, rfl⟩⟩, by rw [hr, htk]; simpa [fillS, zeros] using hO1⟩, (M.picks [0, 1, 2] rfl rfl).flat rfl⟩

theorem rdEnd (b : Nat) (r : Rd) (sg : Seg) (hB : RdAt' b r sg) (ks : List Nat) (w0 : World) (M : St ks (keysOf [sg]) w0 w0 [sg] []) :
    Calls Try.prog 40 #[.pointer (some ⟨b, 0, none⟩)] w0 fun e w' => ∃ v, ∃ g : Seg, e = .returned v ∧ (v = i64 r.fin ∧ RdAt' b r g) ∧ St ks (keysOf [sg]) w0 w' [g] [] := by
  have hB0 := hB
  obtain ⟨hok, s, sg', hO, rfl⟩ := hB
  have hk1 := hok.at_
  have hk2 := hok.len
  replace M := M.flat (L' := [[(b, C [s.v r.b.length, i64 r.at_, i64 r.err] 119)], sg']) rfl
  refine calls_of 26 Try.func40 rfl rfl rfl ?_
  refine c_seq (c_region ?_)
  refine s_val (r_assign (v := .int _ _) rfl) ?_
  refine s_nil (e_then (c_seq (c_seq ?_)))
  refine c_drawK (by kernel_rfl) [(.q, 0), (.q, 1), (.q, 2), (.q, 3), (.q, 4), (.q, 5), (.q, 6), (.q, 7), (.q, 8), (.q, 9), (.q, 10), (.q, 11), (.q, 12), (.q, 13), (.q, 14), (.q, 15), (.q, 16), (.q, 17), (.q, 18), (.q, 19), (.q, 20)] [[], [0], [0, 1], [0, 1, 2], [0, 1, 2, 3], [0, 1, 2, 3, 4], [0, 1, 2, 3, 4, 5], [0, 1, 2, 3, 4, 5, 6], [0, 1, 2, 3, 4, 5, 6, 7], [0, 1, 2, 3, 4, 5, 6, 7, 8], [0, 1, 2, 3, 4, 5, 6, 7, 8, 9], [0, 1, 2, 3, 4, 5, 6, 7, 8, 9, 10], [0, 1, 2, 3, 4, 5, 6, 7, 8, 9, 10, 11], [0, 1, 2, 3, 4, 5, 6, 7, 8, 9, 10, 11, 12], [0, 1, 2, 3, 4, 5, 6, 7, 8, 9], [0, 1, 2, 3, 4, 5, 6, 7, 8, 9, 14], [0, 1, 2, 3, 4, 5, 6, 7, 8, 9, 14, 15], [0, 1, 2, 3, 4, 5, 6, 7, 8, 9, 14, 15, 16], [0, 1, 2, 3, 4, 5, 6, 7, 8, 9, 14, 15, 16, 17], [0, 1, 2, 3, 4, 5, 6, 7, 8, 9, 10, 11, 12, 13, 14, 15, 16, 17, 18], [0, 1, 2, 3, 4, 5, 6, 7, 8, 9, 10, 11, 12, 13, 14, 15, 16, 17, 18, 19]] (by kernel_rfl) [] M ?_
  refine w_val rfl wt_none (fun w => (r_move (v := .pointer _) rfl)) ?_
  refine w_val rfl wt_none (fun w => (r_neqnil Try.underlying104 rfl rfl)) ?_
  refine w_val rfl wt_none (fun w => (r_move (v := .bool _) rfl)) ?_
  refine w_val rfl (wt_yes rfl rfl rfl) (fun w => (r_move (v := .pointer _) rfl)) ?_
  refine w_val rfl (wt_yes rfl rfl rfl) (fun w => (r_nil rfl)) ?_
  refine w_val rfl (wt_yes rfl rfl rfl) (fun w => (r_fieldAddr (o' := 2) fb119_2 (by decide) rfl rfl)) ?_
  refine w_read (v := .int _ _) rfl (wt_yes rfl rfl rfl) (fun w X G' M => r_load1 Try.underlying66 rfl rfl (M.cell (k := 0) (j := 0) rfl rfl rfl)) ?_
  refine w_val rfl (wt_yes rfl rfl rfl) (fun w => (r_eql rfl rfl)) ?_
  refine w_val rfl wt_none (fun w => (r_pick (v := .bool _) rfl rfl)) ?_
  refine w_val rfl wt_none (fun w => (r_move (v := .bool _) rfl)) ?_
  refine w_splitD 12 rfl (fun g12 => ?_) (fun g12 => ?_)
  ·
   refine w_val rfl (wt_yes rfl rfl rfl) (fun w => (r_move (v := .pointer _) rfl)) ?_
   refine w_val rfl (wt_yes rfl rfl rfl) (fun w => (r_nil rfl)) ?_
   refine w_val rfl (wt_yes rfl rfl rfl) (fun w => (r_fieldAddr (o' := 1) fb119_1 (by decide) rfl rfl)) ?_
   refine w_read (v := .int _ _) rfl (wt_yes rfl rfl rfl) (fun w X G' M => r_load1 Try.underlying3 rfl rfl (M.cell (k := 0) (j := 0) rfl rfl rfl)) ?_
   refine w_val rfl (wt_yes rfl rfl rfl) (fun w => (r_move (v := .pointer _) rfl)) ?_
   refine w_val rfl (wt_yes rfl rfl rfl) (fun w => (r_nil rfl)) ?_
   refine w_val rfl (wt_yes rfl rfl rfl) (fun w => (r_fieldAddr (o' := 0) fb119_0 (by decide) rfl rfl)) ?_
   refine w_read (v := .slice _ _ _) rfl (wt_yes rfl rfl rfl) (fun w X G' M => r_load1 Try.underlying63 rfl rfl (M.cell (k := 0) (j := 0) rfl rfl rfl)) ?_
   refine w_val rfl (wt_yes rfl rfl rfl) (fun w => (r_len Try.underlying63 rfl)) ?_
   refine w_val rfl (wt_yes rfl rfl rfl) (fun w => (r_lss rfl rfl)) ?_
   refine w_val rfl wt_none (fun w => (r_pick (v := .bool _) rfl rfl)) ?_
   refine w_nil ?_
   intro w M
   refine e_then ?_
   refine c_if rfl (fun h23 => ?_) (fun h23 => ?_)
   ·
    refine c_seq (c_region ?_)
    have hr : r.fin = 15 := if_pos (by omega)
    replace M := M.flat (L' := [(b, C [s.v r.b.length, i64 r.at_, i64 r.err] 119) :: sg']) rfl
    have hBg : RdAt' b r ((b, C [s.v r.b.length, i64 r.at_, i64 r.err] 119) :: sg') := hB0
    refine s_val (r_assign (v := .int _ _) rfl) ?_
    refine s_nil (e_then (c_ret (e_then_ret ?_)))
    refine ret_run (res_1 (v := .int _ _) rfl rfl) ?_
    exact ⟨_, _, rfl, ⟨by rw [hr], hBg⟩, (M.picks [0] rfl rfl).useG (by simp)⟩
   ·
    refine c_skip (e_then (c_seq (c_region ?_)))
    have hr : r.fin = r.err := if_neg (by omega)
    replace M := M.flat (L' := [(b, C [s.v r.b.length, i64 r.at_, i64 r.err] 119) :: sg']) rfl
    refine s_val (r_move (v := .pointer _) rfl) ?_
    refine s_call1 0 (cl54 rfl) rfl (rdErr b _ _ hB0) M (fun _ h => nomatch h) ?_
    rintro v g w ⟨rfl, hBg⟩ M
    first | replace M := M.nf (L' := [_, _]) rfl | skip
    refine s_val (r_assign (v := .int _ _) rfl) ?_
    refine s_nil (e_then (c_ret ?_))
    refine ret_run (res_1 (v := .int _ _) rfl rfl) ?_
    exact ⟨_, _, rfl, ⟨by rw [hr], hBg⟩, (M.picks [0] rfl rfl).useG (by simp)⟩
  ·
   refine w_skip rfl (wt_no rfl rfl rfl) ?_
   refine w_skip rfl (wt_no rfl rfl rfl) ?_
   refine w_skip rfl (wt_no rfl rfl rfl) ?_
   refine w_skip rfl (wt_no rfl rfl rfl) ?_
   refine w_skip rfl (wt_no rfl rfl rfl) ?_
   refine w_skip rfl (wt_no rfl rfl rfl) ?_
   refine w_skip rfl (wt_no rfl rfl rfl) ?_
   refine w_skip rfl (wt_no rfl rfl rfl) ?_
   refine w_skip rfl (wt_no rfl rfl rfl) ?_
   refine w_skip rfl (wt_no rfl rfl rfl) ?_
   refine w_val rfl wt_none (fun w => (r_pick (v := .bool _) rfl rfl)) ?_
   refine w_nil ?_
   intro w M
   refine e_then ?_
   refine c_no rfl (by decide) ?_
   refine c_skip (e_then (c_seq (c_region ?_)))
   have hr : r.fin = r.err := if_neg (by omega)
   replace M := M.flat (L' := [(b, C [s.v r.b.length, i64 r.at_, i64 r.err] 119) :: sg']) rfl
   refine s_val (r_move (v := .pointer _) rfl) ?_
   refine s_call1 0 (cl54 rfl) rfl (rdErr b _ _ hB0) M (fun _ h => nomatch h) ?_
   rintro v g w ⟨rfl, hBg⟩ M
   first | replace M := M.nf (L' := [_, _]) rfl | skip
   refine s_val (r_assign (v := .int _ _) rfl) ?_
   refine s_nil (e_then (c_ret ?_))
   refine ret_run (res_1 (v := .int _ _) rfl rfl) ?_
   exact ⟨_, _, rfl, ⟨by rw [hr], hBg⟩, (M.picks [0] rfl rfl).useG (by simp)⟩
theorem rdRead (s : Sl) (n : Nat) (l : List Int) (hl : By8 l) (hn : n = l.length) (hn2 : n ≤ 1000000) (ks : List Nat) (w0 : World) (M : St ks [] w0 w0 [] [SlF s n 1 (bv l)]) :
    Calls Try.prog 34 #[s.v n] w0 fun e w' => ∃ v, ∃ g : Nat × Seg, e = .returned v ∧ (v = .pointer (some ⟨g.1, 0, none⟩) ∧ RdAt' g.1 (readB l) g.2) ∧ St ks [] w0 w' [g.2] [] := by
  skip
  refine calls_of 8 Try.func34 rfl rfl rfl ?_
  refine c_seq (c_region ?_)
  refine s_val (r_assign (v := .pointer _) rfl) ?_
  refine s_nil (e_then (c_seq (c_region ?_)))
  refine a_buildSliceS (cs := []) Try.underlying63 sz5 zr5 rfl rfl (by decide) rfl (ps := []) (qs := []) rfl trivial rfl M ?_
  intro b3 w M
  first | replace M := M.nf (L' := [[(_, _)]]) rfl | skip
  refine s_val (r_move (v := .slice _ _ _) rfl) ?_
  refine a_append 0 Try.underlying63 sz5 by5 zr5 rfl rfl M rfl (own_lit (n := 0) rfl (by decide)) rfl rfl ((M.fact (j := 0) rfl).src Try.underlying63 (bv_one _)) (by simp only [maxLen]; omega) (by omega) ?_
  intro s1 sg1 w hO1 M
  first | replace M := M.nf (L' := [_]) rfl | skip
  refine s_val (r_buildS (cs := [_, _, _]) zr119 cells_agg pl119 (ps := [(0, .slice _ _ _)]) (qs := [(0, [_])]) rfl ⟨rfl, rfl, rfl, trivial⟩ rfl) ?_
  have hO2 : Own 5 1 s1 n (bv l) sg1 := by simpa [fillS, zeros] using hO1
  refine a_box (v := .agg _) rfl cells_agg M ?_
  intro b7 w M
  first | replace M := M.nf (L' := [_, [(_, _)]]) rfl | skip
  refine s_val (r_assign (v := .pointer _) rfl) ?_
  refine s_nil (e_then (c_ret ?_))
  refine ret_run (res_1 (v := .pointer _) rfl rfl) ?_
  refine ⟨_, (b7, (b7, C [s1.v (0 + n), i64 0, i64 0] 119) :: sg1), rfl, ⟨rfl, ⟨Nat.zero_le _, hl, by show l.length ≤ 1000000; omega⟩, s1, sg1, ?_, ?_⟩, ((M.picks [1, 0] rfl rfl).useG (by simp)).flat rfl⟩
  · show Own _ 1 s1 l.length (bv l) sg1
    rw [← hn]; exact hO2
  · show _ = (b7, C [s1.v l.length, i64 0, i64 0] _) :: sg1
    rw [Nat.zero_add, hn]
theorem vectorOf (b : Nat) (r : Rd) (sg : Seg) (hB : RdAt' b r sg) (m : Int) (h0 : 0 ≤ m) (h1 : m ≤ 9223372036854775807) (ks : List Nat) (w0 : World) (M : St ks (keysOf [sg]) w0 w0 [sg] []) :
    Calls Try.prog 37 #[.pointer (some ⟨b, 0, none⟩), i64 m] w0 fun e w' => ∃ v, ∃ g : Seg, e = .returned v ∧ (v = .agg (v4 (vecTk r m).1).toArray ∧ RdAt' b (vecTk r m).2 g) ∧ St ks (keysOf [sg]) w0 w' [g] [] := by
  skip
  refine calls_of 19 Try.func37 rfl rfl rfl ?_
  refine c_seq (c_region ?_)
  refine a_alloc zr31 cells_agg M ?_
  intro b4 w M
  first | replace M := M.nf (L' := [_, [(_, _)]]) rfl | skip
  refine s_nil (e_then (c_seq (c_region ?_)))
  refine a_alloc zr31 cells_agg M ?_
  intro b5 w M
  first | replace M := M.nf (L' := [_, [(_, _)], [(_, _)]]) rfl | skip
  refine s_nil (e_then (c_seq (c_seq (c_region ?_))))
  refine s_val (r_move (v := .int _ _) rfl) ?_
  refine s_nil (e_then (c_block ?_))
  refine c_rounds 5 ?_
  refine c_round (c_seq (c_region ?_))
  refine s_val (r_lss rfl rfl) ?_
  refine s_nil (e_then (c_seq ?_))
  refine c_yes rfl (by decide) ?_
  refine c_skip (e_then (c_seq (c_block (c_seq (c_region ?_)))))
  refine s_val (r_move (v := .int _ _) rfl) ?_
  refine s_val (r_assign (v := .int _ _) rfl) ?_
  refine s_nil (e_then (c_region ?_))
  refine s_val (r_move (v := .int _ _) rfl) ?_
  refine s_val (r_move (v := .pointer _) rfl) ?_
  refine s_val (r_move (v := .int _ _) rfl) ?_
  first | (refine s_val (r_neg rfl (n64 (by omega) (by omega))) ?_) | (refine s_val (r_neg rfl rfl) ?_)
  refine s_val (r_move (v := .int _ _) rfl) ?_
  refine s_call1 0 (cl53 rfl) rfl (rdWithin b _ _ hB _ _) M (fun _ h => nomatch h) ?_
  rintro v g w ⟨rfl, hB⟩ M
  first | replace M := M.nf (L' := [_, [(_, _)], [(_, _)]]) rfl | skip
  refine s_val (r_indexAddrA (o' := 0) Try.underlying31 sz3 rfl rfl (by omega) (by omega) rfl) ?_
  refine a_storeS (v := .int _ _) (cs' := [_, _, _, _]) sz3 M rfl rfl rfl (k := 2) (j := 0) rfl rfl rfl rfl rfl rfl ?_
  intro w M
  first | replace M := M.nf (L' := [_, [(_, _)], [(_, _)]]) rfl | skip
  refine s_nil (e_blk (e_then (c_region ?_)))
  refine s_val (r_add (n := 1) rfl rfl (by decide)) ?_
  refine s_val (r_move (v := .int _ _) rfl) ?_
  refine s_nil (e_then (c_round (c_seq (c_region ?_))))
  refine s_val (r_lss rfl rfl) ?_
  refine s_nil (e_then (c_seq ?_))
  refine c_yes rfl (by decide) ?_
  refine c_skip (e_then (c_seq (c_block (c_seq (c_region ?_)))))
  refine s_val (r_move (v := .int _ _) rfl) ?_
  refine s_val (r_assign (v := .int _ _) rfl) ?_
  refine s_nil (e_then (c_region ?_))
  refine s_val (r_move (v := .int _ _) rfl) ?_
  refine s_val (r_move (v := .pointer _) rfl) ?_
  refine s_val (r_move (v := .int _ _) rfl) ?_
  first | (refine s_val (r_neg rfl (n64 (by omega) (by omega))) ?_) | (refine s_val (r_neg rfl rfl) ?_)
  refine s_val (r_move (v := .int _ _) rfl) ?_
  refine s_call1 0 (cl53 rfl) rfl (rdWithin b _ _ hB _ _) M (fun _ h => nomatch h) ?_
  rintro v g w ⟨rfl, hB⟩ M
  first | replace M := M.nf (L' := [_, [(_, _)], [(_, _)]]) rfl | skip
  refine s_val (r_indexAddrA (o' := 1) Try.underlying31 sz3 rfl rfl (by omega) (by omega) rfl) ?_
  refine a_storeS (v := .int _ _) (cs' := [_, _, _, _]) sz3 M rfl rfl rfl (k := 2) (j := 0) rfl rfl rfl rfl rfl rfl ?_
  intro w M
  first | replace M := M.nf (L' := [_, [(_, _)], [(_, _)]]) rfl | skip
  refine s_nil (e_blk (e_then (c_region ?_)))
  refine s_val (r_add (n := 2) rfl rfl (by decide)) ?_
  refine s_val (r_move (v := .int _ _) rfl) ?_
  refine s_nil (e_then (c_round (c_seq (c_region ?_))))
  refine s_val (r_lss rfl rfl) ?_
  refine s_nil (e_then (c_seq ?_))
  refine c_yes rfl (by decide) ?_
  refine c_skip (e_then (c_seq (c_block (c_seq (c_region ?_)))))
  refine s_val (r_move (v := .int _ _) rfl) ?_
  refine s_val (r_assign (v := .int _ _) rfl) ?_
  refine s_nil (e_then (c_region ?_))
  refine s_val (r_move (v := .int _ _) rfl) ?_
  refine s_val (r_move (v := .pointer _) rfl) ?_
  refine s_val (r_move (v := .int _ _) rfl) ?_
  first | (refine s_val (r_neg rfl (n64 (by omega) (by omega))) ?_) | (refine s_val (r_neg rfl rfl) ?_)
  refine s_val (r_move (v := .int _ _) rfl) ?_
  refine s_call1 0 (cl53 rfl) rfl (rdWithin b _ _ hB _ _) M (fun _ h => nomatch h) ?_
  rintro v g w ⟨rfl, hB⟩ M
  first | replace M := M.nf (L' := [_, [(_, _)], [(_, _)]]) rfl | skip
  refine s_val (r_indexAddrA (o' := 2) Try.underlying31 sz3 rfl rfl (by omega) (by omega) rfl) ?_
  refine a_storeS (v := .int _ _) (cs' := [_, _, _, _]) sz3 M rfl rfl rfl (k := 2) (j := 0) rfl rfl rfl rfl rfl rfl ?_
  intro w M
  first | replace M := M.nf (L' := [_, [(_, _)], [(_, _)]]) rfl | skip
  refine s_nil (e_blk (e_then (c_region ?_)))
  refine s_val (r_add (n := 3) rfl rfl (by decide)) ?_
  refine s_val (r_move (v := .int _ _) rfl) ?_
  refine s_nil (e_then (c_round (c_seq (c_region ?_))))
  refine s_val (r_lss rfl rfl) ?_
  refine s_nil (e_then (c_seq ?_))
  refine c_yes rfl (by decide) ?_
  refine c_skip (e_then (c_seq (c_block (c_seq (c_region ?_)))))
  refine s_val (r_move (v := .int _ _) rfl) ?_
  refine s_val (r_assign (v := .int _ _) rfl) ?_
  refine s_nil (e_then (c_region ?_))
  refine s_val (r_move (v := .int _ _) rfl) ?_
  refine s_val (r_move (v := .pointer _) rfl) ?_
  refine s_val (r_move (v := .int _ _) rfl) ?_
  first | (refine s_val (r_neg rfl (n64 (by omega) (by omega))) ?_) | (refine s_val (r_neg rfl rfl) ?_)
  refine s_val (r_move (v := .int _ _) rfl) ?_
  refine s_call1 0 (cl53 rfl) rfl (rdWithin b _ _ hB _ _) M (fun _ h => nomatch h) ?_
  rintro v g w ⟨rfl, hB⟩ M
  first | replace M := M.nf (L' := [_, [(_, _)], [(_, _)]]) rfl | skip
  refine s_val (r_indexAddrA (o' := 3) Try.underlying31 sz3 rfl rfl (by omega) (by omega) rfl) ?_
  refine a_storeS (v := .int _ _) (cs' := [_, _, _, _]) sz3 M rfl rfl rfl (k := 2) (j := 0) rfl rfl rfl rfl rfl rfl ?_
  intro w M
  first | replace M := M.nf (L' := [_, [(_, _)], [(_, _)]]) rfl | skip
  refine s_nil (e_blk (e_then (c_region ?_)))
  refine s_val (r_add (n := 4) rfl rfl (by decide)) ?_
  refine s_val (r_move (v := .int _ _) rfl) ?_
  refine s_nil (e_then (c_round (c_seq (c_region ?_))))
  refine s_val (r_lss rfl rfl) ?_
  refine s_nil (e_then (c_seq ?_))
  refine c_no rfl (by decide) ?_
  refine c_exit (e_then_exit (e_then_exit (e_blk_here (e_then (c_seq (c_region ?_))))))
  refine a_loadA Try.underlying31 rfl sz31 M rfl (k := 2) (j := 0) rfl rfl rfl ?_
  refine a_storeS (v := .agg _) (cs' := [_, _, _, _]) sz31 M rfl rfl cells_agg (k := 1) (j := 0) rfl rfl rfl rfl rfl rfl ?_
  intro w M
  first | replace M := M.nf (L' := [_, [(_, _)], [(_, _)]]) rfl | skip
  refine s_nil (e_then (c_ret ?_))
  refine ret_run (res_c rfl rfl (run_loadVarN Try.underlying31 rfl sz31 rfl (M.cellsA (k := 1) (j := 0) rfl rfl))) ?_
  exact ⟨_, g, rfl, ⟨rfl, hB⟩, (M.picks [0] rfl rfl).useG (by simp)⟩
end Go.Proofs.Ytcjnniigonaapaa
