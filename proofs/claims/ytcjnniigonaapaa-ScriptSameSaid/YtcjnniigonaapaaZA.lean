/-
  The law of layer 11 on which scripts are the same: for every input the call returns true, and each argument reads as it did. No condition.
-/
import Derived.Test.YtcjnniigonaapaaRows
import Derived.Test.YtcjnniigonaapaaBB
namespace Go.Proofs.Ytcjnniigonaapaa
open Go.ChangeShapes Go.WideShapes Go.ChangeAt Go.RowKit Go.Az
theorem ownKnob_none : ownKnob Try.prog.godebug = none := by kernel_rfl
theorem laidOut_ : laidOutB Try.prog = true := by kernel_rfl
set_option maxRecDepth 100000 in
theorem scriptSame_lifted (os : Os) (started : os.Started) (H : Type) (enc : TypeId × Value → H) :
    ReturnsInHanded {} Try.checked os 3 .any (Rows.scriptSameSpec.pre6 enc Try.prog Try.f3 Rows.scriptSameRow.domain false) (Rows.scriptSameSpec.post enc Try.prog Try.f3 false true false false) := by
  refine returnsInHanded_of_change (C := Try.checked) ownKnob_none started (by kernel_rfl) Try.func3
    (ChangeSpec.witness6 (enc := enc) (C := Try.checked) false ⟨#[], #[.agg #[.int .u8 0, .int .u8 0, .int .i16 0, .int .i16 0, .int .i16 0, .int .i16 0, .slice none 0 0, .slice none 0 0, .slice none 0 0, .slice none 0 0], .agg #[.int .u8 0, .int .u8 0, .int .i16 0, .int .i16 0, .int .i16 0, .int .i16 0, .slice none 0 0, .slice none 0 0, .slice none 0 0, .slice none 0 0], .int .u8 0], []⟩ 8 (by kernel_rfl) (by kernel_rfl) (by kernel_rfl) (by kernel_rfl)) ?_
  intro W base args ds gs before hval0 hW hcnd _
  have hval : ∀ (j : Nat) t v, Try.f3.params[j]? = some t → args[j]? = some v → Value.okWide Try.prog W .any base t v := hval0
  have hW' := hW
  obtain ⟨p, q, hA0, hV, rfl, hfz, hnd⟩ := hW
  have hA : DataW.TrodAll enc Try.prog W 0 (fun _ => true) true Try.f3.params.toList args.toList ds p := hA0
  rw [Try.params3] at hA hval
  obtain ⟨v0, v1, v2, d0, d1, d2, p0, p1, p2, rfl, rfl, rfl, h0, h1, h2⟩ := trodAll_three hA
  obtain ⟨rfl, rfl⟩ := trodVars_none hV
  have hlt := below_lt hW'
  obtain ⟨c0, rfl, r0⟩ := open_agg Try.underlying28 (hval 0 _ v0 rfl rfl) h0 laySml
  obtain ⟨c1, rfl, r1⟩ := open_agg Try.underlying28 (hval 1 _ v1 rfl rfl) h1 laySml
  obtain ⟨x, rfl, fx, wx⟩ := oSml r0
  obtain ⟨y, rfl, fy, wy⟩ := oSml r1
  have h2' := h2
  obtain ⟨n2, rfl, rfl, rfl, w2⟩ := open_int Try.underlying5 (hval 2 _ v2 rfl rfl) h2
  have hn2 : 0 ≤ n2 ∧ n2 ≤ 255 := by simpa [Lit.wf, IntKind.min, IntKind.max, IntKind.bits, IntKind.signed] using w2
  clear hA0 hval0
  refine (scriptSame x y wx wy n2 hn2 W fx fy).mono fun e W' ⟨he, hk⟩ => ?_
  subst he
  have hb : Below W.heap.size W W' := hk.below
  have t0 := Below.trod laidOut_ (by kernel_rfl) (of_decide_eq_true (by kernel_rfl)) h0 hb (fun z hz => hlt z (by simp [hz]))
  have t1 := Below.trod laidOut_ (by kernel_rfl) (of_decide_eq_true (by kernel_rfl)) h1 hb (fun z hz => hlt z (by simp [hz]))
  have t2 := Below.trod laidOut_ (by kernel_rfl) (of_decide_eq_true (by kernel_rfl)) h2' hb (fun z hz => absurd hz List.not_mem_nil)
  exact ⟨_, rfl, _, _, _, [], _, [], hW', trodAll_mk1 (shut_bool Try.underlying4 _), trodAll_mk3 t0 t1 t2, (rfl), hb.frame _, fun h => by cases h⟩

theorem scriptSame_holds : Rows.ScriptSameSaid :=
  OpenClaim.holds_of_wide 3 Try.f3 rfl rfl rfl rfl rfl rfl rfl ⟨rfl, rfl, rfl, rfl, rfl⟩ rfl rfl rfl rfl rfl (by kernel_rfl) Try.func3 (by kernel_rfl)
    (of_decide_eq_true (by kernel_rfl)) (by unfold Func.isWrapper; first | (rw [if_pos (by decide +kernel)]; kernel_rfl) | (rw [if_neg (by decide +kernel)]; exact ⟨rfl, rfl⟩))
    (fun os started H enc _ => scriptSame_lifted os started H enc)
#print axioms scriptSame_holds
end Go.Proofs.Ytcjnniigonaapaa
