/-
  FRAMEWORK 1: frames as functions; stepping through operations; the rules for code.
-/
import Derived.WalkKit
import Derived.Orders
import Derived.LoopN
import Derived.KernelRfl
import Derived.Laws.CopyOwn
namespace Go.Az
open Go

/-! ### Frames -/
def upd (f : Nat → Value) (d : Nat) (v : Value) : Nat → Value := fun i => bif Nat.beq i d then v else f i
theorem fr_ex (N : Nat) (f : Nat → Value) : ∃ a : Act, a = { tmps := Array.ofFn (n := N) fun i => f i.val, defers := [] } := ⟨_, rfl⟩
/-- a frame (shut: nothing looks into it but by Fr_eq) -/
noncomputable def Fr (N : Nat) (f : Nat → Value) : Act := Classical.choose (fr_ex N f)
theorem Fr_eq (N : Nat) (f : Nat → Value) : Fr N f = { tmps := Array.ofFn (n := N) fun i => f i.val, defers := [] } := Classical.choose_spec (fr_ex N f)
def ev (N : Nat) (f : Nat → Value) : Operand → Value
  | .tmp t => bif Nat.blt t N then f t else undef
  | .const v => v
  | .global g => .pointer (some ⟨g, 0, none⟩)
  | .func g => .func (.func g) #[] #[]
def argsOf : List Value → Nat → Value
  | [], _ => undef
  | v :: _, 0 => v
  | _ :: r, n + 1 => argsOf r n

theorem eval_Fr (N : Nat) (f : Nat → Value) : (Fr N f).eval = ev N f := by
  funext x
  cases x with
  | tmp t =>
    simp only [Act.eval, Fr_eq, ev, Array.getD_eq_getD_getElem?]
    by_cases h : t < N
    · have hb : Nat.blt t N = true := by rw [Nat.blt_eq]; exact h
      simp [h, hb]
    · have hb : Nat.blt t N = false := by
        cases e : Nat.blt t N with
        | false => rfl
        | true => rw [Nat.blt_eq] at e; exact absurd e h
      simp [h, hb]
  | _ => rfl

theorem put_Fr (N : Nat) (f : Nat → Value) (d : Nat) (v : Value) : (Fr N f).put (some d) v = Fr N (upd f d v) := by
  simp only [Act.put, Fr_eq, Act.mk.injEq, and_true]
  apply Array.ext
  · simp
  · intro i h1 h2
    have hi : i < N := by simpa using h2
    rw [Array.getElem_ofFn]
    by_cases e : d = i
    · subst e
      have hb : Nat.beq d d = true := Nat.beq_refl d
      rw [Array.getElem_setIfInBounds_self]
      simp only [upd, hb, cond_true]
    · have hb : Nat.beq i d = false := by
        cases h : Nat.beq i d with
        | false => rfl
        | true => exact absurd (Nat.eq_of_beq_eq_true h).symm e
      rw [Array.getElem_setIfInBounds_ne (by simpa using hi) e, Array.getElem_ofFn]
      simp only [upd, hb, cond_false]

theorem put_none (a : Act) (v : Value) : a.put none v = a := rfl

theorem argsOf_getD (l : List Value) (i : Nat) : argsOf l i = l.getD i undef := by
  induction l generalizing i with
  | nil => simp [argsOf]
  | cons v r ih => cases i <;> simp [argsOf, ih]

theorem enter_Fr (l : List Value) (N : Nat) (h : l.length ≤ N) :
    ({ tmps := l.toArray ++ Array.replicate (N - l.toArray.size) undef, defers := [] } : Act) = Fr N (argsOf l) := by
  simp only [Fr_eq, Act.mk.injEq, and_true]
  apply Array.ext
  · simp; omega
  · intro i h1 h2
    simp only [Array.getElem_ofFn, argsOf_getD]
    rw [Array.getElem_append]
    split
    · rename_i hl
      have : i < l.length := by simpa using hl
      simp [List.getD_eq_getElem?_getD, this]
    · rename_i hl
      have : l.length ≤ i := by simpa using hl
      simp [List.getD_eq_getElem?_getD, List.getElem?_eq_none this]

/-- A call of a function with a body. -/
theorem calls_of {P : Program} {g : FuncId} {fn : Func} {c : Code} {l : List Value} {w : World} {R : Ending → World → Prop} (N : Nat)
    (hf : P.funcs[g]? = some fn) (hb : fn.body = some c) (hN : fn.ntmps = N) (hl : Nat.ble l.length N = true)
    (h : c.wp P (bodyPost P fn R) (Fr N (argsOf l)) w) : Calls P g l.toArray w R := by
  refine calls_of_wp hf hb ?_
  rw [hN, enter_Fr l N (Nat.le_of_ble_eq_true hl)]
  exact h

/-! ### Returns -/
section
variable {P : Program} {fn : Func} {R : Ending → World → Prop} {N : Nat} {f : Nat → Value} {w : World}

theorem ret_run {v : Value} (hr : (results fn (Fr N f).tmps).run P w = .ok v w) (hR : R (.returned v) w) : bodyPost P fn R .ret (Fr N f) w := ⟨by rw [Fr_eq], v, hr, hR⟩
theorem end_run {v : Value} (hr : (results fn (Fr N f).tmps).run P w = .ok v w) (hR : R (.returned v) w) : bodyPost P fn R .normal (Fr N f) w := ⟨by rw [Fr_eq], v, hr, hR⟩

theorem tmps_Fr (t : Nat) : (Fr N f).tmps[t]?.getD undef = ev N f (.tmp t) := by
  rw [← eval_Fr]; simp [Act.eval]

theorem res_none (h : fn.results = #[]) : (results fn (Fr N f).tmps).run P w = .ok (.tuple #[]) w := by simp [results, h]
theorem res_1 {t : Nat} (h : fn.results = #[.tmp t]) {v : Value} (hv : ev N f (.tmp t) = v) : (results fn (Fr N f).tmps).run P w = .ok v w := by
  subst hv; simp [results, h, tmps_Fr]
theorem res_2 {t u : Nat} (h : fn.results = #[.tmp t, .tmp u]) {v v' : Value} (hv : ev N f (.tmp t) = v) (hv' : ev N f (.tmp u) = v') :
    (results fn (Fr N f).tmps).run P w = .ok (.tuple #[v, v']) w := by
  subst hv; subst hv'; simp [results, h, tmps_Fr]
theorem res_3 {t u x : Nat} (h : fn.results = #[.tmp t, .tmp u, .tmp x]) {v v' v'' : Value} (hv : ev N f (.tmp t) = v) (hv' : ev N f (.tmp u) = v') (hv'' : ev N f (.tmp x) = v'') :
    (results fn (Fr N f).tmps).run P w = .ok (.tuple #[v, v', v'']) w := by
  subst hv; subst hv'; subst hv''; simp [results, h, tmps_Fr]
/-- one result in a cell -/
theorem res_c {t : Nat} {T : TypeId} (h : fn.results = #[.cell t T]) {a : Addr} (ha : ev N f (.tmp t) = .pointer (some a)) {v : Value}
    (hl : (loadVar T a).run P w = .ok v w) : (results fn (Fr N f).tmps).run P w = .ok v w := by
  simp [results, h, tmps_Fr, ha, asAddr, hl]
theorem res_ct {t u : Nat} {T : TypeId} (h : fn.results = #[.cell t T, .tmp u]) {a : Addr} (ha : ev N f (.tmp t) = .pointer (some a)) {v v' : Value}
    (hl : (loadVar T a).run P w = .ok v w) (hv' : ev N f (.tmp u) = v') : (results fn (Fr N f).tmps).run P w = .ok (.tuple #[v, v']) w := by
  subst hv'; simp [results, h, tmps_Fr, ha, asAddr, hl]
theorem res_cc {t u : Nat} {T U : TypeId} (h : fn.results = #[.cell t T, .cell u U]) {a b : Addr} (ha : ev N f (.tmp t) = .pointer (some a)) (hb : ev N f (.tmp u) = .pointer (some b)) {v v' : Value}
    (hl : (loadVar T a).run P w = .ok v w) (hl' : (loadVar U b).run P w = .ok v' w) : (results fn (Fr N f).tmps).run P w = .ok (.tuple #[v, v']) w := by
  simp [results, h, tmps_Fr, ha, hb, asAddr, hl, hl']
theorem res_ctt {t u x : Nat} {T : TypeId} (h : fn.results = #[.cell t T, .tmp u, .tmp x]) {a : Addr} (ha : ev N f (.tmp t) = .pointer (some a)) {v v' v'' : Value}
    (hl : (loadVar T a).run P w = .ok v w) (hv' : ev N f (.tmp u) = v') (hv'' : ev N f (.tmp x) = v'') : (results fn (Fr N f).tmps).run P w = .ok (.tuple #[v, v', v'']) w := by
  subst hv'; subst hv''; simp [results, h, tmps_Fr, ha, asAddr, hl]
theorem res_tct {t u x : Nat} {U : TypeId} (h : fn.results = #[.tmp t, .cell u U, .tmp x]) {a : Addr} (ha : ev N f (.tmp u) = .pointer (some a)) {v v' v'' : Value}
    (hv : ev N f (.tmp t) = v) (hl : (loadVar U a).run P w = .ok v' w) (hv'' : ev N f (.tmp x) = v'') : (results fn (Fr N f).tmps).run P w = .ok (.tuple #[v, v', v'']) w := by
  subst hv; subst hv''; simp [results, h, tmps_Fr, ha, asAddr, hl]
end

/-! ### Code -/
section
variable {P : Program} {Q : Exit → Act → World → Prop} {N : Nat} {f : Nat → Value} {w : World}

theorem c_seq {x y : Code} (h : x.wp P (Exit.then (y.wp P Q) Q) (Fr N f) w) : (Code.seq x y).wp P Q (Fr N f) w := wp_seq h
theorem c_skip (h : Q .normal (Fr N f) w) : Code.skip.wp P Q (Fr N f) w := wp_skip h
theorem c_ret (h : Q .ret (Fr N f) w) : Code.ret.wp P Q (Fr N f) w := wp_ret h
theorem c_exit {id : Nat} (h : Q (.exit id) (Fr N f) w) : (Code.exit id).wp P Q (Fr N f) w := wp_exit h
theorem c_block {id : Nat} {c : Code} (h : c.wp P (Exit.inBlock id Q) (Fr N f) w) : (Code.block id c).wp P Q (Fr N f) w := wp_block h
theorem c_region {id : Nat} {l : List Oper} (h : wpList P l.toArray Q l (Fr N f) w) : (Code.region id l.toArray false).wp P Q (Fr N f) w := wp_region_lit h
theorem c_cond {t : Operand} {x y : Code} {b : Bool} (hc : ev N f t = .bool b) (h1 : b = true → x.wp P Q (Fr N f) w) (h2 : b = false → y.wp P Q (Fr N f) w) :
    (Code.cond t x y).wp P Q (Fr N f) w := wp_cond_split (by rw [eval_Fr]; exact hc) h1 h2
theorem c_if {t : Operand} {x y : Code} {p : Prop} [Decidable p] (hc : ev N f t = .bool (decide p)) (h1 : p → x.wp P Q (Fr N f) w) (h2 : ¬ p → y.wp P Q (Fr N f) w) :
    (Code.cond t x y).wp P Q (Fr N f) w := c_cond hc (fun h => h1 (of_decide_eq_true h)) (fun h => h2 (of_decide_eq_false h))
theorem c_yes {t : Operand} {x y : Code} {b : Bool} (hc : ev N f t = .bool b) (hb : b = true) (h1 : x.wp P Q (Fr N f) w) :
    (Code.cond t x y).wp P Q (Fr N f) w := c_cond hc (fun _ => h1) (fun h => by rw [hb] at h; cases h)
theorem c_no {t : Operand} {x y : Code} {b : Bool} (hc : ev N f t = .bool b) (hb : b = false) (h1 : y.wp P Q (Fr N f) w) :
    (Code.cond t x y).wp P Q (Fr N f) w := c_cond hc (fun h => by rw [hb] at h; cases h) (fun _ => h1)
/-- what stands behind, under one condition for all ways that lead there -/
theorem c_cut {x y : Code} (J : Act → World → Prop) (h1 : x.wp P (Exit.then J Q) (Fr N f) w) (h2 : ∀ a w, J a w → y.wp P Q a w) : (Code.seq x y).wp P Q (Fr N f) w :=
  wp_seq (wp_mono h1 fun e a w h => by cases e <;> first | exact h2 _ _ h | exact h)

/-- A loop: the number falls at each round. -/
theorem c_loop {c : Code} (I : Nat → Act → World → Prop) (n : Nat) (h0 : I n (Fr N f) w)
    (round : ∀ n a w, I n a w → c.wp P (Exit.then (fun a' w' => ∃ m, m < n ∧ I m a' w') Q) a w) : (Code.loop c).wp P Q (Fr N f) w := by
  have key : ∀ n a w, I n a w → Code.rounds P c Q (n + 1) a w := by
    intro n
    induction n using Nat.strongRecOn with
    | _ n ih =>
      intro a w hI
      rw [rounds_succ]
      refine wp_mono (round n a w hI) fun e a w h => ?_
      cases e with
      | normal =>
        obtain ⟨m, hm, hI'⟩ := h
        have := ih m hm a w hI'
        have mono : ∀ (k j : Nat), k ≤ j → ∀ a w, Code.rounds P c Q k a w → Code.rounds P c Q j a w := by
          intro k
          induction k with
          | zero => intro j _ a w h; exact h.elim
          | succ k ihk =>
            intro j hj a w h
            obtain ⟨j, rfl⟩ : ∃ i, j = i + 1 := ⟨j - 1, by omega⟩
            rw [rounds_succ] at h ⊢
            exact wp_mono h fun e a w h => by
              cases e <;> first | exact ihk j (by omega) _ _ h | exact h
        exact mono (m + 1) n (by omega) _ _ this
      | _ => exact h
  exact wp_loop_rounds (n + 1) (key n _ _ h0)

/-- A loop of at most n rounds, each walked. -/
theorem c_rounds {c : Code} (n : Nat) (h : Code.rounds P c Q n (Fr N f) w) : (Code.loop c).wp P Q (Fr N f) w := wp_loop_rounds n h
theorem c_round {c : Code} {n : Nat} (h : c.wp P (Exit.then (Code.rounds P c Q n) Q) (Fr N f) w) : Code.rounds P c Q (n + 1) (Fr N f) w := h

/-! ### Operations, one behind the other -/
variable {ops : Array Oper} {rest : List Oper}

theorem s_nil (h : Q .normal (Fr N f) w) : wpList P ops Q [] (Fr N f) w := h
/-- an operation that leaves a value -/
theorem s_val {d : Nat} {op : Op} {ty : TypeId} {pos : String} {af : Array Edge} {v : Value} {w' : World}
    (hr : (execOp (ev N f) ⟨some d, op, ty, pos, af, none⟩).run P w = .ok (.value v) w') (h : wpList P ops Q rest (Fr N (upd f d v)) w') :
    wpList P ops Q (⟨some d, op, ty, pos, af, none⟩ :: rest) (Fr N f) w := by
  refine wpList_plain rfl fun K hK => ?_
  unfold Oper.wp
  rw [eval_Fr, hr]
  simp only [Oper.upon, put_Fr]
  exact hK _ _ h
/-- one that leaves none -/
theorem s_unit {op : Op} {ty : TypeId} {pos : String} {af : Array Edge} {w' : World}
    (hr : (execOp (ev N f) ⟨none, op, ty, pos, af, none⟩).run P w = .ok .skip w') (h : wpList P ops Q rest (Fr N f) w') :
    wpList P ops Q (⟨none, op, ty, pos, af, none⟩ :: rest) (Fr N f) w := by
  refine wpList_plain rfl fun K hK => ?_
  unfold Oper.wp
  rw [eval_Fr, hr]
  simp only [Oper.upon, put_none]
  exact hK _ _ h
/-- one whose value nobody takes -/
theorem s_drop {op : Op} {ty : TypeId} {pos : String} {af : Array Edge} {v : Value} {w' : World}
    (hr : (execOp (ev N f) ⟨none, op, ty, pos, af, none⟩).run P w = .ok (.value v) w') (h : wpList P ops Q rest (Fr N f) w') :
    wpList P ops Q (⟨none, op, ty, pos, af, none⟩ :: rest) (Fr N f) w := by
  refine wpList_plain rfl fun K hK => ?_
  unfold Oper.wp
  rw [eval_Fr, hr]
  simp only [Oper.upon, put_none]
  exact hK _ _ h
/-- a call of a Go function -/
theorem s_call {d : Option Nat} {op : Op} {ty : TypeId} {pos : String} {af : Array Edge} {g : FuncId} {as : Array Value}
    (hr : (execOp (ev N f) ⟨d, op, ty, pos, af, none⟩).run P w = .ok (.enter g as) w) {R : Ending → World → Prop} (hc : Calls P g as w R)
    (h : ∀ e w', R e w' → ∃ v, e = .returned v ∧ wpList P ops Q rest ((Fr N f).put d v) w') :
    wpList P ops Q (⟨d, op, ty, pos, af, none⟩ :: rest) (Fr N f) w := by
  refine wpList_plain rfl fun K hK => ?_
  unfold Oper.wp
  rw [eval_Fr, hr]
  simp only [Oper.upon]
  refine hc.mono fun e w' he => ?_
  obtain ⟨v, rfl, h'⟩ := h e w' he
  exact hK _ _ h'
/-- guarded: yes, no -/
theorem s_skip {d : Nat} {op : Op} {ty : TypeId} {pos : String} {af : Array Edge} {j : Nat} {want : Bool} {b : Bool}
    (hy : yielded ops (Fr N f).tmps j = some b) (hb : (b == want) = false) (h : wpList P ops Q rest (Fr N (upd f d undef)) w) :
    wpList P ops Q (⟨some d, op, ty, pos, af, some (j, want)⟩ :: rest) (Fr N f) w := by
  refine wpList_skip ?_ (by rw [put_Fr]; exact h)
  simp only [Region.wanted, hy]
  cases b <;> cases want <;> simp_all
theorem s_gval {d : Nat} {op : Op} {ty : TypeId} {pos : String} {af : Array Edge} {j : Nat} {want : Bool} {b : Bool} {v : Value} {w' : World}
    (hy : yielded ops (Fr N f).tmps j = some b) (hb : (b == want) = true)
    (hr : (execOp (ev N f) ⟨some d, op, ty, pos, af, some (j, want)⟩).run P w = .ok (.value v) w') (h : wpList P ops Q rest (Fr N (upd f d v)) w') :
    wpList P ops Q (⟨some d, op, ty, pos, af, some (j, want)⟩ :: rest) (Fr N f) w := by
  refine wpList_step fun K hK => ?_
  have hw : Region.wanted ⟨some d, op, ty, pos, af, some (j, want)⟩ (yielded ops (Fr N f).tmps) = true := by
    simp only [Region.wanted, hy]; cases b <;> cases want <;> simp_all
  rw [if_pos hw]
  unfold Oper.wp
  rw [eval_Fr, hr]
  simp only [Oper.upon, put_Fr]
  exact hK _ _ h
theorem s_gcall {d : Option Nat} {op : Op} {ty : TypeId} {pos : String} {af : Array Edge} {j : Nat} {want : Bool} {b : Bool} {g : FuncId} {as : Array Value}
    (hy : yielded ops (Fr N f).tmps j = some b) (hb : (b == want) = true)
    (hr : (execOp (ev N f) ⟨d, op, ty, pos, af, some (j, want)⟩).run P w = .ok (.enter g as) w) {R : Ending → World → Prop} (hc : Calls P g as w R)
    (h : ∀ e w', R e w' → ∃ v, e = .returned v ∧ wpList P ops Q rest ((Fr N f).put d v) w') :
    wpList P ops Q (⟨d, op, ty, pos, af, some (j, want)⟩ :: rest) (Fr N f) w := by
  refine wpList_step fun K hK => ?_
  have hw : Region.wanted ⟨d, op, ty, pos, af, some (j, want)⟩ (yielded ops (Fr N f).tmps) = true := by
    simp only [Region.wanted, hy]; cases b <;> cases want <;> simp_all
  rw [if_pos hw]
  unfold Oper.wp
  rw [eval_Fr, hr]
  simp only [Oper.upon]
  refine hc.mono fun e w' he => ?_
  obtain ⟨v, rfl, h'⟩ := h e w' he
  exact hK _ _ h'
theorem yield_Fr {l : List Oper} {j d : Nat} {b : Bool} (ho : (l[j]?).bind (·.dst) = some d) (hv : ev N f (.tmp d) = .bool b) : yielded l.toArray (Fr N f).tmps j = some b := by
  have hn : Nat.blt d N = true := by
    cases e : Nat.blt d N with
    | true => rfl
    | false =>
      have h2 : ev N f (.tmp d) = undef := by simp only [ev, e, cond_false]
      rw [h2] at hv; cases hv
  have hd : d < N := by rw [Nat.blt_eq] at hn; exact hn
  have hv' : f d = .bool b := by simpa only [ev, hn, cond_true] using hv
  have hl : (l.toArray[j]?).bind (·.dst) = some d := by simpa using ho
  have ht : (Fr N f).tmps[d]? = some (.bool b) := by simp [Fr_eq, hd, hv']
  unfold yielded
  rw [hl, Option.bind_some, ht]
end
end Go.Az
