/-
  FRAMEWORK 5: calls, loops, cuts; regions that draw: their steps.
-/
import Derived.Test.YtcjnniigonaapaaF4
namespace Go.Az
open Go

/-! ### slots that a loop writes -/
def memb : List Nat → Nat → Bool
  | [], _ => false
  | x :: r, i => bif Nat.beq i x then true else memb r i
def mask (W : List Nat) (f us : Nat → Value) : Nat → Value := fun i => bif memb W i then us i else f i
def asc : List (Nat × Value) → (Nat → Value) → Nat → Value
  | [], e => e
  | (s, v) :: r, e => fun i => bif Nat.beq i s then v else asc r e i
def AllEq (f : Nat → Value) : List (Nat × Value) → Prop
  | [] => True
  | (s, v) :: r => f s = v ∧ AllEq f r
def Ag (W : List Nat) (f f' : Nat → Value) : Prop := ∀ i, memb W i = false → f' i = f i
theorem ag_refl {W : List Nat} {f : Nat → Value} : Ag W f f := fun _ _ => rfl
theorem ag_upd {W : List Nat} {f f' : Nat → Value} {d : Nat} {v : Value} (hd : memb W d = true) (h : Ag W f f') : Ag W f (upd f' d v) := fun i hi => by
  have : Nat.beq i d = false := by
    cases e : Nat.beq i d with
    | false => rfl
    | true => rw [Nat.eq_of_beq_eq_true e, hd] at hi; cases hi
  simp only [upd, this, cond_false]; exact h i hi
theorem ag_mask {W W' : List Nat} {f f' us : Nat → Value} (hW : W'.all (memb W) = true) (h : Ag W f f') : Ag W f (mask W' f' us) := fun i hi => by
  have : memb W' i = false := by
    cases e : memb W' i with
    | false => rfl
    | true =>
      have hm : ∀ (l : List Nat), memb l i = true → i ∈ l := by
        intro l
        induction l with
        | nil => intro h; cases h
        | cons x r ih =>
          intro h
          simp only [memb] at h
          cases hx : Nat.beq i x with
          | true => rw [Nat.eq_of_beq_eq_true hx]; exact List.mem_cons_self ..
          | false => rw [hx] at h; exact List.mem_cons_of_mem _ (ih h)
      have := List.all_eq_true.1 hW i (hm W' e)
      rw [this] at hi; cases hi
  simp only [mask, this, cond_false]; exact h i hi
theorem asc_self : ∀ {vs : List (Nat × Value)} {f : Nat → Value}, AllEq f vs → ∀ i, asc vs f i = f i
  | [], _, _, _ => rfl
  | (s, v) :: r, f, h, i => by
    simp only [asc]
    cases e : Nat.beq i s with
    | true => rw [Nat.eq_of_beq_eq_true e]; exact h.1.symm
    | false => exact asc_self h.2 i
theorem mask_self {W : List Nat} {f f' : Nat → Value} {vs : List (Nat × Value)} (ha : Ag W f f') (hv : AllEq f' vs) : f' = mask W f (asc vs f') := by
  funext i
  simp only [mask]
  cases e : memb W i with
  | true => simp only [cond_true]; exact (asc_self hv i).symm
  | false => simp only [cond_false]; exact ha i e

section
variable {P : Program} {Q : Exit → Act → World → Prop} {N : Nat} {f : Nat → Value} {w : World}

def LoopEnd {Γ : Type} (N : Nat) (W : List Nat) (f : Nat → Value) (vals : Γ → List (Nat × Value)) (I : Nat → Γ → World → Prop) (n : Nat) (a : Act) (w : World) : Prop :=
  ∃ m, m < n ∧ ∃ γ e, a = Fr N (mask W f (asc (vals γ) e)) ∧ I m γ w
theorem loop_end {Γ : Type} {W : List Nat} {f f' : Nat → Value} {vals : Γ → List (Nat × Value)} {I : Nat → Γ → World → Prop} {n : Nat} (m : Nat) (γ : Γ) (ha : Ag W f f') (hv : AllEq f' (vals γ)) (hm : m < n) (hI : I m γ w) :
    LoopEnd N W f vals I n (Fr N f') w := ⟨m, hm, γ, f', congrArg (Fr N) (mask_self ha hv), hI⟩
/-- A LOOP: γ what the round's head knows; vals: what stands then in the slots of W (of the others of W nothing is known). -/
theorem c_loopG {c : Code} {Γ : Type} (W : List Nat) (vals : Γ → List (Nat × Value)) (I : Nat → Γ → World → Prop) (n : Nat) (γ : Γ) (hv : AllEq f (vals γ)) (h0 : I n γ w)
    (round : ∀ n γ e w, I n γ w → c.wp P (Exit.then (LoopEnd N W f vals I n) Q) (Fr N (mask W f (asc (vals γ) e))) w) : (Code.loop c).wp P Q (Fr N f) w := by
  refine c_loop (fun n a w => ∃ γ e, a = Fr N (mask W f (asc (vals γ) e)) ∧ I n γ w) n ⟨γ, f, congrArg (Fr N) (mask_self ag_refl hv), h0⟩ ?_
  rintro n a w ⟨γ, e, rfl, hI⟩
  exact round n γ e w hI
/-- WHAT ALL WAYS COME TO that lead to the next statement. -/
def CutEnd {Γ : Type} (N : Nat) (W : List Nat) (f : Nat → Value) (vals : Γ → List (Nat × Value)) (I : Γ → World → Prop) (a : Act) (w : World) : Prop :=
  ∃ γ e, a = Fr N (mask W f (asc (vals γ) e)) ∧ I γ w
theorem cut_end {Γ : Type} {W : List Nat} {f f' : Nat → Value} {vals : Γ → List (Nat × Value)} {I : Γ → World → Prop} (γ : Γ) (ha : Ag W f f') (hv : AllEq f' (vals γ)) (hI : I γ w) :
    CutEnd N W f vals I (Fr N f') w := ⟨γ, f', congrArg (Fr N) (mask_self ha hv), hI⟩
theorem c_cutG {x y : Code} {Γ : Type} (W : List Nat) (vals : Γ → List (Nat × Value)) (I : Γ → World → Prop) (h1 : x.wp P (Exit.then (CutEnd N W f vals I) Q) (Fr N f) w)
    (h2 : ∀ γ e w, I γ w → y.wp P Q (Fr N (mask W f (asc (vals γ) e))) w) : (Code.seq x y).wp P Q (Fr N f) w :=
  c_cut _ h1 (by rintro a w ⟨γ, e, rfl, hI⟩; exact h2 γ e w hI)
end

/-! ### ways out -/
section
variable {Q : Exit → Act → World → Prop} {K : Act → World → Prop} {a : Act} {w : World}
theorem e_then (h : K a w) : Exit.then K Q .normal a w := h
theorem e_then_ret (h : Q .ret a w) : Exit.then K Q .ret a w := h
theorem e_then_exit {id : Nat} (h : Q (.exit id) a w) : Exit.then K Q (.exit id) a w := h
theorem e_blk {id : Nat} (h : Q .normal a w) : Exit.inBlock id Q .normal a w := h
theorem e_blk_ret {id : Nat} (h : Q .ret a w) : Exit.inBlock id Q .ret a w := h
theorem e_blk_here {id : Nat} (h : Q .normal a w) : Exit.inBlock id Q (.exit id) a w := by simp only [Exit.inBlock, if_true]; exact h
theorem e_blk_far {id id' : Nat} (hne : Nat.beq id' id = false) (h : Q (.exit id') a w) : Exit.inBlock id Q (.exit id') a w := by
  have h0 : ¬ id' = id := by rintro rfl; rw [Nat.beq_refl] at hne; cases hne
  simp only [Exit.inBlock, h0, if_false]; exact h
end

/-! ### a slot's bool -/
section
variable {P : Program} {Q : Exit → Act → World → Prop} {N : Nat} {f : Nat → Value} {w : World} {ops : Array Oper} {rest : List Oper} {t : Nat}
theorem upd_same {N : Nat} {f : Nat → Value} {t : Nat} {b : Bool} (hv : ev N f (.tmp t) = .bool b) : upd f t (.bool b) = f := by
  have hn : Nat.blt t N = true := by
    cases e : Nat.blt t N with
    | true => rfl
    | false =>
      have h2 : ev N f (.tmp t) = undef := by simp only [ev, e, cond_false]
      rw [h2] at hv; cases hv
  have hv' : f t = .bool b := by simpa only [ev, hn, cond_true] using hv
  funext i
  simp only [upd]
  cases e : Nat.beq i t with
  | true => rw [Nat.eq_of_beq_eq_true e, hv']; rfl
  | false => rfl
theorem s_split {b : Bool} (t : Nat) (hv : ev N f (.tmp t) = .bool b) (h1 : b = true → wpList P ops Q rest (Fr N (upd f t (.bool true))) w) (h2 : b = false → wpList P ops Q rest (Fr N (upd f t (.bool false))) w) : wpList P ops Q rest (Fr N f) w := by
  have e := upd_same hv
  cases b with
  | true => rw [← e]; exact h1 rfl
  | false => rw [← e]; exact h2 rfl
theorem s_splitD {p : Prop} [Decidable p] (t : Nat) (hv : ev N f (.tmp t) = .bool (decide p)) (h1 : p → wpList P ops Q rest (Fr N (upd f t (.bool true))) w) (h2 : ¬ p → wpList P ops Q rest (Fr N (upd f t (.bool false))) w) : wpList P ops Q rest (Fr N f) w :=
  s_split t hv (fun h => h1 (of_decide_eq_true h)) (fun h => h2 (of_decide_eq_false h))
theorem s_splitN {p : Prop} [Decidable p] (t : Nat) (hv : ev N f (.tmp t) = .bool (!decide p)) (h1 : ¬ p → wpList P ops Q rest (Fr N (upd f t (.bool true))) w) (h2 : p → wpList P ops Q rest (Fr N (upd f t (.bool false))) w) : wpList P ops Q rest (Fr N f) w :=
  s_split t hv (fun h => h1 (by simpa using h)) (fun h => h2 (by simpa using h))
theorem c_not {t : Operand} {x y : Code} {p : Prop} [Decidable p] (hc : ev N f t = .bool (!decide p)) (h1 : ¬ p → x.wp P Q (Fr N f) w) (h2 : p → y.wp P Q (Fr N f) w) :
    (Code.cond t x y).wp P Q (Fr N f) w := c_cond hc (fun h => h1 (by simpa using h)) (fun h => h2 (by simpa using h))
end

/-! ### calls -/
section
variable {P : Program} {Q : Exit → Act → World → Prop} {N : Nat} {f : Nat → Value} {w : World} {ops : Array Oper} {rest : List Oper}
variable {ks S0 : List Nat} {w0 : World} {L : List Seg} {G : List (World → Prop)}
variable {d : Option Nat} {op : Op} {ty : TypeId} {pos : String} {af : Array Edge} {g : FuncId} {as : Array Value}

/-- a callee that only reckons, and leaves what there was -/
theorem s_callP {v : Value} (hr : (execOp (ev N f) ⟨d, op, ty, pos, af, none⟩).run P w = .ok (.enter g as) w) (hc : Calls P g as w fun e w' => e = .returned v ∧ Keep [] w w') (M : St ks S0 w0 w L G)
    (h : ∀ w', St ks S0 w0 w' L G → wpList P ops Q rest (Fr N (updO f d v)) w') : wpList P ops Q (⟨d, op, ty, pos, af, none⟩ :: rest) (Fr N f) w := by
  refine s_call hr hc fun e w' ⟨he, hk⟩ => ⟨v, he, ?_⟩
  rw [put_updO]; exact h w' (M.kept hk)
/-- one that is given no block to change, and may hand out new ones, and facts -/
theorem s_call0 {Gh : Type} {p : Value → Gh → Prop} {A : Value → Gh → List Seg} {G1 : List (World → Prop)} {Gn : Value → Gh → List (World → Prop)} (hr : (execOp (ev N f) ⟨d, op, ty, pos, af, none⟩).run P w = .ok (.enter g as) w)
    (hc : ∀ ks w, St ks [] w w [] G1 → Calls P g as w fun e w' => ∃ v γ, e = .returned v ∧ p v γ ∧ St ks [] w w' (A v γ) (Gn v γ)) (M : St ks S0 w0 w L G) (hG : ∀ F ∈ G1, F ∈ G)
    (h : ∀ v γ w', p v γ → St ks S0 w0 w' (L ++ A v γ) (G ++ Gn v γ) → wpList P ops Q rest (Fr N (updO f d v)) w') : wpList P ops Q (⟨d, op, ty, pos, af, none⟩ :: rest) (Fr N f) w := by
  refine s_call hr (hc _ _ (M.pre0 hG)) fun e w' ⟨v, γ, he, hp, M'⟩ => ⟨v, he, ?_⟩
  rw [put_updO]; exact h v γ w' hp (M.post0 M')
/-- one that is given the blocks of the segment k to change -/
theorem s_call1 {Gh : Type} {p : Value → Gh → Prop} {s : Seg} {s' : Value → Gh → Seg} {A : Value → Gh → List Seg} {G1 : List (World → Prop)} {Gn : Value → Gh → List (World → Prop)} (k : Nat) (hr : (execOp (ev N f) ⟨d, op, ty, pos, af, none⟩).run P w = .ok (.enter g as) w)
    (hk : L[k]? = some s) (hc : ∀ ks w, St ks (keysOf [s]) w w [s] G1 → Calls P g as w fun e w' => ∃ v γ, e = .returned v ∧ p v γ ∧ St ks (keysOf [s]) w w' (s' v γ :: A v γ) (Gn v γ)) (M : St ks S0 w0 w L G) (hG : ∀ F ∈ G1, F ∈ G)
    (h : ∀ v γ w', p v γ → St ks S0 w0 w' (L.set k (s' v γ) ++ A v γ) (G ++ Gn v γ) → wpList P ops Q rest (Fr N (updO f d v)) w') : wpList P ops Q (⟨d, op, ty, pos, af, none⟩ :: rest) (Fr N f) w := by
  refine s_call hr (hc _ _ (M.pre1 hk hG)) fun e w' ⟨v, γ, he, hp, M'⟩ => ⟨v, he, ?_⟩
  rw [put_updO]; exact h v γ w' hp (M.post1 hk M')
end

/-! ### regions that draw -/
/-- what stays: the blocks of Lq (those that the region turns are struck out: []), the facts of G -/
def Cst (ks S0 : List Nat) (w0 : World) (Lq : List Seg) (G : List (World → Prop)) (w : World) : Prop := ∃ X G', St ks S0 w0 w (Lq ++ X) (G ++ G')
def SubL : List Seg → List Seg → Prop
  | [], _ => True
  | a :: A, b :: B => (a = [] ∨ a = b) ∧ SubL A B
  | _ :: _, [] => False
theorem SubL.flat : ∀ {A B : List Seg}, SubL A B → A.flatten.Sublist B.flatten
  | [], B, _ => List.nil_sublist _
  | a :: A, b :: B, h => by
    simp only [List.flatten_cons]
    rcases h.1 with h1 | h1
    · subst h1; exact (h.2.flat).trans (List.sublist_append_right _ _)
    · subst h1; exact (List.Sublist.refl _).append h.2.flat
  | _ :: _, [], h => h.elim
theorem SubL.refl : ∀ (L : List Seg), SubL L L
  | [] => trivial
  | _ :: L => ⟨.inr rfl, SubL.refl L⟩
theorem Cst.of {ks S0 : List Nat} {w0 w : World} {Lq L X : List Seg} {G G' : List (World → Prop)} (M : St ks S0 w0 w (L ++ X) G') (hs : SubL Lq L) (hG : ∀ F ∈ G, F ∈ G') : Cst ks S0 w0 Lq G w :=
  ⟨X, [], M.sub (by rw [List.flatten_append, List.flatten_append]; exact hs.flat.append (List.Sublist.refl _)) (by simpa using hG)⟩
theorem Cst.alloc {ks S0 : List Nat} {w0 w : World} {Lq : List Seg} {G : List (World → Prop)} (h : Cst ks S0 w0 Lq G w) (o : Obj) : Cst ks S0 w0 Lq G (w.alloc o) := by
  obtain ⟨X, G', M⟩ := h
  exact ⟨X ++ [[(w.heap.size, o)]], G', by rw [← List.append_assoc]; exact M.alloc o⟩
theorem Cst.kept {ks S0 : List Nat} {w0 w w' : World} {Lq : List Seg} {G : List (World → Prop)} (h : Cst ks S0 w0 Lq G w) (K : Keep [] w w') : Cst ks S0 w0 Lq G w' := by
  obtain ⟨X, G', M⟩ := h
  exact ⟨X, G', M.kept K⟩

section
variable {P : Program} {N : Nat} {l : List Oper} {ks S0 : List Nat} {w0 : World} {Lq : List Seg} {Gq : List (World → Prop)} {Qf : (Nat → Value) → World → Prop}
variable {σ : List (Kd × Nat)} {f : Nat → Value} {L : List Seg} {G : List (World → Prop)}

theorem c_drawS {id : Nat} {Q : Exit → Act → World → Prop} {w : World} (hm : P.follows .mixedOrders = true) (σ : List (Kd × Nat)) (cert : List (List Nat)) (hσ : okOrder l σ cert = true)
    (Lq : List Seg) (hs : SubL Lq L) (M : St ks S0 w0 w L G) (h : RW P N l ks S0 w0 (Cst ks S0 w0 Lq G) (fun f w => Q .normal (Fr N f) w) σ f L G) :
    (Code.region id l.toArray true).wp P Q (Fr N f) w :=
  c_draw hm σ cert hσ _ (fun _ o h => h.alloc o) M (Cst.of (X := []) (by simpa using M.drew) hs (fun _ h => h)) h

/-- what stays but for the segments kk -/
def strike (kk : List Nat) (L : List Seg) : List Seg := kk.foldl (fun L k => L.set k []) L
theorem subL_set : ∀ (L : List Seg) (k : Nat), SubL (L.set k []) L
  | [], _ => trivial
  | _ :: L, 0 => ⟨.inl rfl, SubL.refl L⟩
  | _ :: L, k + 1 => ⟨.inr rfl, subL_set L k⟩
theorem subL_trans : ∀ {A B C : List Seg}, SubL A B → SubL B C → SubL A C
  | [], _, _, _, _ => trivial
  | _ :: _, _ :: _, [], _, h => h.elim
  | a :: A, b :: B, c :: C, h, k => ⟨by
      rcases h.1 with h1 | h1
      · exact .inl h1
      · subst h1; exact k.1, subL_trans h.2 k.2⟩
  | _ :: _, [], _, h, _ => h.elim
theorem subL_strike : ∀ (kk : List Nat) (L : List Seg), SubL (strike kk L) L
  | [], L => SubL.refl L
  | k :: kk, L => subL_trans (subL_strike kk (L.set k [])) (subL_set L k)
theorem c_drawK {id : Nat} {Q : Exit → Act → World → Prop} {w : World} (hm : P.follows .mixedOrders = true) (σ : List (Kd × Nat)) (cert : List (List Nat)) (hσ : okOrder l σ cert = true)
    (kk : List Nat) (M : St ks S0 w0 w L G) (h : RW P N l ks S0 w0 (Cst ks S0 w0 (strike kk L) G) (fun f w => Q .normal (Fr N f) w) σ f L G) :
    (Code.region id l.toArray true).wp P Q (Fr N f) w := c_drawS hm σ cert hσ _ (subL_strike kk L) M h

theorem w_nil (h : ∀ w, St ks S0 w0 w L G → Qf f w) : RW P N l ks S0 w0 (Cst ks S0 w0 Lq Gq) Qf [] f L G := fun w M _ => h w M
section
variable {i : Nat} {dd : Option Nat} {op : Op} {ty : TypeId} {pos : String} {af : Array Edge} {gd : Option (Nat × Bool)}
theorem wt_none : Wt N l f ⟨dd, op, ty, pos, af, none⟩ = true := rfl
theorem wt_yes {j d : Nat} {want : Bool} {b : Bool} (ho : (l[j]?).bind (·.dst) = some d) (hv : ev N f (.tmp d) = .bool b) (hb : (b == want) = true) : Wt N l f ⟨dd, op, ty, pos, af, some (j, want)⟩ = true := by
  have := yield_Fr (N := N) (f := f) ho hv
  simp only [Wt, Region.wanted, this]
  cases b <;> cases want <;> simp_all
theorem wt_no {j d : Nat} {want : Bool} {b : Bool} (ho : (l[j]?).bind (·.dst) = some d) (hv : ev N f (.tmp d) = .bool b) (hb : (b == want) = false) : Wt N l f ⟨dd, op, ty, pos, af, some (j, want)⟩ = false := by
  have := yield_Fr (N := N) (f := f) ho hv
  simp only [Wt, Region.wanted, this]
  cases b <;> cases want <;> simp_all
theorem w_skip {κ : Kd} {d : Nat} (ho : l[i]? = some ⟨some d, op, ty, pos, af, gd⟩) (hw : Wt N l f ⟨some d, op, ty, pos, af, gd⟩ = false) (h : RW P N l ks S0 w0 (Cst ks S0 w0 Lq Gq) Qf σ (upd f d undef) L G) :
    RW P N l ks S0 w0 (Cst ks S0 w0 Lq Gq) Qf ((κ, i) :: σ) f L G := ⟨_, ho, .inl ⟨hw, h⟩⟩
/-- an operation that needs nothing of memory -/
theorem w_val {d : Nat} {v : Value} (ho : l[i]? = some ⟨some d, op, ty, pos, af, gd⟩) (hw : Wt N l f ⟨some d, op, ty, pos, af, gd⟩ = true)
    (hr : ∀ w, (execOp (ev N f) ⟨some d, op, ty, pos, af, gd⟩).run P w = .ok (.value v) w) (h : RW P N l ks S0 w0 (Cst ks S0 w0 Lq Gq) Qf σ (upd f d v) L G) :
    RW P N l ks S0 w0 (Cst ks S0 w0 Lq Gq) Qf ((.q, i) :: σ) f L G := ⟨_, ho, .inr ⟨hw, v, fun w _ => hr w, h⟩⟩
/-- one that reads what stays -/
theorem w_read {d : Nat} {v : Value} (ho : l[i]? = some ⟨some d, op, ty, pos, af, gd⟩) (hw : Wt N l f ⟨some d, op, ty, pos, af, gd⟩ = true)
    (hr : ∀ w X G', St ks S0 w0 w (Lq ++ X) (Gq ++ G') → (execOp (ev N f) ⟨some d, op, ty, pos, af, gd⟩).run P w = .ok (.value v) w) (h : RW P N l ks S0 w0 (Cst ks S0 w0 Lq Gq) Qf σ (upd f d v) L G) :
    RW P N l ks S0 w0 (Cst ks S0 w0 Lq Gq) Qf ((.q, i) :: σ) f L G := ⟨_, ho, .inr ⟨hw, v, fun w ⟨X, G', M⟩ => hr w X G' M, h⟩⟩
/-- one that reads facts: those of now, too -/
theorem w_facts {d : Nat} {v : Value} (ho : l[i]? = some ⟨some d, op, ty, pos, af, gd⟩) (hw : Wt N l f ⟨some d, op, ty, pos, af, gd⟩ = true)
    (hr : ∀ w, (∀ F ∈ G, F w) → (execOp (ev N f) ⟨some d, op, ty, pos, af, gd⟩).run P w = .ok (.value v) w) (h : RW P N l ks S0 w0 (Cst ks S0 w0 Lq Gq) Qf σ (upd f d v) L G) :
    RW P N l ks S0 w0 (Cst ks S0 w0 Lq Gq) Qf ((.rd, i) :: σ) f L G := ⟨_, ho, .inr ⟨hw, v, hr, h⟩⟩
/-- one that makes a block -/
theorem w_new {d : Nat} {obj : Obj} {mk : Nat → Value} (ho : l[i]? = some ⟨some d, op, ty, pos, af, gd⟩) (hw : Wt N l f ⟨some d, op, ty, pos, af, gd⟩ = true)
    (hr : ∀ w, (execOp (ev N f) ⟨some d, op, ty, pos, af, gd⟩).run P w = .ok (.value (mk w.heap.size)) (w.alloc obj)) (h : ∀ b, RW P N l ks S0 w0 (Cst ks S0 w0 Lq Gq) Qf σ (upd f d (mk b)) (L ++ [[(b, obj)]]) G) :
    RW P N l ks S0 w0 (Cst ks S0 w0 Lq Gq) Qf ((.fl, i) :: σ) f L G := ⟨_, ho, .inr ⟨hw, obj, mk, hr, fun b _ => h b⟩⟩
/-- whatever else: it stands in the chain -/
theorem w_ch {Gh : Type} {p : Value → Gh → Prop} {L' : Value → Gh → List Seg} {G' : Value → Gh → List (World → Prop)} (ho : l[i]? = some ⟨dd, op, ty, pos, af, gd⟩) (hw : Wt N l f ⟨dd, op, ty, pos, af, gd⟩ = true)
    (hr : ∀ w X, St ks S0 w0 w (L ++ X) G → stepsTo P N f ⟨dd, op, ty, pos, af, gd⟩ w fun v w' => ∃ g, p v g ∧ St ks S0 w0 w' (L' v g ++ X) (G' v g))
    (hs : ∀ v g, p v g → SubL Lq (L' v g) ∧ ∀ F ∈ Gq, F ∈ G' v g) (hmo : ∀ v g, p v g → ∀ F ∈ G, F ∈ G' v g) (h : ∀ v g, p v g → RW P N l ks S0 w0 (Cst ks S0 w0 Lq Gq) Qf σ (updO f dd v) (L' v g) (G' v g)) :
    RW P N l ks S0 w0 (Cst ks S0 w0 Lq Gq) Qf ((.ch, i) :: σ) f L G :=
  ⟨_, ho, .inr ⟨hw, Gh, p, L', G', fun w X M _ => (hr w X M).mono fun v _ ⟨g, hp, M'⟩ => ⟨Cst.of M' (hs v g hp).1 (hs v g hp).2, g, hp, M'⟩, hmo, fun v g hp _ => h v g hp⟩⟩
theorem stepsTo_call {w : World} {o : Oper} {g : FuncId} {as : Array Value} {R : Value → World → Prop} (hr : (execOp (ev N f) o).run P w = .ok (.enter g as) w) (hc : Calls P g as w fun e w' => ∃ v, e = .returned v ∧ R v w') : stepsTo P N f o w R := by
  unfold stepsTo; rw [hr]; exact hc
theorem stepsTo_val {w w' : World} {o : Oper} {v : Value} {R : Value → World → Prop} (hr : (execOp (ev N f) o).run P w = .ok (.value v) w') (hR : R v w') : stepsTo P N f o w R := by
  unfold stepsTo; rw [hr]; exact hR
theorem stepsTo_skip {w w' : World} {o : Oper} {R : Value → World → Prop} (hr : (execOp (ev N f) o).run P w = .ok .skip w') (hR : R undef w') : stepsTo P N f o w R := by
  unfold stepsTo; rw [hr]; exact hR
theorem w_callP {g : FuncId} {as : Array Value} {v : Value} (ho : l[i]? = some ⟨dd, op, ty, pos, af, gd⟩) (hw : Wt N l f ⟨dd, op, ty, pos, af, gd⟩ = true)
    (hr : ∀ w, (execOp (ev N f) ⟨dd, op, ty, pos, af, gd⟩).run P w = .ok (.enter g as) w) (hc : ∀ w X, St ks S0 w0 w (L ++ X) G → Calls P g as w fun e w' => e = .returned v ∧ Keep [] w w')
    (hs : SubL Lq L) (hG : ∀ F ∈ Gq, F ∈ G) (h : RW P N l ks S0 w0 (Cst ks S0 w0 Lq Gq) Qf σ (updO f dd v) L G) : RW P N l ks S0 w0 (Cst ks S0 w0 Lq Gq) Qf ((.ch, i) :: σ) f L G :=
  w_ch (Gh := Unit) (p := fun v' _ => v' = v) (L' := fun _ _ => L) (G' := fun _ _ => G) ho hw
    (fun w X M => stepsTo_call (hr w) ((hc w X M).mono fun e _ ⟨he, hk⟩ => ⟨v, he, (), rfl, M.kept hk⟩)) (fun _ _ _ => ⟨hs, hG⟩) (fun _ _ _ _ h => h) (fun _ _ e => by subst e; exact h)
theorem w_call0 {g : FuncId} {as : Array Value} {Gh : Type} {p : Value → Gh → Prop} {A : Value → Gh → List Seg} {G1 : List (World → Prop)} {Gn : Value → Gh → List (World → Prop)} (ho : l[i]? = some ⟨dd, op, ty, pos, af, gd⟩) (hw : Wt N l f ⟨dd, op, ty, pos, af, gd⟩ = true)
    (hr : ∀ w, (execOp (ev N f) ⟨dd, op, ty, pos, af, gd⟩).run P w = .ok (.enter g as) w)
    (hc : ∀ ks w, St ks [] w w [] G1 → Calls P g as w fun e w' => ∃ v γ, e = .returned v ∧ p v γ ∧ St ks [] w w' (A v γ) (Gn v γ)) (hG1 : ∀ F ∈ G1, F ∈ G)
    (hs : ∀ v γ, SubL Lq (L ++ A v γ)) (hG : ∀ F ∈ Gq, F ∈ G) (h : ∀ v γ, p v γ → RW P N l ks S0 w0 (Cst ks S0 w0 Lq Gq) Qf σ (updO f dd v) (L ++ A v γ) (G ++ Gn v γ)) : RW P N l ks S0 w0 (Cst ks S0 w0 Lq Gq) Qf ((.ch, i) :: σ) f L G :=
  w_ch (Gh := Gh) (p := p) (L' := fun v γ => L ++ A v γ) (G' := fun v γ => G ++ Gn v γ) ho hw
    (fun w X M => stepsTo_call (hr w) ((hc _ w (M.pre0 hG1)).mono fun e w' ⟨v, γ, he, hp, M'⟩ => ⟨v, he, γ, hp, (M.post0 M').perm (by
      simp only [List.append_assoc]; exact List.Perm.append_left _ List.perm_append_comm)⟩))
    (fun v γ _ => ⟨hs v γ, fun F hF => List.mem_append_left _ (hG F hF)⟩) (fun _ _ _ _ h => List.mem_append_left _ h) h
theorem set_append_lt {L X : List Seg} {k : Nat} {s : Seg} (h : k < L.length) : (L ++ X).set k s = L.set k s ++ X := by
  rw [List.set_append_left _ _ h]
theorem w_call1 {g : FuncId} {as : Array Value} {Gh : Type} {p : Value → Gh → Prop} {s : Seg} {s' : Value → Gh → Seg} {A : Value → Gh → List Seg} {G1 : List (World → Prop)} {Gn : Value → Gh → List (World → Prop)} (k : Nat) (ho : l[i]? = some ⟨dd, op, ty, pos, af, gd⟩) (hw : Wt N l f ⟨dd, op, ty, pos, af, gd⟩ = true)
    (hr : ∀ w, (execOp (ev N f) ⟨dd, op, ty, pos, af, gd⟩).run P w = .ok (.enter g as) w) (hk : L[k]? = some s)
    (hc : ∀ ks w, St ks (keysOf [s]) w w [s] G1 → Calls P g as w fun e w' => ∃ v γ, e = .returned v ∧ p v γ ∧ St ks (keysOf [s]) w w' (s' v γ :: A v γ) (Gn v γ)) (hG1 : ∀ F ∈ G1, F ∈ G)
    (hs : ∀ v γ, SubL Lq (L.set k (s' v γ) ++ A v γ)) (hG : ∀ F ∈ Gq, F ∈ G) (h : ∀ v γ, p v γ → RW P N l ks S0 w0 (Cst ks S0 w0 Lq Gq) Qf σ (updO f dd v) (L.set k (s' v γ) ++ A v γ) (G ++ Gn v γ)) : RW P N l ks S0 w0 (Cst ks S0 w0 Lq Gq) Qf ((.ch, i) :: σ) f L G :=
  have hlt : k < L.length := (List.getElem?_eq_some_iff.1 hk).1
  w_ch (Gh := Gh) (p := p) (L' := fun v γ => L.set k (s' v γ) ++ A v γ) (G' := fun v γ => G ++ Gn v γ) ho hw
    (fun w X M => stepsTo_call (hr w) ((hc _ w (M.pre1 (k := k) (by rw [List.getElem?_append_left hlt]; exact hk) hG1)).mono fun e w' ⟨v, γ, he, hp, M'⟩ => ⟨v, he, γ, hp,
      (M.post1 (k := k) (by rw [List.getElem?_append_left hlt]; exact hk) M').perm (by
        rw [set_append_lt hlt]; simp only [List.append_assoc]; exact List.Perm.append_left _ List.perm_append_comm)⟩))
    (fun v γ _ => ⟨hs v γ, fun F hF => List.mem_append_left _ (hG F hF)⟩) (fun _ _ _ _ h => List.mem_append_left _ h) h
/-- a store into an owned block -/
theorem w_store {T U : TypeId} {x y : Operand} {n k j b o : Nat} {s : Seg} {cs vs : List Value} {v : Value} (ho : l[i]? = some ⟨none, .store T x y, ty, pos, af, gd⟩) (hw : Wt N l f ⟨none, .store T x y, ty, pos, af, gd⟩ = true) (hs : Sz P T n)
    (hx : ev N f x = .pointer (some ⟨b, o, none⟩)) (hy : ev N f y = v) (hc : cellsOf v = vs) (hk : L[k]? = some s) (hj : s[j]? = some (b, C cs U)) (hn : vs.length = n) (h1 : oneAll vs = true) (hf : Nat.ble (o + vs.length) cs.length = true)
    (hsub : SubL Lq (L.set k (s.set j (b, C (spl cs o vs) U)))) (hG : ∀ F ∈ Gq, F ∈ G)
    (h : RW P N l ks S0 w0 (Cst ks S0 w0 Lq Gq) Qf σ f (L.set k (s.set j (b, C (spl cs o vs) U))) G) : RW P N l ks S0 w0 (Cst ks S0 w0 Lq Gq) Qf ((.ch, i) :: σ) f L G :=
  have hlt : k < L.length := (List.getElem?_eq_some_iff.1 hk).1
  w_ch (Gh := Unit) (p := fun _ _ => True) (L' := fun _ _ => L.set k (s.set j (b, C (spl cs o vs) U))) (G' := fun _ _ => G) ho hw
    (fun w X M => by
      have hk' : (L ++ X)[k]? = some s := by rw [List.getElem?_append_left hlt]; exact hk
      have hb := M.mem hk' hj
      refine stepsTo_skip (r_store hs hx hy hc hn h1 hb (Nat.le_of_ble_eq_true hf)) ⟨(), trivial, ?_⟩
      rw [setRow_setBlk hb, ← set_append_lt hlt]
      exact M.put hk' hj _) (fun _ _ _ => ⟨hsub, hG⟩) (fun _ _ _ _ h => h) (fun _ _ _ => h)
end
end
end Go.Az
