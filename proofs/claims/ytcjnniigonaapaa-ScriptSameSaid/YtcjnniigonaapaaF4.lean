/-
  FRAMEWORK 4: regions that draw their order: one walk, in an order of one's own, serves every order.
-/
import Derived.Test.YtcjnniigonaapaaF3
import Derived.Still
namespace Go.Az
open Go

inductive Kd where
  | q | fl | ch | rd
  deriving DecidableEq

def updO (f : Nat → Value) (d : Option Nat) (v : Value) : Nat → Value := match d with
  | some d => upd f d v
  | none => f
theorem put_updO (N : Nat) (f : Nat → Value) (d : Option Nat) (v : Value) : (Fr N f).put d v = Fr N (updO f d v) := by
  cases d with
  | none => rfl
  | some d => exact put_Fr N f d v

/-- the operation runs to a value -/
def stepsTo (P : Program) (N : Nat) (f : Nat → Value) (o : Oper) (w : World) (R : Value → World → Prop) : Prop :=
  match (execOp (ev N f) o).run P w with
  | .ok (.value v) w' => R v w'
  | .ok .skip w' => R undef w'
  | .ok (.enter g as) w' => Calls P g as w' fun e w'' => ∃ v, e = .returned v ∧ R v w''
  | _ => False
theorem stepsTo.mono {P : Program} {N : Nat} {f : Nat → Value} {o : Oper} {w : World} {R R' : Value → World → Prop} (h : stepsTo P N f o w R) (hr : ∀ v w', R v w' → R' v w') : stepsTo P N f o w R' := by
  unfold stepsTo at *
  split at h <;> first
    | exact hr _ _ h
    | exact h.mono fun e w'' ⟨v, e1, h1⟩ => ⟨v, e1, hr _ _ h1⟩
    | exact h
theorem stepsTo.some {P : Program} {N : Nat} {f : Nat → Value} {o : Oper} {w : World} {R : Value → World → Prop} (h : stepsTo P N f o w R) : ∃ v w', R v w' := by
  unfold stepsTo at h
  split at h
  · exact ⟨_, _, h⟩
  · exact ⟨_, _, h⟩
  · obtain ⟨e, w', fr, ⟨v, _, hv⟩, _⟩ := h []
    exact ⟨v, w', hv⟩
  · exact h.elim
theorem stepsTo.wp {P : Program} {N : Nat} {f : Nat → Value} {o : Oper} {w : World} {R : Value → World → Prop} {K : Act → World → Prop} {Q : Exit → Act → World → Prop} (h : stepsTo P N f o w R)
    (hk : ∀ v w', R v w' → K (Fr N (updO f o.dst v)) w') : o.wp P (Fr N f) w K Q := by
  unfold stepsTo at h
  unfold Oper.wp
  rw [eval_Fr]
  split at h
  · rename_i e; rw [e]; simp only [Oper.upon, put_updO]; exact hk _ _ h
  · rename_i e; rw [e]; simp only [Oper.upon, put_updO]; exact hk _ _ h
  · rename_i e; rw [e]; simp only [Oper.upon]
    exact h.mono fun e w'' ⟨v, e1, h1⟩ => by subst e1; simp only [put_updO]; exact hk _ _ h1
  · exact h.elim
theorem stepsTo_congr {P : Program} {N : Nat} {f f' : Nat → Value} {o : Oper} {w : World} {R : Value → World → Prop} (h : stepsTo P N f o w R) (e : execOp (ev N f') o = execOp (ev N f) o) : stepsTo P N f' o w R := by
  unfold stepsTo at *
  rw [e]; exact h

section
variable (P : Program) (N : Nat) (l : List Oper) (ks S0 : List Nat) (w0 : World) (Cq : World → Prop) (Qf : (Nat → Value) → World → Prop)

noncomputable def Wt (f : Nat → Value) (o : Oper) : Bool := Region.wanted o (yielded l.toArray (Fr N f).tmps)
def Inh (L : List Seg) (G : List (World → Prop)) : Prop := ∃ w, St ks S0 w0 w L G ∧ Cq w

/-- may stand ahead of the other in the walk, though the other comes first -/
def okKd : Kd → Kd → Bool
  | .q, _ => true
  | .rd, _ => true
  | .fl, .ch => false
  | .fl, _ => true
  | .ch, .ch => false
  | .ch, .rd => false
  | .ch, _ => true
/-- THE WALK, as it is asked of you. -/
def RW : List (Kd × Nat) → (Nat → Value) → List Seg → List (World → Prop) → Prop
  | [], f, L, G => ∀ w, St ks S0 w0 w L G → Cq w → Qf f w
  | (κ, i) :: σ, f, L, G => ∃ o, l[i]? = some o ∧
    ((Wt N l f o = false ∧ RW σ (updO f o.dst undef) L G) ∨
     (Wt N l f o = true ∧ match κ with
      | .q => ∃ v, (∀ w, Cq w → (execOp (ev N f) o).run P w = .ok (.value v) w) ∧ RW σ (updO f o.dst v) L G
      | .fl => ∃ (obj : Obj) (mk : Nat → Value), (∀ w, (execOp (ev N f) o).run P w = .ok (.value (mk w.heap.size)) (w.alloc obj)) ∧
          ∀ b, Inh ks S0 w0 Cq (L ++ [[(b, obj)]]) G → RW σ (updO f o.dst (mk b)) (L ++ [[(b, obj)]]) G
      | .ch => ∃ (Gh : Type) (p : Value → Gh → Prop) (L' : Value → Gh → List Seg) (G' : Value → Gh → List (World → Prop)),
          (∀ w X, St ks S0 w0 w (L ++ X) G → Cq w → stepsTo P N f o w fun v w' => Cq w' ∧ ∃ g, p v g ∧ St ks S0 w0 w' (L' v g ++ X) (G' v g)) ∧ (∀ v g, p v g → ∀ F ∈ G, F ∈ G' v g) ∧
          ∀ v g, p v g → Inh ks S0 w0 Cq (L' v g) (G' v g) → RW σ (updO f o.dst v) (L' v g) (G' v g)
      | .rd => ∃ v, (∀ w, (∀ F ∈ G, F w) → (execOp (ev N f) o).run P w = .ok (.value v) w) ∧ RW σ (updO f o.dst v) L G))

variable {P N l ks S0 w0 Cq Qf}

theorem RW.perm : ∀ (σ : List (Kd × Nat)) (f : Nat → Value) (L L' : List Seg) (G : List (World → Prop)), RW P N l ks S0 w0 Cq Qf σ f L G → L'.Perm L → RW P N l ks S0 w0 Cq Qf σ f L' G
  | [], f, L, L', G, h, hp => fun w M hC => h w (M.perm hp.symm) hC
  | (κ, i) :: σ, f, L, L', G, h, hp => by
    obtain ⟨o, ho, h⟩ := h
    refine ⟨o, ho, ?_⟩
    rcases h with ⟨hw, h⟩ | ⟨hw, h⟩
    · exact .inl ⟨hw, RW.perm σ _ _ _ _ h hp⟩
    · refine .inr ⟨hw, ?_⟩
      cases κ with
      | q =>
        obtain ⟨v, hv, h⟩ := h
        exact ⟨v, hv, RW.perm σ _ _ _ _ h hp⟩
      | fl =>
        obtain ⟨obj, mk, hr, h⟩ := h
        exact ⟨obj, mk, hr, fun b hb => RW.perm σ _ _ _ _ (h b (hb.imp fun w hw => ⟨hw.1.perm (hp.symm.append_right _), hw.2⟩)) (hp.append_right _)⟩
      | ch =>
        obtain ⟨Gh, p, L1, G1, hs, h⟩ := h
        exact ⟨Gh, p, L1, G1, fun w X M hC => hs w X (M.perm (hp.symm.append_right _)) hC, h⟩
      | rd =>
        obtain ⟨v, hv, h⟩ := h
        exact ⟨v, hv, RW.perm σ _ _ _ _ h hp⟩

/-! two operations that have nothing to do with each other -/
section
variable {x y : Oper}
theorem ap_run (hs : ∀ cs b, x.op ≠ .select cs b) (h : ∀ d, y.dst = some d → d ∉ x.looksAt l.toArray) (f : Nat → Value) (v : Value) : execOp (ev N (updO f y.dst v)) x = execOp (ev N f) x := by
  rw [← eval_Fr, ← eval_Fr, ← put_updO]
  exact execOp_put x hs (Fr N f) y.dst v h
theorem ap_wt (h : ∀ d, y.dst = some d → d ∉ x.looksAt l.toArray) (f : Nat → Value) (v : Value) : Wt N l (updO f y.dst v) x = Wt N l f x := by
  unfold Wt
  rw [← put_updO]
  exact wanted_put x (Fr N f) y.dst v h
theorem updO_comm (h : ∀ d, x.dst = some d → y.dst ≠ some d) (f : Nat → Value) (u v : Value) : updO (updO f x.dst u) y.dst v = updO (updO f y.dst v) x.dst u := by
  cases hx : x.dst with
  | none => rfl
  | some d =>
    cases hy : y.dst with
    | none => rfl
    | some e =>
      have hne : d ≠ e := fun e' => h d hx (by rw [hy, e'])
      funext i
      simp only [updO, upd]
      cases h1 : Nat.beq i e <;> cases h2 : Nat.beq i d <;> simp only [cond_true, cond_false]
      exact absurd ((Nat.eq_of_beq_eq_true h2).symm.trans (Nat.eq_of_beq_eq_true h1)) hne
end

theorem alloc_inj {w : World} {a b : Obj} (h : w.alloc a = w.alloc b) : a = b := by
  have h1 : (w.alloc a).heap[w.heap.size]? = (w.alloc b).heap[w.heap.size]? := by rw [h]
  rw [heap_alloc_new, heap_alloc_new] at h1
  exact Option.some.inj h1
theorem fl_uniq {o : Oper} {f : Nat → Value} {a a' : Obj} {mk mk' : Nat → Value} (h : ∀ w, (execOp (ev N f) o).run P w = .ok (.value (mk w.heap.size)) (w.alloc a))
    (h' : ∀ w, (execOp (ev N f) o).run P w = .ok (.value (mk' w.heap.size)) (w.alloc a')) : a = a' ∧ mk = mk' := by
  constructor
  · have := (h default).symm.trans (h' default)
    injection this with _ h2
    exact alloc_inj h2
  · funext s
    let w : World := { (default : World) with heap := Array.replicate s default }
    have hs : w.heap.size = s := by simp [w]
    have := (h w).symm.trans (h' w)
    injection this with h1 _
    injection h1 with h1
    rwa [hs] at h1
theorem q_uniq {o : Oper} {f : Nat → Value} {v v' : Value} (hC : ∃ w, Cq w) (h : ∀ w, Cq w → (execOp (ev N f) o).run P w = .ok (.value v) w)
    (h' : ∀ w, Cq w → (execOp (ev N f) o).run P w = .ok (.value v') w) : v = v' := by
  obtain ⟨w, hw⟩ := hC
  have := (h w hw).symm.trans (h' w hw)
  injection this with h1 _
  injection h1 with h1

theorem rd_uniq {o : Oper} {f : Nat → Value} {G : List (World → Prop)} {v v' : Value} (hC : ∃ w, ∀ F ∈ G, F w) (h : ∀ w, (∀ F ∈ G, F w) → (execOp (ev N f) o).run P w = .ok (.value v) w)
    (h' : ∀ w, (∀ F ∈ G, F w) → (execOp (ev N f) o).run P w = .ok (.value v') w) : v = v' := by
  obtain ⟨w, hw⟩ := hC
  have := (h w hw).symm.trans (h' w hw)
  injection this with h1 _
  injection h1 with h1
theorem Inh.gs {L : List Seg} {G : List (World → Prop)} (h : Inh ks S0 w0 Cq L G) : ∃ w, ∀ F ∈ G, F w := h.imp fun _ h F hF => (h.1.facts F hF).now
theorem Inh.cq {L : List Seg} {G : List (World → Prop)} (h : Inh ks S0 w0 Cq L G) : ∃ w, Cq w := h.imp fun _ h => h.2
theorem Inh.drop {L X : List Seg} {G : List (World → Prop)} (h : Inh ks S0 w0 Cq (L ++ X) G) : Inh ks S0 w0 Cq L G :=
  h.imp fun _ h => ⟨h.1.sub (by rw [List.flatten_append]; exact List.sublist_append_left _ _) (fun _ h => h), h.2⟩
theorem Inh.alloc {L : List Seg} {G : List (World → Prop)} (hCa : ∀ w o, Cq w → Cq (w.alloc o)) (h : Inh ks S0 w0 Cq L G) (obj : Obj) : ∃ b, Inh ks S0 w0 Cq (L ++ [[(b, obj)]]) G := by
  obtain ⟨w, M, hC⟩ := h
  exact ⟨_, _, M.alloc obj, hCa _ _ hC⟩

/-- x, which stands behind y and has nothing to do with it, may come first. -/
theorem RW.swap (hCa : ∀ w o, Cq w → Cq (w.alloc o)) {κx κy : Kd} {x y : Nat} {ox oy : Oper} (hx : l[x]? = some ox) (hy : l[y]? = some oy) (hap : oy.apart l.toArray ox = true)
    (hsx : ∀ cs b, ox.op ≠ .select cs b) (hsy : ∀ cs b, oy.op ≠ .select cs b) (hk : okKd κy κx = true) {σ : List (Kd × Nat)} {f : Nat → Value} {L : List Seg} {G : List (World → Prop)} (hI : Inh ks S0 w0 Cq L G)
    (h : RW P N l ks S0 w0 Cq Qf ((κy, y) :: (κx, x) :: σ) f L G) : RW P N l ks S0 w0 Cq Qf ((κx, x) :: (κy, y) :: σ) f L G := by
  obtain ⟨a1, a2, a3⟩ := Oper.apart_spec hap
  have rx := ap_run (N := N) (l := l) (x := ox) (y := oy) hsx a1
  have ry := ap_run (N := N) (l := l) (x := oy) (y := ox) hsy a3
  have tx := ap_wt (N := N) (l := l) (x := ox) (y := oy) a1
  have ty := ap_wt (N := N) (l := l) (x := oy) (y := ox) a3
  have cm := updO_comm (x := oy) (y := ox) a2
  clear a1 a2 a3
  obtain ⟨oy', hy', h⟩ := h
  obtain rfl : oy' = oy := by rw [hy] at hy'; exact (Option.some.inj hy').symm
  have single : ∀ vy, (∀ g vx, ((Wt N l f oy' = false ∧ vy = undef) ∨ (Wt N l f oy' = true ∧ κy = .q ∧ ∀ w, Cq w → (execOp (ev N f) oy').run P w = .ok (.value vy) w) ∨ (Wt N l f oy' = true ∧ κy = .rd ∧ ∀ w, (∀ F ∈ G, F w) → (execOp (ev N f) oy').run P w = .ok (.value vy) w)) →
      ∀ L' G', (∀ F ∈ G, F ∈ G') → RW P N l ks S0 w0 Cq Qf σ (updO (updO f oy'.dst vy) ox.dst vx) L' G' → g = updO f ox.dst vx → RW P N l ks S0 w0 Cq Qf ((κy, y) :: σ) g L' G') := by
    intro vy g vx hvy L' G' hGG hr hg
    subst hg
    refine ⟨oy', hy, ?_⟩
    rcases hvy with ⟨hw, rfl⟩ | ⟨hw, rfl, hq⟩ | ⟨hw, rfl, hq⟩
    · exact .inl ⟨by rw [ty]; exact hw, by rw [← cm]; exact hr⟩
    · exact .inr ⟨by rw [ty]; exact hw, vy, fun w hC => by rw [ry]; exact hq w hC, by rw [← cm]; exact hr⟩
    · exact .inr ⟨by rw [ty]; exact hw, vy, fun w hF => by rw [ry]; exact hq w (fun F h => hF F (hGG F h)), by rw [← cm]; exact hr⟩
  have easy : ∀ vy, ((Wt N l f oy' = false ∧ vy = undef) ∨ (Wt N l f oy' = true ∧ κy = .q ∧ ∀ w, Cq w → (execOp (ev N f) oy').run P w = .ok (.value vy) w) ∨ (Wt N l f oy' = true ∧ κy = .rd ∧ ∀ w, (∀ F ∈ G, F w) → (execOp (ev N f) oy').run P w = .ok (.value vy) w)) →
      RW P N l ks S0 w0 Cq Qf ((κx, x) :: σ) (updO f oy'.dst vy) L G → RW P N l ks S0 w0 Cq Qf ((κx, x) :: (κy, y) :: σ) f L G := by
    intro vy hvy hr
    obtain ⟨ox', hx', hr⟩ := hr
    obtain rfl : ox' = ox := by rw [hx] at hx'; exact (Option.some.inj hx').symm
    refine ⟨ox', hx, ?_⟩
    rw [tx] at hr
    rcases hr with ⟨hw, hr⟩ | ⟨hw, hr⟩
    · exact .inl ⟨hw, single vy _ _ hvy _ _ (fun _ h => h) hr rfl⟩
    · refine .inr ⟨hw, ?_⟩
      cases κx with
      | q =>
        obtain ⟨v, hv, hr⟩ := hr
        exact ⟨v, fun w hC => by rw [← rx]; exact hv w hC, single vy _ _ hvy _ _ (fun _ h => h) hr rfl⟩
      | fl =>
        obtain ⟨obj, mk, hv, hr⟩ := hr
        exact ⟨obj, mk, fun w => by rw [← rx]; exact hv w, fun b hb => single vy _ _ hvy _ _ (fun _ h => h) (hr b hb) rfl⟩
      | ch =>
        obtain ⟨Gh, p, L', G', hv, hmo, hr⟩ := hr
        exact ⟨Gh, p, L', G', fun w X M hC => stepsTo_congr (hv w X M hC) (rx f vy).symm, hmo, fun v g hp hb => single vy _ _ hvy _ _ (hmo v g hp) (hr v g hp hb) rfl⟩
      | rd =>
        obtain ⟨v, hv, hr⟩ := hr
        exact ⟨v, fun w hF => by rw [← rx]; exact hv w hF, single vy _ _ hvy _ _ (fun _ h => h) hr rfl⟩
  rcases h with ⟨hw, h⟩ | ⟨hw, h⟩
  · exact easy undef (.inl ⟨hw, rfl⟩) h
  · cases κy with
    | q =>
      obtain ⟨v, hv, h⟩ := h
      exact easy v (.inr (.inl ⟨hw, rfl, hv⟩)) h
    | rd =>
      obtain ⟨v, hv, h⟩ := h
      exact easy v (.inr (.inr ⟨hw, rfl, hv⟩)) h
    | fl =>
      have hk' : κx ≠ .ch := by rintro rfl; cases hk
      obtain ⟨obj, mk, hv, h⟩ := h
      obtain ⟨b0, hb0⟩ := hI.alloc hCa obj
      obtain ⟨ox', hx', h0⟩ := h b0 hb0
      obtain rfl : ox' = ox := by rw [hx] at hx'; exact (Option.some.inj hx').symm
      refine ⟨ox', hx, ?_⟩
      rw [tx] at h0
      have yfl : ∀ g vx L' G', g = updO f ox'.dst vx → (∀ b, Inh ks S0 w0 Cq (L' ++ [[(b, obj)]]) G' → RW P N l ks S0 w0 Cq Qf σ (updO (updO f oy'.dst (mk b)) ox'.dst vx) (L' ++ [[(b, obj)]]) G') →
          RW P N l ks S0 w0 Cq Qf ((.fl, y) :: σ) g L' G' := by
        intro g vx L' G' hg hr
        subst hg
        exact ⟨oy', hy, .inr ⟨by rw [ty]; exact hw, obj, mk, fun w => by rw [ry]; exact hv w, fun b hb => by rw [← cm]; exact hr b hb⟩⟩
      rcases h0 with ⟨hwx, _⟩ | ⟨hwx, h0⟩
      · refine .inl ⟨hwx, yfl _ _ _ _ rfl fun b hb => ?_⟩
        obtain ⟨ox'', hx'', h1⟩ := h b hb
        obtain rfl : ox'' = ox' := by rw [hx] at hx''; exact (Option.some.inj hx'').symm
        rw [tx, hwx] at h1
        simpa using h1
      · refine .inr ⟨hwx, ?_⟩
        cases κx with
        | q =>
          obtain ⟨v, hvx, _⟩ := h0
          refine ⟨v, fun w hC => by rw [← rx]; exact hvx w hC, yfl _ _ _ _ rfl fun b hb => ?_⟩
          obtain ⟨ox'', hx'', h1⟩ := h b hb
          obtain rfl : ox'' = ox' := by rw [hx] at hx''; exact (Option.some.inj hx'').symm
          rw [tx, hwx] at h1
          simp only [Bool.true_eq_false, false_and, true_and, false_or] at h1
          obtain ⟨v', hv', h1⟩ := h1
          obtain rfl : v' = v := q_uniq (f := f) hI.cq (fun w hC => by rw [← rx]; exact hv' w hC) (fun w hC => by rw [← rx]; exact hvx w hC)
          exact h1
        | fl =>
          obtain ⟨obj', mk', hvx, _⟩ := h0
          refine ⟨obj', mk', fun w => by rw [← rx]; exact hvx w, fun b' hb' => yfl _ _ _ _ rfl fun b hb => ?_⟩
          have hp : (L ++ [[(b', obj')]] ++ [[(b, obj)]]).Perm (L ++ [[(b, obj)]] ++ [[(b', obj')]]) := by
            simp only [List.append_assoc]; exact List.Perm.append_left _ List.perm_append_comm
          have hb2 : Inh ks S0 w0 Cq (L ++ [[(b, obj)]] ++ [[(b', obj')]]) G := hb.imp fun w hw => ⟨hw.1.perm hp.symm, hw.2⟩
          obtain ⟨ox'', hx'', h1⟩ := h b hb2.drop
          obtain rfl : ox'' = ox' := by rw [hx] at hx''; exact (Option.some.inj hx'').symm
          rw [tx, hwx] at h1
          simp only [Bool.true_eq_false, false_and, true_and, false_or] at h1
          obtain ⟨obj'', mk'', hv', h1⟩ := h1
          obtain ⟨rfl, rfl⟩ := fl_uniq (f := f) (fun w => by rw [← rx]; exact hv' w) (fun w => by rw [← rx]; exact hvx w)
          exact RW.perm σ _ _ _ _ (h1 b' hb2) hp
        | rd =>
          obtain ⟨v, hvx, _⟩ := h0
          refine ⟨v, fun w hF => by rw [← rx]; exact hvx w hF, yfl _ _ _ _ rfl fun b hb => ?_⟩
          obtain ⟨ox'', hx'', h1⟩ := h b hb
          obtain rfl : ox'' = ox' := by rw [hx] at hx''; exact (Option.some.inj hx'').symm
          rw [tx, hwx] at h1
          simp only [Bool.true_eq_false, false_and, true_and, false_or] at h1
          obtain ⟨v', hv', h1⟩ := h1
          obtain rfl : v' = v := rd_uniq (f := f) hI.gs (fun w hF => by rw [← rx]; exact hv' w hF) (fun w hF => by rw [← rx]; exact hvx w hF)
          exact h1
        | ch => exact absurd rfl hk'
    | ch =>
      have hk' : κx ≠ .ch := by rintro rfl; cases hk
      have hk'' : κx ≠ .rd := by rintro rfl; cases hk
      obtain ⟨Gh, p, L1, G1, hv, hmo, h⟩ := h
      obtain ⟨v0, g0, hp0, hi0⟩ : ∃ v g, p v g ∧ Inh ks S0 w0 Cq (L1 v g) (G1 v g) := by
        obtain ⟨w, M, hC⟩ := hI
        obtain ⟨v, w', hC', g, hp, M'⟩ := (hv w [] (by simpa using M) hC).some
        exact ⟨v, g, hp, w', by simpa using M', hC'⟩
      obtain ⟨ox', hx', h0⟩ := h v0 g0 hp0 hi0
      obtain rfl : ox' = ox := by rw [hx] at hx'; exact (Option.some.inj hx').symm
      refine ⟨ox', hx, ?_⟩
      rw [tx] at h0
      have ych : ∀ g' vx X', g' = updO f ox'.dst vx → (∀ v g, p v g → Inh ks S0 w0 Cq (L1 v g ++ X') (G1 v g) → RW P N l ks S0 w0 Cq Qf σ (updO (updO f oy'.dst v) ox'.dst vx) (L1 v g ++ X') (G1 v g)) →
          RW P N l ks S0 w0 Cq Qf ((.ch, y) :: σ) g' (L ++ X') G := by
        intro g' vx X' hg hr
        subst hg
        refine ⟨oy', hy, .inr ⟨by rw [ty]; exact hw, Gh, p, fun v g => L1 v g ++ X', G1, fun w X M hC => ?_, hmo, fun v g hp hb => by rw [← cm]; exact hr v g hp hb⟩⟩
        refine stepsTo_congr ((hv w (X' ++ X) (by rw [← List.append_assoc]; exact M) hC).mono fun v w' ⟨hC', g, hp, M'⟩ => ⟨hC', g, hp, by rw [List.append_assoc]; exact M'⟩) (ry f vx)
      rcases h0 with ⟨hwx, _⟩ | ⟨hwx, h0⟩
      · refine .inl ⟨hwx, ?_⟩
        have := ych _ undef [] rfl fun v g hp hb => by
          obtain ⟨ox'', hx'', h1⟩ := h v g hp (by simpa using hb)
          obtain rfl : ox'' = ox' := by rw [hx] at hx''; exact (Option.some.inj hx'').symm
          rw [tx, hwx] at h1
          simpa using h1
        simpa using this
      · refine .inr ⟨hwx, ?_⟩
        cases κx with
        | q =>
          obtain ⟨vx, hvx, _⟩ := h0
          refine ⟨vx, fun w hC => by rw [← rx]; exact hvx w hC, ?_⟩
          have := ych _ vx [] rfl fun v g hp hb => by
            obtain ⟨ox'', hx'', h1⟩ := h v g hp (by simpa using hb)
            obtain rfl : ox'' = ox' := by rw [hx] at hx''; exact (Option.some.inj hx'').symm
            rw [tx, hwx] at h1
            simp only [Bool.true_eq_false, false_and, true_and, false_or] at h1
            obtain ⟨v', hv', h1⟩ := h1
            obtain rfl : v' = vx := q_uniq (f := f) hI.cq (fun w hC => by rw [← rx]; exact hv' w hC) (fun w hC => by rw [← rx]; exact hvx w hC)
            simpa using h1
          simpa using this
        | fl =>
          obtain ⟨obj', mk', hvx, _⟩ := h0
          refine ⟨obj', mk', fun w => by rw [← rx]; exact hvx w, fun b' hb' => ych _ (mk' b') [[(b', obj')]] rfl fun v g hp hb => ?_⟩
          obtain ⟨ox'', hx'', h1⟩ := h v g hp hb.drop
          obtain rfl : ox'' = ox' := by rw [hx] at hx''; exact (Option.some.inj hx'').symm
          rw [tx, hwx] at h1
          simp only [Bool.true_eq_false, false_and, true_and, false_or] at h1
          obtain ⟨obj'', mk'', hv', h1⟩ := h1
          obtain ⟨rfl, rfl⟩ := fl_uniq (f := f) (fun w => by rw [← rx]; exact hv' w) (fun w => by rw [← rx]; exact hvx w)
          exact h1 b' hb
        | rd => exact absurd rfl hk''
        | ch => exact absurd rfl hk'

theorem RW.under {κ : Kd} {i : Nat} {σ τ : List (Kd × Nat)} {f : Nat → Value} {L : List Seg} {G : List (World → Prop)} (hI : Inh ks S0 w0 Cq L G)
    (hm : ∀ f L G, Inh ks S0 w0 Cq L G → RW P N l ks S0 w0 Cq Qf σ f L G → RW P N l ks S0 w0 Cq Qf τ f L G) (h : RW P N l ks S0 w0 Cq Qf ((κ, i) :: σ) f L G) : RW P N l ks S0 w0 Cq Qf ((κ, i) :: τ) f L G := by
  obtain ⟨o, ho, h⟩ := h
  refine ⟨o, ho, ?_⟩
  rcases h with ⟨hw, h⟩ | ⟨hw, h⟩
  · exact .inl ⟨hw, hm _ _ _ hI h⟩
  · refine .inr ⟨hw, ?_⟩
    cases κ with
    | q => obtain ⟨v, hv, h⟩ := h; exact ⟨v, hv, hm _ _ _ hI h⟩
    | fl => obtain ⟨obj, mk, hv, h⟩ := h; exact ⟨obj, mk, hv, fun b hb => hm _ _ _ hb (h b hb)⟩
    | ch => obtain ⟨Gh, p, L', G', hv, hmo, h⟩ := h; exact ⟨Gh, p, L', G', hv, hmo, fun v g hp hb => hm _ _ _ hb (h v g hp hb)⟩
    | rd => obtain ⟨v, hv, h⟩ := h; exact ⟨v, hv, hm _ _ _ hI h⟩

def direct (l : List Oper) (i j : Nat) : Bool := match l[i]? with
  | some o => o.after.any fun e => Region.binds .any e && e.on == j
  | none => false
def apartAt (l : List Oper) (y x : Nat) : Bool := match l[y]?, l[x]? with
  | some oy, some ox => oy.apart l.toArray ox
  | _, _ => false
/-- y ahead of x in the walk's order -/
def pairOK (l : List Oper) (bef : Nat → Nat → Bool) (y x : Kd × Nat) : Bool :=
  !direct l y.2 x.2 && (bef x.2 y.2 || (apartAt l y.2 x.2 && okKd y.1 x.1))

theorem RW.front (hCa : ∀ w o, Cq w → Cq (w.alloc o)) (hsel : Region.noSelect l.toArray = true) {κ : Kd} {x : Nat} {ρ : List (Kd × Nat)} : ∀ (Y : List (Kd × Nat)) (f : Nat → Value) (L : List Seg) (G : List (World → Prop)),
    (∀ y ∈ Y, apartAt l y.2 x = true ∧ okKd y.1 κ = true) → Inh ks S0 w0 Cq L G → RW P N l ks S0 w0 Cq Qf (Y ++ (κ, x) :: ρ) f L G → RW P N l ks S0 w0 Cq Qf ((κ, x) :: (Y ++ ρ)) f L G
  | [], _, _, _, _, _, h => h
  | (κy, y) :: Y, f, L, G, hY, hI, h => by
    have h1 : RW P N l ks S0 w0 Cq Qf ((κy, y) :: (κ, x) :: (Y ++ ρ)) f L G :=
      RW.under hI (fun f L G hI h => RW.front hCa hsel Y f L G (fun y hy => hY y (List.mem_cons_of_mem _ hy)) hI h) h
    obtain ⟨ha, hk⟩ := hY (κy, y) (List.mem_cons_self ..)
    unfold apartAt at ha
    split at ha
    · rename_i oy ox hy hx
      have hss := fun j o cs b (ho : l[j]? = some o) => Region.noSelect_spec hsel j o cs b (by simpa using ho)
      exact RW.swap hCa hx hy ha (fun cs b => hss x ox cs b hx) (fun cs b => hss y oy cs b hy) hk hI h1
    · cases ha

/-- what has come is closed against what it waited for -/
def Dc (l : List Oper) (listed : Array Bool) : Prop := ∀ i j, listed.getD i false = true → direct l i j = true → listed.getD j false = true
/-- the certificate: of each operation, some that must have come ahead of it -/
def certOK (l : List Oper) (cert : List (List Nat)) : Bool :=
  (List.range cert.length).all fun i => (cert.getD i []).all fun j => direct l i j || (List.range i).any fun k => direct l i k && (cert.getD k []).contains j
def befOf (cert : List (List Nat)) (i j : Nat) : Bool := (cert.getD i []).contains j
theorem cert_listed {cert : List (List Nat)} (hc : certOK l cert = true) {listed : Array Bool} (hd : Dc l listed) : ∀ (i : Nat), (∀ k, direct l i k = true → listed.getD k false = true) → ∀ j, befOf cert i j = true → listed.getD j false = true := by
  intro i
  induction i using Nat.strongRecOn with
  | _ i ih =>
    intro hk j hj
    have hlt : i < cert.length := by
      rcases Nat.lt_or_ge i cert.length with h | h
      · exact h
      · simp [befOf, List.getElem?_eq_none h] at hj
    have h1 := List.all_eq_true.1 hc i (List.mem_range.2 hlt)
    have h2 := List.all_eq_true.1 h1 j (by simpa [befOf] using hj)
    rcases Bool.or_eq_true _ _ ▸ h2 with h | h
    · exact hk j h
    · obtain ⟨k, hki, h⟩ := List.any_eq_true.1 h
      rw [Bool.and_eq_true] at h
      have hkl := hk k h.1
      exact ih k (List.mem_range.1 hki) (fun m hm => hd k m hkl hm) j (by simpa [befOf] using h.2)

def edgesOK (l : List Oper) : Bool := (List.range l.length).all fun i => match l[i]? with
  | some o => o.after.all fun e => !Region.binds .any e || decide (e.on < i)
  | none => true
theorem direct_iff {l : List Oper} {i j : Nat} {o : Oper} (ho : l[i]? = some o) : direct l i j = true ↔ ∃ e ∈ o.after, Region.binds .any e = true ∧ e.on = j := by
  simp only [direct, ho]
  rw [Array.any_eq_true']
  simp
theorem edges_lt {l : List Oper} (h : edgesOK l = true) {i j : Nat} (hd : direct l i j = true) : j < i ∧ i < l.length := by
  cases ho : l[i]? with
  | none => simp [direct, ho] at hd
  | some o =>
    have hlt := (List.getElem?_eq_some_iff.1 ho).1
    obtain ⟨e, he, hb, rfl⟩ := (direct_iff ho).1 hd
    have h1 := List.all_eq_true.1 h i (List.mem_range.2 hlt)
    simp only [ho] at h1
    have h2 := Array.all_eq_true_iff_forall_mem.1 h1 e he
    simp only [hb, Bool.not_true, Bool.false_or, decide_eq_true_eq] at h2
    exact ⟨h2, hlt⟩
def okOrder (l : List Oper) (σ : List (Kd × Nat)) (cert : List (List Nat)) : Bool :=
  Region.noSelect l.toArray && edgesOK l && certOK l cert && (σ.length == l.length) && ((List.range l.length).all fun i => (σ.map (·.2)).contains i) && (σ.all fun p => decide (p.2 < l.length)) && decide (σ.map (·.2)).Nodup &&
  decide (σ.Pairwise fun y x => pairOK l (befOf cert) y x = true)

theorem set_self {listed : Array Bool} {i : Nat} (h : i < listed.size) (d : Bool) : (listed.setIfInBounds i true).getD i d = true := by simp [h]
theorem getD_of_lt {listed : Array Bool} {i : Nat} (h : i < listed.size) (d d' : Bool) : listed.getD i d = listed.getD i d' := by simp [h]

theorem rw_sound {Q : Exit → Act → World → Prop} (hQ : ∀ f w, Qf f w → Q .normal (Fr N f) w) (hCa : ∀ w o, Cq w → Cq (w.alloc o)) (hsel : Region.noSelect l.toArray = true) (hed : edgesOK l = true) {cert : List (List Nat)} (hcert : certOK l cert = true) :
    ∀ (n : Nat) (σ : List (Kd × Nat)) (listed : Array Bool) (f : Nat → Value) (w : World) (L : List Seg) (G : List (World → Prop)), σ.length = n → listed.size = l.length →
      (∀ i, i ∈ σ.map (·.2) ↔ i < l.length ∧ listed.getD i true = false) → (σ.map (·.2)).Nodup → σ.Pairwise (fun y x => pairOK l (befOf cert) y x = true) → Dc l listed →
      St ks S0 w0 w L G → Cq w → RW P N l ks S0 w0 Cq Qf σ f L G → wpAny P .any l.toArray Q n listed (Fr N f) w := by
  intro n
  induction n with
  | zero =>
    intro σ listed f w L G hn hsz hun hnd hpw hdc M hC h
    obtain rfl : σ = [] := List.eq_nil_of_length_eq_zero hn
    refine ⟨?_, hQ _ _ (h w M hC)⟩
    cases hr : Region.ready .any l.toArray listed with
    | nil => rfl
    | cons j r =>
      have hj : j ∈ Region.ready .any l.toArray listed := by rw [hr]; exact List.mem_cons_self ..
      obtain ⟨h0, o, ho, _⟩ := mem_ready.1 hj
      have hlt : j < l.length := by simpa using (Array.getElem?_eq_some_iff.1 ho).1
      exact absurd ((hun j).2 ⟨hlt, h0⟩) (by simp)
  | succ n ih =>
    intro σ listed f w L G hn hsz hun hnd hpw hdc M hC h
    have hready : ∀ i, i ∈ Region.ready .any l.toArray listed ↔ (i < l.length ∧ listed.getD i true = false) ∧ ∀ k, direct l i k = true → listed.getD k false = true := by
      intro i
      rw [mem_ready]
      constructor
      · rintro ⟨h0, o, ho, ha⟩
        have ho' : l[i]? = some o := by simpa using ho
        refine ⟨⟨(List.getElem?_eq_some_iff.1 ho').1, h0⟩, fun k hk => ?_⟩
        obtain ⟨e, he, hb, rfl⟩ := (direct_iff ho').1 hk
        exact ha e he hb
      · rintro ⟨⟨hlt, h0⟩, ha⟩
        have ho' : l[i]? = some l[i] := List.getElem?_eq_getElem hlt
        exact ⟨h0, l[i], by simp [hlt], fun e he hb => ha e.on ((direct_iff ho').2 ⟨e, he, hb, rfl⟩)⟩
    constructor
    · intro hr
      exfalso
      cases σ with
      | nil => simp at hn
      | cons y σ =>
        obtain ⟨κ, i⟩ := y
        have hi := (hun i).1 (by simp)
        have : i ∈ Region.ready .any l.toArray listed := (hready i).2 ⟨hi, fun k hk => by
          obtain ⟨hki, hil⟩ := edges_lt hed hk
          cases hkl : listed.getD k false with
          | true => rfl
          | false =>
            exfalso
            have hkt : listed.getD k true = false := by rw [getD_of_lt (by omega) true false]; exact hkl
            have hkin := (hun k).2 ⟨by omega, hkt⟩
            simp only [List.map_cons, List.mem_cons] at hkin
            rcases hkin with rfl | hkin
            · omega
            · obtain ⟨x, hx, rfl⟩ := List.mem_map.1 hkin
              have := (List.pairwise_cons.1 hpw).1 x hx
              simp only [pairOK, Bool.and_eq_true, Bool.not_eq_true'] at this
              rw [this.1] at hk
              cases hk⟩
        rw [hr] at this
        cases this
    · intro i hi
      obtain ⟨hiun, hidir⟩ := (hready i).1 hi
      obtain ⟨⟨κ, i'⟩, hin, hii⟩ := List.mem_map.1 ((hun i).2 hiun)
      simp only at hii
      subst hii
      obtain ⟨Y, ρ, rfl⟩ := List.append_of_mem hin
      have hYρ : ∀ y ∈ Y, apartAt l y.2 i' = true ∧ okKd y.1 κ = true := by
        intro y hy
        have hp := (List.pairwise_append.1 hpw).2.2 y hy (κ, i') (List.mem_cons_self ..)
        simp only [pairOK, Bool.and_eq_true, Bool.or_eq_true] at hp
        rcases hp.2 with hb | hb
        · have h1 := cert_listed hcert hdc i' hidir y.2 hb
          have h2 := ((hun y.2).1 (List.mem_map.2 ⟨y, List.mem_append_left _ hy, rfl⟩))
          rw [getD_of_lt (by omega) true false, h1] at h2
          cases h2.2
        · exact hb
      have hfr := RW.front hCa hsel Y f L G hYρ ⟨w, M, hC⟩ h
      have hsz' : (listed.setIfInBounds i' true).size = l.length := by simpa using hsz
      have hlen : (Y ++ ρ).length = n := by simp at hn ⊢; omega
      have hnd1 : (Y.map (·.2) ++ i' :: ρ.map (·.2)).Nodup := by simpa using hnd
      have hnd2 : ((Y ++ ρ).map (·.2)).Nodup := by
        rw [List.map_append]
        exact hnd1.sublist (List.Sublist.append_left (List.sublist_cons_self _ _) _)
      have hni : i' ∉ (Y ++ ρ).map (·.2) := by
        rw [List.map_append]
        have h3 := List.nodup_append.1 hnd1
        intro hm
        rcases List.mem_append.1 hm with hm | hm
        · exact h3.2.2 i' hm i' (List.mem_cons_self ..) rfl
        · exact (List.nodup_cons.1 h3.2.1).1 hm
      have hun' : ∀ j, j ∈ (Y ++ ρ).map (·.2) ↔ j < l.length ∧ (listed.setIfInBounds i' true).getD j true = false := by
        intro j
        by_cases e : i' = j
        · subst e
          constructor
          · intro h; exact absurd h hni
          · rintro ⟨_, h⟩; rw [set_self (by omega)] at h; cases h
        · rw [getD_set_ne true e, ← hun j]
          simp only [List.map_append, List.map_cons, List.mem_append, List.mem_cons]
          constructor
          · rintro (h | h)
            · exact .inl h
            · exact .inr (.inr h)
          · rintro (h | h | h)
            · exact .inl h
            · exact absurd h.symm e
            · exact .inr h
      have hpw' : (Y ++ ρ).Pairwise (fun y x => pairOK l (befOf cert) y x = true) := hpw.sublist (List.Sublist.append_left (List.sublist_cons_self _ _) _)
      have hdc' : Dc l (listed.setIfInBounds i' true) := by
        intro a b ha hb
        by_cases e : i' = a
        · subst e; exact getD_set_true (hidir b hb)
        · rw [getD_set_ne false e] at ha
          exact getD_set_true (hdc a b ha hb)
      have next : ∀ f w L G, St ks S0 w0 w L G → Cq w → RW P N l ks S0 w0 Cq Qf (Y ++ ρ) f L G → wpAny P .any l.toArray Q n (listed.setIfInBounds i' true) (Fr N f) w :=
        fun f w L G M hC h => ih (Y ++ ρ) _ f w L G hlen hsz' hun' hnd2 hpw' hdc' M hC h
      obtain ⟨o, ho, hst⟩ := hfr
      unfold wpOp
      have ho' : l.toArray[i']? = some o := by simpa using ho
      rw [ho']
      rcases hst with ⟨hw, hst⟩ | ⟨hw, hst⟩
      · have hw' : Region.wanted o (yielded l.toArray (Fr N f).tmps) = false := hw
        simp only [hw', Bool.false_eq_true, if_false]
        rw [put_updO]
        exact next _ _ _ _ M hC hst
      · have hw' : Region.wanted o (yielded l.toArray (Fr N f).tmps) = true := hw
        simp only [hw', if_true]
        refine .inl ?_
        cases κ with
        | q =>
          obtain ⟨v, hv, hst⟩ := hst
          unfold Oper.wp
          rw [eval_Fr, hv w hC]
          simp only [Oper.upon, put_updO]
          exact next _ _ _ _ M hC hst
        | fl =>
          obtain ⟨obj, mk, hv, hst⟩ := hst
          unfold Oper.wp
          rw [eval_Fr, hv w]
          simp only [Oper.upon, put_updO]
          exact next _ _ _ _ (M.alloc obj) (hCa _ _ hC) (hst _ ⟨_, M.alloc obj, hCa _ _ hC⟩)
        | ch =>
          obtain ⟨Gh, p, L', G', hv, _, hst⟩ := hst
          refine (hv w [] (by simpa using M) hC).wp fun v w' ⟨hC', g, hp, M'⟩ => ?_
          have M'' : St ks S0 w0 w' (L' v g) (G' v g) := by simpa using M'
          exact next _ _ _ _ M'' hC' (hst v g hp ⟨w', M'', hC'⟩)
        | rd =>
          obtain ⟨v, hv, hst⟩ := hst
          unfold Oper.wp
          rw [eval_Fr, hv w (fun F hF => (M.facts F hF).now)]
          simp only [Oper.upon, put_updO]
          exact next _ _ _ _ M hC hst

/-- THE RULE. -/
theorem c_draw {id : Nat} {Q : Exit → Act → World → Prop} {f : Nat → Value} {w : World} {L : List Seg} {G : List (World → Prop)} (hm : P.follows .mixedOrders = true) (σ : List (Kd × Nat)) (cert : List (List Nat)) (hσ : okOrder l σ cert = true)
    (Cq : World → Prop) (hCa : ∀ w o, Cq w → Cq (w.alloc o)) (M : St ks S0 w0 w L G) (hC : Cq w.drew) (h : RW P N l ks S0 w0 Cq (fun f w => Q .normal (Fr N f) w) σ f L G) :
    (Code.region id l.toArray true).wp P Q (Fr N f) w := by
  simp only [okOrder, Bool.and_eq_true, beq_iff_eq, decide_eq_true_eq] at hσ
  obtain ⟨⟨⟨⟨⟨⟨⟨hsel, hed⟩, hcert⟩, hlen⟩, hall⟩, hlt⟩, hnd⟩, hpw⟩ := hσ
  refine wp_region_any hm ?_
  have hsub : ∀ i, i ∈ σ.map (·.2) ↔ i < l.length := by
    have h1 : ∀ i, i < l.length → i ∈ σ.map (·.2) := fun i hi => by
      have := List.all_eq_true.1 hall i (List.mem_range.2 hi)
      simpa using this
    intro i
    refine ⟨fun hi => ?_, h1 i⟩
    obtain ⟨p, hp, rfl⟩ := List.mem_map.1 hi
    exact of_decide_eq_true (List.all_eq_true.1 hlt p hp)
  refine rw_sound (Qf := fun f w => Q .normal (Fr N f) w) (fun _ _ h => h) hCa hsel hed hcert l.toArray.size σ (Array.replicate l.toArray.size false) f w.drew L G (by simpa using hlen) (by simp) ?_ hnd hpw ?_ M.drew hC h
  · intro i
    rw [hsub]
    constructor
    · intro h; exact ⟨h, by simp [h]⟩
    · exact fun h => h.1
  · intro i j hi
    exfalso
    rw [Array.getD_eq_getD_getElem?, Array.getElem?_replicate] at hi
    split at hi <;> cases hi
end
end Go.Az
