/-
  FRAMEWORK 9: regions that draw, and end in operations that all others stand ahead of.
-/
import Derived.Test.YtcjnniigonaapaaF8
namespace Go.Az
open Go
section
variable {P : Program} {N : Nat} {l : List Oper} {ks S0 : List Nat} {w0 : World} {Cq : World → Prop} {Qf : (Nat → Value) → World → Prop}
theorem ready_iff {listed : Array Bool} {i : Nat} : i ∈ Region.ready .any l.toArray listed ↔ (i < l.length ∧ listed.getD i true = false) ∧ ∀ k, direct l i k = true → listed.getD k false = true := by
  rw [mem_ready]
  constructor
  · rintro ⟨h0, o, ho, ha⟩
    have ho' : l[i]? = some o := by simpa using ho
    refine ⟨⟨(List.getElem?_eq_some_iff.1 ho').1, h0⟩, fun k hk => ?_⟩
    obtain ⟨e, he, hb, rfl⟩ := (direct_iff ho').1 hk
    exact ha e he hb
  · rintro ⟨⟨hlt, h0⟩, ha⟩
    have ho' : l[i]? = some l[i] := List.getElem?_eq_getElem hlt
    exact ⟨h0, l[i], by simp [hlt], fun e he hb => ha e.on ((direct_iff ho').2 ⟨e, he, hb, rfl⟩)⟩
def tailOK (l : List Oper) (cert : List (List Nat)) (a t : Nat) : Bool := !direct l a t && befOf cert t a
theorem tail_sound {Q : Exit → Act → World → Prop} (hed : edgesOK l = true) {cert : List (List Nat)} (hcert : certOK l cert = true) :
    ∀ (T : List Nat) (listed : Array Bool) (a : Act) (w : World), listed.size = l.length → (∀ i, i ∈ T ↔ i < l.length ∧ listed.getD i true = false) → T.Nodup → T.Pairwise (fun a b => tailOK l cert a b = true) → Dc l listed →
      wpOps P l.toArray Q T a w → wpAny P .any l.toArray Q T.length listed a w := by
  intro T
  induction T with
  | nil =>
    intro listed a w _ hun _ _ _ h
    refine ⟨?_, h⟩
    cases hr : Region.ready .any l.toArray listed with
    | nil => rfl
    | cons j r =>
      have hj : j ∈ Region.ready .any l.toArray listed := by rw [hr]; exact List.mem_cons_self ..
      exact absurd ((hun j).2 (ready_iff.1 hj).1) (by simp)
  | cons t T ih =>
    intro listed a w hsz hun hnd hpw hdc h
    have ht := (hun t).1 (List.mem_cons_self ..)
    have hpt := List.pairwise_cons.1 hpw
    refine ⟨fun hr => ?_, fun i hi => ?_⟩
    · exfalso
      have : t ∈ Region.ready .any l.toArray listed := ready_iff.2 ⟨ht, fun k hk => by
        obtain ⟨hki, hil⟩ := edges_lt hed hk
        cases hkl : listed.getD k false with
        | true => rfl
        | false =>
          exfalso
          have hkt : listed.getD k true = false := by rw [getD_of_lt (by omega) true false]; exact hkl
          rcases List.mem_cons.1 ((hun k).2 ⟨by omega, hkt⟩) with rfl | hkT
          · omega
          · have := hpt.1 k hkT
            simp only [tailOK, Bool.and_eq_true, Bool.not_eq_true'] at this
            rw [this.1] at hk
            cases hk⟩
      rw [hr] at this
      cases this
    · obtain ⟨hiun, hidir⟩ := ready_iff.1 hi
      have hit : i = t := by
        rcases List.mem_cons.1 ((hun i).2 hiun) with e | hiT
        · exact e
        · exfalso
          have := hpt.1 i hiT
          simp only [tailOK, Bool.and_eq_true] at this
          have h1 := cert_listed hcert hdc i hidir t this.2
          rw [getD_of_lt (by omega) true false, h1] at ht
          cases ht.2
      subst hit
      have hdc' : Dc l (listed.setIfInBounds i true) := by
        intro a b ha hb
        by_cases e : i = a
        · subst e; exact getD_set_true (hidir b hb)
        · rw [getD_set_ne false e] at ha
          exact getD_set_true (hdc a b ha hb)
      have hun' : ∀ j, j ∈ T ↔ j < l.length ∧ (listed.setIfInBounds i true).getD j true = false := by
        intro j
        by_cases e : i = j
        · subst e
          constructor
          · intro h; exact absurd h (List.nodup_cons.1 hnd).1
          · rintro ⟨_, h⟩; rw [set_self (by omega)] at h; cases h
        · rw [getD_set_ne true e, ← hun j]
          constructor
          · exact fun h => List.mem_cons_of_mem _ h
          · intro h
            rcases List.mem_cons.1 h with h | h
            · exact absurd h.symm e
            · exact h
      have h' : wpOp P l.toArray Q i (wpOps P l.toArray Q T) a w := h
      exact wpOp_mono (fun a w h => ih _ a w (by simpa using hsz) hun' (List.nodup_cons.1 hnd).2 hpt.2 hdc' h) h'
theorem rw_soundT {T : List Nat} {Q : Exit → Act → World → Prop} (hQ : ∀ f w, Qf f w → wpOps P l.toArray Q T (Fr N f) w) (hCa : ∀ w o, Cq w → Cq (w.alloc o)) (hsel : Region.noSelect l.toArray = true) (hed : edgesOK l = true) {cert : List (List Nat)} (hcert : certOK l cert = true)
    (hTT : T.Pairwise (fun a b => tailOK l cert a b = true)) (hTn : T.Nodup) :
    ∀ (n : Nat) (σ : List (Kd × Nat)) (listed : Array Bool) (f : Nat → Value) (w : World) (L : List Seg) (G : List (World → Prop)), σ.length = n → listed.size = l.length →
      (∀ i, (i ∈ σ.map (·.2) ∨ i ∈ T) ↔ i < l.length ∧ listed.getD i true = false) → (∀ y ∈ σ, ∀ t ∈ T, y.2 ≠ t ∧ tailOK l cert y.2 t = true) → (σ.map (·.2)).Nodup → σ.Pairwise (fun y x => pairOK l (befOf cert) y x = true) → Dc l listed →
      St ks S0 w0 w L G → Cq w → RW P N l ks S0 w0 Cq Qf σ f L G → wpAny P .any l.toArray Q (n + T.length) listed (Fr N f) w := by
  intro n
  induction n with
  | zero =>
    intro σ listed f w L G hn hsz hun _ hnd hpw hdc M hC h
    obtain rfl : σ = [] := List.eq_nil_of_length_eq_zero hn
    rw [Nat.zero_add]
    exact tail_sound hed hcert T listed _ w hsz (by simpa using hun) hTn hTT hdc (hQ _ _ (h w M hC))
  | succ n ih =>
    intro σ listed f w L G hn hsz hun hST hnd hpw hdc M hC h
    rw [show n + 1 + T.length = (n + T.length) + 1 by omega]
    have hready := fun i => ready_iff (l := l) (listed := listed) (i := i)
    constructor
    · intro hr
      exfalso
      cases σ with
      | nil => simp at hn
      | cons y σ =>
        obtain ⟨κ, i⟩ := y
        have hi := (hun i).1 (.inl (by simp))
        have : i ∈ Region.ready .any l.toArray listed := (hready i).2 ⟨hi, fun k hk => by
          obtain ⟨hki, hil⟩ := edges_lt hed hk
          cases hkl : listed.getD k false with
          | true => rfl
          | false =>
            exfalso
            have hkt : listed.getD k true = false := by rw [getD_of_lt (by omega) true false]; exact hkl
            have hkin := (hun k).2 ⟨by omega, hkt⟩
            simp only [List.map_cons, List.mem_cons] at hkin
            rcases hkin with (rfl | hkin) | hkin
            · omega
            rotate_left
            · have := (hST (κ, i) (List.mem_cons_self ..) k hkin).2
              simp only [tailOK, Bool.and_eq_true, Bool.not_eq_true'] at this
              rw [this.1] at hk
              cases hk
            · obtain ⟨x, hx, rfl⟩ := List.mem_map.1 hkin
              have := (List.pairwise_cons.1 hpw).1 x hx
              simp only [pairOK, Bool.and_eq_true, Bool.not_eq_true'] at this
              rw [this.1] at hk
              cases hk⟩
        rw [hr] at this
        cases this
    · intro i hi
      obtain ⟨hiun, hidir⟩ := (hready i).1 hi
      have hnT : i ∉ T := fun hiT => by
        cases σ with
        | nil => simp at hn
        | cons y σ =>
          have h1 := (hST y (List.mem_cons_self ..) i hiT).2
          simp only [tailOK, Bool.and_eq_true] at h1
          have h2 := cert_listed hcert hdc i hidir y.2 h1.2
          have h3 := (hun y.2).1 (.inl (List.mem_map.2 ⟨y, List.mem_cons_self .., rfl⟩))
          rw [getD_of_lt (by omega) true false, h2] at h3
          cases h3.2
      obtain ⟨⟨κ, i'⟩, hin, hii⟩ := List.mem_map.1 (((hun i).2 hiun).resolve_right hnT)
      simp only at hii
      subst hii
      obtain ⟨Y, ρ, rfl⟩ := List.append_of_mem hin
      have hYρ : ∀ y ∈ Y, apartAt l y.2 i' = true ∧ okKd y.1 κ = true := by
        intro y hy
        have hp := (List.pairwise_append.1 hpw).2.2 y hy (κ, i') (List.mem_cons_self ..)
        simp only [pairOK, Bool.and_eq_true, Bool.or_eq_true] at hp
        rcases hp.2 with hb | hb
        · have h1 := cert_listed hcert hdc i' hidir y.2 hb
          have h2 := ((hun y.2).1 (.inl (List.mem_map.2 ⟨y, List.mem_append_left _ hy, rfl⟩)))
          rw [getD_of_lt (by omega) true false, h1] at h2
          cases h2.2
        · exact hb
      have hfr := RW.front hCa hsel Y f L G hYρ ⟨w, M, hC⟩ h
      have hsz' : (listed.setIfInBounds i' true).size = l.length := by simpa using hsz
      have hlen : (Y ++ ρ).length = n := by simp at hn ⊢; omega
      have hnd1 : (Y.map (·.2) ++ i' :: ρ.map (·.2)).Nodup := by simpa using hnd
      have hnd2 : ((Y ++ ρ).map (·.2)).Nodup := by
        rw [List.map_append]
        exact hnd1.sublist (List.Sublist.append_left (List.sublist_cons_self _ _) _)
      have hni : i' ∉ (Y ++ ρ).map (·.2) := by
        rw [List.map_append]
        have h3 := List.nodup_append.1 hnd1
        intro hm
        rcases List.mem_append.1 hm with hm | hm
        · exact h3.2.2 i' hm i' (List.mem_cons_self ..) rfl
        · exact (List.nodup_cons.1 h3.2.1).1 hm
      have hun' : ∀ j, (j ∈ (Y ++ ρ).map (·.2) ∨ j ∈ T) ↔ j < l.length ∧ (listed.setIfInBounds i' true).getD j true = false := by
        intro j
        by_cases e : i' = j
        · subst e
          constructor
          · rintro (h | h)
            · exact absurd h hni
            · exact absurd h hnT
          · rintro ⟨_, h⟩; rw [set_self (by omega)] at h; cases h
        · rw [getD_set_ne true e, ← hun j]
          simp only [List.map_append, List.map_cons, List.mem_append, List.mem_cons]
          constructor
          · rintro ((h | h) | h)
            · exact .inl (.inl h)
            · exact .inl (.inr (.inr h))
            · exact .inr h
          · rintro ((h | h | h) | h)
            · exact .inl (.inl h)
            · exact absurd h.symm e
            · exact .inl (.inr h)
            · exact .inr h
      have hpw' : (Y ++ ρ).Pairwise (fun y x => pairOK l (befOf cert) y x = true) := hpw.sublist (List.Sublist.append_left (List.sublist_cons_self _ _) _)
      have hdc' : Dc l (listed.setIfInBounds i' true) := by
        intro a b ha hb
        by_cases e : i' = a
        · subst e; exact getD_set_true (hidir b hb)
        · rw [getD_set_ne false e] at ha
          exact getD_set_true (hdc a b ha hb)
      have hST' : ∀ y ∈ Y ++ ρ, ∀ t ∈ T, y.2 ≠ t ∧ tailOK l cert y.2 t = true := fun y hy t ht => hST y (by
        rcases List.mem_append.1 hy with h | h
        · exact List.mem_append_left _ h
        · exact List.mem_append_right _ (List.mem_cons_of_mem _ h)) t ht
      have next : ∀ f w L G, St ks S0 w0 w L G → Cq w → RW P N l ks S0 w0 Cq Qf (Y ++ ρ) f L G → wpAny P .any l.toArray Q (n + T.length) (listed.setIfInBounds i' true) (Fr N f) w :=
        fun f w L G M hC h => ih (Y ++ ρ) _ f w L G hlen hsz' hun' hST' hnd2 hpw' hdc' M hC h
      obtain ⟨o, ho, hst⟩ := hfr
      unfold wpOp
      have ho' : l.toArray[i']? = some o := by simpa using ho
      rw [ho']
      rcases hst with ⟨hw, hst⟩ | ⟨hw, hst⟩
      · have hw' : Region.wanted o (yielded l.toArray (Fr N f).tmps) = false := hw
        simp only [hw', Bool.false_eq_true, if_false]
        rw [put_updO]
        exact next _ _ _ _ M hC hst
      · have hw' : Region.wanted o (yielded l.toArray (Fr N f).tmps) = true := hw
        simp only [hw', if_true]
        refine .inl ?_
        cases κ with
        | q =>
          obtain ⟨v, hv, hst⟩ := hst
          unfold Oper.wp
          rw [eval_Fr, hv w hC]
          simp only [Oper.upon, put_updO]
          exact next _ _ _ _ M hC hst
        | fl =>
          obtain ⟨obj, mk, hv, hst⟩ := hst
          unfold Oper.wp
          rw [eval_Fr, hv w]
          simp only [Oper.upon, put_updO]
          exact next _ _ _ _ (M.alloc obj) (hCa _ _ hC) (hst _ ⟨_, M.alloc obj, hCa _ _ hC⟩)
        | ch =>
          obtain ⟨Gh, p, L', G', hv, _, hst⟩ := hst
          refine (hv w [] (by simpa using M) hC).wp fun v w' ⟨hC', g, hp, M'⟩ => ?_
          have M'' : St ks S0 w0 w' (L' v g) (G' v g) := by simpa using M'
          exact next _ _ _ _ M'' hC' (hst v g hp ⟨w', M'', hC'⟩)
        | rd =>
          obtain ⟨v, hv, hst⟩ := hst
          unfold Oper.wp
          rw [eval_Fr, hv w (fun F hF => (M.facts F hF).now)]
          simp only [Oper.upon, put_updO]
          exact next _ _ _ _ M hC hst

def okOrderT (l : List Oper) (σ : List (Kd × Nat)) (T : List Nat) (cert : List (List Nat)) : Bool :=
  Region.noSelect l.toArray && edgesOK l && certOK l cert && (σ.length + T.length == l.length) && ((List.range l.length).all fun i => (σ.map (·.2)).contains i || T.contains i) && (σ.all fun p => decide (p.2 < l.length)) && (T.all fun p => decide (p < l.length)) && decide (σ.map (·.2)).Nodup && decide T.Nodup &&
  decide (σ.Pairwise fun y x => pairOK l (befOf cert) y x = true) && decide (T.Pairwise fun a b => tailOK l cert a b = true) && (σ.all fun y => T.all fun t => y.2 != t && tailOK l cert y.2 t)
theorem wpOps_lits {Q : Exit → Act → World → Prop} : ∀ (T : List Nat) (tl : List Oper), T.map (l[·]?) = tl.map some → ∀ a w, wpList P l.toArray Q tl a w → wpOps P l.toArray Q T a w
  | [], [], _, _, _, h => h
  | [], _ :: _, h, _, _, _ => by simp at h
  | _ :: _, [], h, _, _, _ => by simp at h
  | t :: T, o :: tl, h, a, w, hh => by
    simp only [List.map_cons, List.cons.injEq] at h
    have ho : l.toArray[t]? = some o := by simpa using h.1
    have ih := wpOps_lits (Q := Q) T tl h.2
    simp only [wpOps, ho]
    simp only [wpList] at hh
    split
    · rename_i hw; rw [if_pos hw] at hh; exact hh.imp (Oper.wp_mono ih) id
    · rename_i hw; rw [if_neg hw] at hh; exact ih _ _ hh
def pickL (l : List Oper) : List Nat → List Oper
  | [] => []
  | t :: T => match l[t]? with
    | some o => o :: pickL l T
    | none => pickL l T
theorem pickL_map : ∀ (T : List Nat), (∀ t ∈ T, t < l.length) → T.map (l[·]?) = (pickL l T).map some
  | [], _ => rfl
  | t :: T, h => by
    have hlt := h t (List.mem_cons_self ..)
    have ht : l[t]? = some l[t] := List.getElem?_eq_getElem hlt
    simp only [List.map_cons, pickL, ht, pickL_map T (fun x hx => h x (List.mem_cons_of_mem _ hx))]
theorem c_drawT {id : Nat} {Q : Exit → Act → World → Prop} {f : Nat → Value} {w : World} {L : List Seg} {G : List (World → Prop)} (hm : P.follows .mixedOrders = true) (σ : List (Kd × Nat)) (T : List Nat) (cert : List (List Nat)) (hσ : okOrderT l σ T cert = true)
    (kk : List Nat) (M : St ks S0 w0 w L G) (h : RW P N l ks S0 w0 (Cst ks S0 w0 (strike kk L) G) (fun f w => wpList P l.toArray Q (pickL l T) (Fr N f) w) σ f L G) :
    (Code.region id l.toArray true).wp P Q (Fr N f) w := by
  simp only [okOrderT, Bool.and_eq_true, beq_iff_eq, decide_eq_true_eq] at hσ
  obtain ⟨⟨⟨⟨⟨⟨⟨⟨⟨⟨⟨hsel, hed⟩, hcert⟩, hlen⟩, hall⟩, hlt⟩, hltT⟩, hnd⟩, hndT⟩, hpw⟩, hpwT⟩, hST⟩ := hσ
  refine wp_region_any hm ?_
  have hun : ∀ i, (i ∈ σ.map (·.2) ∨ i ∈ T) ↔ i < l.length := by
    intro i
    constructor
    · rintro (hi | hi)
      · obtain ⟨p, hp, rfl⟩ := List.mem_map.1 hi
        exact of_decide_eq_true (List.all_eq_true.1 hlt p hp)
      · exact of_decide_eq_true (List.all_eq_true.1 hltT i hi)
    · intro hi
      have := List.all_eq_true.1 hall i (List.mem_range.2 hi)
      simpa using this
  have key := rw_soundT (T := T) (Q := Q) (Qf := fun f w => wpList P l.toArray Q (pickL l T) (Fr N f) w) (fun f w h => wpOps_lits T _ (pickL_map T fun t ht => of_decide_eq_true (List.all_eq_true.1 hltT t ht)) _ _ h) (fun _ o (h : Cst ks S0 w0 (strike kk L) G _) => h.alloc o) hsel hed hcert hpwT hndT σ.length σ (Array.replicate l.toArray.size false) f w.drew L G rfl (by simp)
    (fun i => by
      rw [hun i]
      constructor
      · intro h; exact ⟨h, by simp [h]⟩
      · exact fun h => h.1)
    (fun y hy t ht => by
      have := List.all_eq_true.1 (List.all_eq_true.1 hST y hy) t ht
      simpa using this) hnd hpw (fun i j hi => by
      exfalso
      rw [Array.getD_eq_getD_getElem?, Array.getElem?_replicate] at hi
      split at hi <;> cases hi) M.drew (Cst.of (X := []) (by simpa using M.drew) (subL_strike kk L) (fun _ h => h)) h
  rw [hlen] at key
  simpa using key
end

/-! ### what is written, cell by cell, and written out -/
def setAt : List Value → Nat → List Value → List Value
  | [], _, _ => []
  | c :: cs, 0, [] => c :: cs
  | _ :: cs, 0, v :: vs => v :: setAt cs 0 vs
  | c :: cs, o + 1, vs => c :: setAt cs o vs
theorem setAt_spl : ∀ (cs : List Value) (o : Nat) (vs : List Value), o + vs.length ≤ cs.length → spl cs o vs = setAt cs o vs
  | [], o, vs, h => by
    have h1 : vs = [] := by simp at h; exact h.2
    subst h1; simp [spl, setAt]
  | c :: cs, 0, [], _ => by simp [spl, setAt]
  | c :: cs, 0, v :: vs, h => by
    have ih := setAt_spl cs 0 vs (by simp at h ⊢; omega)
    simp only [setAt, ← ih]
    simp [spl]
  | c :: cs, o + 1, vs, h => by
    have ih := setAt_spl cs o vs (by simp at h ⊢; omega)
    simp only [setAt, ← ih]
    have : o + 1 + vs.length = o + vs.length + 1 := by omega
    simp [spl, this]
def fillS : List Value → List (Nat × List Value) → List Value
  | cs, [] => cs
  | cs, (o, vs) :: r => fillS (setAt cs o vs) r
theorem setAt_length (cs : List Value) (o : Nat) (vs : List Value) (h : o + vs.length ≤ cs.length) : (setAt cs o vs).length = cs.length := by
  rw [← setAt_spl cs o vs h, spl_length h]
theorem fillS_fillL {pl : Nat → Option (Nat × Nat)} : ∀ (ps : List (Nat × Value)) (qs : List (Nat × List Value)) (cs : List Value), Parts pl cs.length ps qs → fillL cs qs = fillS cs qs
  | [], [], _, _ => rfl
  | (k, v) :: ps, (o, vs) :: qs, cs, h => by
    obtain ⟨_, _, h3, h4⟩ := h
    have hle : o + vs.length ≤ cs.length := Nat.le_of_ble_eq_true h3
    simp only [fillL, fillS]
    rw [setAt_spl cs o vs hle]
    exact fillS_fillL ps qs _ (by rw [setAt_length _ _ _ hle]; exact h4)
  | [], _ :: _, _, h => h.elim
  | _ :: _, [], _, h => h.elim
section
variable {P : Program} {N : Nat} {f : Nat → Value} {w : World} {d : Option Nat} {ty : TypeId} {pos : String} {af : Array Edge} {gd : Option (Nat × Bool)}
theorem r_buildS {t : TypeId} {z : Value} {zc cs : List Value} {parts : List (Nat × Operand)} {ps : List (Nat × Value)} {qs : List (Nat × List Value)} {pls : List (Nat × Nat)} (hz : Zr P t z) (hzc : cellsOf z = zc) (hpl : Pl P t pls)
    (hps : parts.map (fun x => (x.1, ev N f x.2)) = ps) (hp : Parts (fun i => pls[i]?) zc.length ps qs) (hc : fillS zc qs = cs) :
    (execOp (ev N f) ⟨d, .build t parts.toArray, ty, pos, af, gd⟩).run P w = .ok (.value (.agg cs.toArray)) w := by
  rw [r_build hz hzc hpl hps hp, fillS_fillL ps qs zc hp, hc]
theorem r_buildAS {t E len n : Nat} {z : Value} {zc cs : List Value} {parts : List (Nat × Operand)} {ps : List (Nat × Value)} {qs : List (Nat × List Value)} (hz : Zr P t z) (hzc : cellsOf z = zc) (hu : P.underlying t = some (.array len E)) (hs : Sz P E n)
    (hps : parts.map (fun x => (x.1, ev N f x.2)) = ps) (hp : Parts (fun i => some (i * n, n)) zc.length ps qs) (hc : fillS zc qs = cs) :
    (execOp (ev N f) ⟨d, .build t parts.toArray, ty, pos, af, gd⟩).run P w = .ok (.value (.agg cs.toArray)) w := by
  rw [r_buildA hz hzc hu hs hps hp, fillS_fillL ps qs zc hp, hc]
end
section
variable {ks S0 : List Nat} {w0 w : World} {L : List Seg} {G : List (World → Prop)}
variable {P : Program} {N : Nat} {f : Nat → Value} {ty : TypeId} {pos : String} {af : Array Edge} {Q : Exit → Act → World → Prop} {ops : Array Oper} {rest : List Oper}
theorem a_storeS {T U : TypeId} {x y : Operand} {n k j b o : Nat} {s : Seg} {cs vs cs' : List Value} {v : Value} (hs : Sz P T n) (M : St ks S0 w0 w L G)
    (hx : ev N f x = .pointer (some ⟨b, o, none⟩)) (hy : ev N f y = v) (hc : cellsOf v = vs) (hk : L[k]? = some s) (hj : s[j]? = some (b, C cs U)) (hn : vs.length = n) (h1 : oneAll vs = true) (hf : Nat.ble (o + vs.length) cs.length = true) (hcs : setAt cs o vs = cs')
    (h : ∀ w', St ks S0 w0 w' (L.set k (s.set j (b, C cs' U))) G → wpList P ops Q rest (Fr N f) w') :
    wpList P ops Q (⟨none, .store T x y, ty, pos, af, none⟩ :: rest) (Fr N f) w :=
  a_store hs M hx hy hc hk hj hn h1 hf (fun w' M' => h w' (by rw [← hcs, ← setAt_spl cs o vs (Nat.le_of_ble_eq_true hf)]; exact M'))
theorem a_buildSliceS {d T E n len : Nat} {z : Value} {zc cs : List Value} {parts : List (Nat × Operand)} {ps : List (Nat × Value)} {qs : List (Nat × List Value)} (hu : P.underlying T = some (.slice E)) (hs : Sz P E n) (hz : Zr P E z) (hzc : cellsOf z = zc) (hn : zc.length = n) (h0 : 0 < n)
    (hle : Nat.ble (len * n) 16777216 = true) (hps : parts.map (fun x => (x.1, ev N f x.2)) = ps) (hp : Parts (fun i => some (i * n, n)) (zeros zc len).length ps qs) (hc : fillS (zeros zc len) qs = cs) (M : St ks S0 w0 w L G)
    (h : ∀ b w', St ks S0 w0 w' (L ++ [[(b, C cs E)]]) G → wpList P ops Q rest (Fr N (upd f d (.slice (some ⟨b, 0, none⟩) len len))) w') :
    wpList P ops Q (⟨some d, .buildSlice T len parts.toArray, ty, pos, af, none⟩ :: rest) (Fr N f) w :=
  a_buildSlice hu hs hz hzc hn h0 hle hps hp M (fun b w' M' => h b w' (by rw [← hc, ← fillS_fillL ps qs _ hp]; exact M'))
end
section
variable {P : Program} {N : Nat} {l : List Oper} {ks S0 : List Nat} {w0 : World} {Lq : List Seg} {Gq : List (World → Prop)} {Qf : (Nat → Value) → World → Prop}
variable {σ : List (Kd × Nat)} {f : Nat → Value} {L : List Seg} {G : List (World → Prop)}
variable {i : Nat} {ty : TypeId} {pos : String} {af : Array Edge} {gd : Option (Nat × Bool)}
theorem w_buildSliceS {d T E n len : Nat} {z : Value} {zc cs : List Value} {parts : List (Nat × Operand)} {ps : List (Nat × Value)} {qs : List (Nat × List Value)} (ho : l[i]? = some ⟨some d, .buildSlice T len parts.toArray, ty, pos, af, gd⟩) (hw : Wt N l f ⟨some d, .buildSlice T len parts.toArray, ty, pos, af, gd⟩ = true)
    (hu : P.underlying T = some (.slice E)) (hs : Sz P E n) (hz : Zr P E z) (hzc : cellsOf z = zc) (hn : zc.length = n) (h0 : 0 < n)
    (hle : Nat.ble (len * n) 16777216 = true) (hps : parts.map (fun x => (x.1, ev N f x.2)) = ps) (hp : Parts (fun i => some (i * n, n)) (zeros zc len).length ps qs) (hc : fillS (zeros zc len) qs = cs)
    (h : ∀ b, RW P N l ks S0 w0 (Cst ks S0 w0 Lq Gq) Qf σ (upd f d (.slice (some ⟨b, 0, none⟩) len len)) (L ++ [[(b, C cs E)]]) G) : RW P N l ks S0 w0 (Cst ks S0 w0 Lq Gq) Qf ((.fl, i) :: σ) f L G :=
  w_buildSlice ho hw hu hs hz hzc hn h0 hle hps hp (fun b => by rw [fillS_fillL ps qs _ hp, hc]; exact h b)
theorem w_storeS {T U : TypeId} {x y : Operand} {n k j b o : Nat} {s : Seg} {cs vs cs' : List Value} {v : Value} (ho : l[i]? = some ⟨none, .store T x y, ty, pos, af, gd⟩) (hw : Wt N l f ⟨none, .store T x y, ty, pos, af, gd⟩ = true) (hs : Sz P T n)
    (hx : ev N f x = .pointer (some ⟨b, o, none⟩)) (hy : ev N f y = v) (hc : cellsOf v = vs) (hk : L[k]? = some s) (hj : s[j]? = some (b, C cs U)) (hn : vs.length = n) (h1 : oneAll vs = true) (hf : Nat.ble (o + vs.length) cs.length = true) (hcs : setAt cs o vs = cs')
    (hsub : SubL Lq (L.set k (s.set j (b, C cs' U)))) (hG : ∀ F ∈ Gq, F ∈ G)
    (h : RW P N l ks S0 w0 (Cst ks S0 w0 Lq Gq) Qf σ f (L.set k (s.set j (b, C cs' U))) G) : RW P N l ks S0 w0 (Cst ks S0 w0 Lq Gq) Qf ((.ch, i) :: σ) f L G := by
  have e := setAt_spl cs o vs (Nat.le_of_ble_eq_true hf)
  rw [hcs] at e
  exact w_store ho hw hs hx hy hc hk hj hn h1 hf (by rw [e]; exact hsub) hG (by rw [e]; exact h)
end
end Go.Az
