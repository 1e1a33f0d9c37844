/-
  FRAMEWORK 3: what is known of memory: blocks that are owned, facts that stay.
-/
import Derived.Test.YtcjnniigonaapaaF2
import Derived.Below
namespace Go.Az
open Go

abbrev Blk := Nat × Obj
abbrev Seg := List Blk
def keysOf (L : List Seg) : List Nat := L.flatten.map (·.1)
/-- a block of cells -/
def C (cs : List Value) (T : TypeId) : Obj := .cells cs.toArray T (0, 0)

structure Agree (S : List Nat) (w w' : World) : Prop where
  size : w.heap.size ≤ w'.heap.size
  blk : ∀ b, b < w.heap.size → b ∉ S → w'.heap[b]? = w.heap[b]?
structure Keep (S : List Nat) (w w' : World) : Prop where
  agree : Agree S w w'
  os : w'.os = w.os
  tape : w'.tape = w.tape
  output : w'.output = w.output

theorem Agree.refl (S : List Nat) (w : World) : Agree S w w := ⟨Nat.le_refl _, fun _ _ _ => rfl⟩
theorem Agree.trans {S : List Nat} {a b c : World} (h : Agree S a b) (k : Agree S b c) : Agree S a c :=
  ⟨Nat.le_trans h.size k.size, fun i hi hS => (k.blk i (Nat.lt_of_lt_of_le hi h.size) hS).trans (h.blk i hi hS)⟩
theorem Agree.mono {S S' : List Nat} {a b : World} (h : Agree S a b) (hs : ∀ x ∈ S, x ∈ S') : Agree S' a b := ⟨h.size, fun i hi hS => h.blk i hi fun e => hS (hs i e)⟩
theorem Keep.refl (S : List Nat) (w : World) : Keep S w w := ⟨.refl _ _, rfl, rfl, rfl⟩
theorem Keep.trans {S : List Nat} {a b c : World} (h : Keep S a b) (k : Keep S b c) : Keep S a c :=
  ⟨h.agree.trans k.agree, k.os.trans h.os, k.tape.trans h.tape, k.output.trans h.output⟩
theorem Keep.mono {S S' : List Nat} {a b : World} (h : Keep S a b) (hs : ∀ x ∈ S, x ∈ S') : Keep S' a b := ⟨h.agree.mono hs, h.os, h.tape, h.output⟩
theorem Keep.below {w w' : World} (h : Keep [] w w') : RowKit.Below w.heap.size w w' := ⟨h.os, h.tape, h.output, h.agree.size, fun k hk => h.agree.blk k hk (by simp)⟩
theorem Keep.of_below {w w' : World} (h : RowKit.Below w.heap.size w w') : Keep [] w w' := ⟨⟨h.size, fun b hb _ => h.block b hb⟩, h.os, h.tape, h.output⟩
theorem Agree.alloc (S : List Nat) (w : World) (o : Obj) : Agree S w (w.alloc o) := ⟨by simp, fun b hb _ => RowKit.Below.heap_alloc w o b hb⟩
theorem Keep.alloc (S : List Nat) (w : World) (o : Obj) : Keep S w (w.alloc o) := ⟨.alloc S w o, rfl, rfl, rfl⟩
theorem Keep.drew (S : List Nat) (w : World) : Keep S w w.drew := ⟨⟨Nat.le_refl _, fun _ _ _ => rfl⟩, rfl, rfl, rfl⟩

/-- block b holds another object now -/
def setBlk (w : World) (b : Nat) (o : Obj) : World := { w with heap := w.heap.setIfInBounds b o }
theorem setBlk_heap (w : World) (b : Nat) (o : Obj) (i : Nat) : (setBlk w b o).heap[i]? = if b = i ∧ b < w.heap.size then some o else w.heap[i]? := by
  simp only [setBlk, Array.getElem?_setIfInBounds]
  by_cases e : b = i
  · subst e
    by_cases h : b < w.heap.size
    · simp [h]
    · simp [h]
  · simp [e]
theorem setBlk_size (w : World) (b : Nat) (o : Obj) : (setBlk w b o).heap.size = w.heap.size := by simp [setBlk]
theorem Keep.setBlk (w : World) (b : Nat) (o : Obj) : Keep [b] w (setBlk w b o) :=
  ⟨⟨Nat.le_of_eq (setBlk_size w b o).symm, fun i hi hS => by rw [setBlk_heap, if_neg (by rintro ⟨rfl, _⟩; exact hS (by simp))]⟩, rfl, rfl, rfl⟩
theorem setRow_setBlk {w : World} {b : Nat} {cs : Array Value} {T : TypeId} (h : w.heap[b]? = some (.cells cs T (0, 0))) (vs : Array Value) : w.setRow b vs = setBlk w b (.cells vs T (0, 0)) := by
  have hlt : b < w.heap.size := (Array.getElem?_eq_some_iff.1 h).1
  simp only [World.setRow, setBlk, World.mk.injEq, and_true]
  apply Array.ext
  · simp
  · intro i h1 h2
    rw [Array.getElem_modify, Array.getElem_setIfInBounds (by simpa using h1)]
    by_cases e : b = i
    · subst e
      have : w.heap[b] = .cells cs T (0, 0) := by
        rw [Array.getElem?_eq_getElem hlt] at h; exact Option.some.inj h
      simp [this]
    · simp [e]

/-- F holds, whatever becomes of the blocks of S and of new ones. -/
def Stable (S : List Nat) (w : World) (F : World → Prop) : Prop := ∀ w', Agree S w w' → F w'
theorem Stable.now {S : List Nat} {w : World} {F : World → Prop} (h : Stable S w F) : F w := h w (.refl S w)
theorem Stable.mono {S S' : List Nat} {w : World} {F : World → Prop} (h : Stable S w F) (hs : ∀ x ∈ S', x ∈ S) : Stable S' w F := fun w' ha => h w' (ha.mono hs)
theorem Stable.next {S : List Nat} {w w' : World} {F : World → Prop} (h : Stable S w F) (ha : Agree S w w') : Stable S w' F := fun w'' hb => h w'' (ha.trans hb)
theorem Stable.imp {S : List Nat} {w : World} {F G : World → Prop} (h : Stable S w F) (hi : ∀ w', F w' → G w') : Stable S w G := fun w' ha => hi _ (h w' ha)
theorem Stable.and {S : List Nat} {w : World} {F G : World → Prop} (h : Stable S w F) (k : Stable S w G) : Stable S w fun w => F w ∧ G w := fun w' ha => ⟨h w' ha, k w' ha⟩
theorem Stable.pure {S : List Nat} {w : World} {p : Prop} (h : p) : Stable S w fun _ => p := fun _ _ => h

theorem keysOf_append (A B : List Seg) : keysOf (A ++ B) = keysOf A ++ keysOf B := by simp [keysOf]
theorem mem_keysOf {L : List Seg} {b : Nat} : b ∈ keysOf L ↔ ∃ o, (b, o) ∈ L.flatten := by
  unfold keysOf
  rw [List.mem_map]
  exact ⟨fun ⟨p, hp, e⟩ => ⟨p.2, by rw [← e]; exact hp⟩, fun ⟨o, h⟩ => ⟨(b, o), h, rfl⟩⟩
theorem keysOf_perm {A B : List Seg} (h : A.Perm B) : (keysOf A).Perm (keysOf B) := (h.flatten).map _

/-- What is known in the midst of a call: ks: blocks of those above, not to be touched; S0: the blocks that were handed in to be changed; L: what is owned; G: facts. -/
structure St (ks S0 : List Nat) (w0 w : World) (L : List Seg) (G : List (World → Prop)) : Prop where
  own : ∀ p ∈ L.flatten, w.heap[p.1]? = some p.2
  nodup : (keysOf L).Nodup
  apart : ∀ b ∈ ks, b ∉ keysOf L
  old : ∀ b ∈ ks, b < w0.heap.size
  lo : ∀ b ∈ keysOf L, b ∈ S0 ∨ w0.heap.size ≤ b
  keep : Keep S0 w0 w
  facts : ∀ F ∈ G, Stable (ks ++ keysOf L) w F

section
variable {ks S0 : List Nat} {w0 w w' : World} {L L' : List Seg} {G G' : List (World → Prop)}

theorem St.start (ks : List Nat) (w : World) (h : ∀ b ∈ ks, b < w.heap.size) (hG : ∀ F ∈ G, Stable ks w F) : St ks [] w w [] G :=
  ⟨by simp, by simp [keysOf], by simp [keysOf], h, by simp [keysOf], .refl _ _, fun F hF => (hG F hF).mono (by simp [keysOf])⟩
theorem St.nil (w : World) : St [] [] w w [] [] := .start [] w (by simp) (by simp)

theorem St.mem (M : St ks S0 w0 w L G) {k j : Nat} {s : Seg} {p : Blk} (hk : L[k]? = some s) (hj : s[j]? = some p) : w.heap[p.1]? = some p.2 :=
  M.own p (List.mem_flatten.2 ⟨s, List.mem_of_getElem? hk, List.mem_of_getElem? hj⟩)
theorem St.fact (M : St ks S0 w0 w L G) {j : Nat} {F : World → Prop} (h : G[j]? = some F) : F w := (M.facts F (List.mem_of_getElem? h)).now
theorem St.stable (M : St ks S0 w0 w L G) {j : Nat} {F : World → Prop} (h : G[j]? = some F) : Stable (ks ++ keysOf L) w F := M.facts F (List.mem_of_getElem? h)

/-- the same blocks in another order; fewer; fewer facts -/
theorem St.sub (M : St ks S0 w0 w L G) (hL : L'.flatten.Sublist L.flatten) (hG : ∀ F ∈ G', F ∈ G) : St ks S0 w0 w L' G' := by
  have hk : (keysOf L').Sublist (keysOf L) := hL.map _
  exact ⟨fun p hp => M.own p (hL.subset hp), M.nodup.sublist hk, fun b hb h => M.apart b hb (hk.subset h), M.old, fun b hb => M.lo b (hk.subset hb), M.keep,
    fun F hF => (M.facts F (hG F hF)).mono fun x hx => by
      rcases List.mem_append.1 hx with h | h
      · exact List.mem_append.2 (.inl h)
      · exact List.mem_append.2 (.inr (hk.subset h))⟩
theorem St.perm (M : St ks S0 w0 w L G) (hL : L'.Perm L) : St ks S0 w0 w L' G := by
  have hk := keysOf_perm hL
  exact ⟨fun p hp => M.own p (hL.flatten.subset hp), hk.nodup_iff.2 M.nodup, fun b hb h => M.apart b hb (hk.subset h), M.old, fun b hb => M.lo b (hk.subset hb), M.keep,
    fun F hF => (M.facts F hF).mono fun x hx => by
      rcases List.mem_append.1 hx with h | h
      · exact List.mem_append.2 (.inl h)
      · exact List.mem_append.2 (.inr (hk.subset h))⟩
theorem St.addFact (M : St ks S0 w0 w L G) {F : World → Prop} (h : Stable (ks ++ keysOf L) w F) : St ks S0 w0 w L (G ++ [F]) :=
  ⟨M.own, M.nodup, M.apart, M.old, M.lo, M.keep, fun F' hF => by
      rcases List.mem_append.1 hF with h1 | h1
      · exact M.facts F' h1
      · rw [List.mem_singleton.1 h1]; exact h⟩
theorem St.useG (M : St ks S0 w0 w L G) (hG : ∀ F ∈ G', F ∈ G) : St ks S0 w0 w L G' := M.sub (List.Sublist.refl _) hG

/-- nothing owned has turned, nothing old -/
theorem St.kept (M : St ks S0 w0 w L G) (K : Keep [] w w') : St ks S0 w0 w' L G := by
  have hlt : ∀ p ∈ L.flatten, p.1 < w.heap.size := fun p hp => (Array.getElem?_eq_some_iff.1 (M.own p hp)).1
  exact ⟨fun p hp => (K.agree.blk _ (hlt p hp) (by simp)).trans (M.own p hp), M.nodup, M.apart, M.old, M.lo, M.keep.trans (K.mono (by simp)), fun F hF => (M.facts F hF).next (K.agree.mono (by simp))⟩
theorem St.drew (M : St ks S0 w0 w L G) : St ks S0 w0 w.drew L G := M.kept (.drew [] w)
theorem St.alloc (M : St ks S0 w0 w L G) (o : Obj) : St ks S0 w0 (w.alloc o) (L ++ [[(w.heap.size, o)]]) G := by
  have M1 := M.kept (.alloc [] w o)
  have hlt : ∀ b ∈ keysOf L, b < w.heap.size := fun b hb => by
    obtain ⟨o, ho⟩ := mem_keysOf.1 hb
    exact (Array.getElem?_eq_some_iff.1 (M.own _ ho)).1
  have hk : keysOf (L ++ [[(w.heap.size, o)]]) = keysOf L ++ [w.heap.size] := by simp [keysOf]
  refine ⟨?_, ?_, ?_, M.old, ?_, M1.keep, ?_⟩
  · intro p hp
    rw [List.flatten_append] at hp
    rcases List.mem_append.1 hp with h | h
    · exact M1.own p h
    · simp at h; subst h; exact heap_alloc_new w o
  · rw [hk]
    exact List.nodup_append.2 ⟨M.nodup, by simp, fun a ha b hb => by
      simp at hb; have := hlt a ha; omega⟩
  · intro b hb h
    rw [hk] at h
    rcases List.mem_append.1 h with h | h
    · exact M.apart b hb h
    · simp at h
      have := M.old b hb
      have := M.keep.agree.size
      omega
  · intro b hb
    rw [hk] at hb
    rcases List.mem_append.1 hb with h | h
    · exact M.lo b h
    · simp at h; have := M.keep.agree.size; exact .inr (by omega)
  · intro F hF w' ha
    refine M.facts F hF w' ⟨Nat.le_trans (by simp) ha.size, fun b hb hS => ?_⟩
    rw [ha.blk b (by simp; omega) (by
      rw [hk]; intro h
      rcases List.mem_append.1 h with h | h
      · exact hS (List.mem_append.2 (.inl h))
      · rcases List.mem_append.1 h with h | h
        · exact hS (List.mem_append.2 (.inr h))
        · simp at h; omega)]
    exact RowKit.Below.heap_alloc w o b hb
/-- an owned block is written -/
theorem St.put (M : St ks S0 w0 w L G) {k j : Nat} {s : Seg} {b : Nat} {o : Obj} (hk : L[k]? = some s) (hj : s[j]? = some (b, o)) (o' : Obj) :
    St ks S0 w0 (setBlk w b o') (L.set k (s.set j (b, o'))) G := by
  obtain ⟨A, B, rfl, rfl⟩ : ∃ A B, L = A ++ s :: B ∧ k = A.length := by
    have hlt := (List.getElem?_eq_some_iff.1 hk).1
    refine ⟨L.take k, L.drop (k + 1), ?_, by simp; omega⟩
    rw [← (List.getElem?_eq_some_iff.1 hk).2, List.getElem_cons_drop, List.take_append_drop]
  obtain ⟨C, D, rfl, rfl⟩ : ∃ C D, s = C ++ (b, o) :: D ∧ j = C.length := by
    have hlt := (List.getElem?_eq_some_iff.1 hj).1
    refine ⟨s.take j, s.drop (j + 1), ?_, by simp; omega⟩
    rw [← (List.getElem?_eq_some_iff.1 hj).2, List.getElem_cons_drop, List.take_append_drop]
  have e1 : (A ++ (C ++ (b, o) :: D) :: B).set A.length ((C ++ (b, o) :: D).set C.length (b, o')) = A ++ (C ++ (b, o') :: D) :: B := by
    simp
  rw [e1]
  have hk1 : keysOf (A ++ (C ++ (b, o) :: D) :: B) = keysOf A ++ (C.map (·.1) ++ b :: (D.map (·.1) ++ keysOf B)) := by simp [keysOf]
  have hk2 : keysOf (A ++ (C ++ (b, o') :: D) :: B) = keysOf A ++ (C.map (·.1) ++ b :: (D.map (·.1) ++ keysOf B)) := by simp [keysOf]
  have hkk : keysOf (A ++ (C ++ (b, o') :: D) :: B) = keysOf (A ++ (C ++ (b, o) :: D) :: B) := by rw [hk1, hk2]
  have hb : w.heap[b]? = some o := M.own (b, o) (by simp)
  have hblt : b < w.heap.size := (Array.getElem?_eq_some_iff.1 hb).1
  have hbin : b ∈ keysOf (A ++ (C ++ (b, o) :: D) :: B) := by rw [hk1]; simp
  have K := Keep.setBlk w b o'
  refine ⟨?_, by rw [hkk]; exact M.nodup, by rw [hkk]; exact M.apart, M.old, by rw [hkk]; exact M.lo, ?_, ?_⟩
  · intro p hp
    have hnd := M.nodup
    rw [hk1] at hnd
    have hne : ∀ q, (q ∈ A.flatten ∨ q ∈ C ∨ q ∈ D ∨ q ∈ B.flatten) → q.1 ≠ b := by
      intro q hq e
      have h1 := List.nodup_append.1 hnd
      have h2 := List.nodup_append.1 h1.2.1
      have h3 := List.nodup_cons.1 h2.2.1
      rcases hq with hq | hq | hq | hq
      · exact h1.2.2 q.1 (mem_keysOf.2 ⟨q.2, hq⟩) b (by simp) e
      · exact h2.2.2 q.1 (List.mem_map.2 ⟨q, hq, rfl⟩) b (by simp) e
      · exact h3.1 (List.mem_append.2 (.inl (List.mem_map.2 ⟨q, hq, e⟩)))
      · exact h3.1 (List.mem_append.2 (.inr (e ▸ mem_keysOf.2 ⟨q.2, hq⟩)))
    have hp' : p = (b, o') ∨ (p ∈ A.flatten ∨ p ∈ C ∨ p ∈ D ∨ p ∈ B.flatten) := by
      simp at hp
      rcases hp with h | h | h | h | h
      · exact .inr (.inl (List.mem_flatten.2 h))
      · exact .inr (.inr (.inl h))
      · exact .inl h
      · exact .inr (.inr (.inr (.inl h)))
      · exact .inr (.inr (.inr (.inr (List.mem_flatten.2 h))))
    rcases hp' with rfl | hq
    · rw [setBlk_heap, if_pos ⟨rfl, hblt⟩]
    · rw [setBlk_heap, if_neg (by rintro ⟨e, _⟩; exact hne p hq e.symm)]
      refine M.own p ?_
      simp
      rcases hq with h | h | h | h
      · exact .inl (List.mem_flatten.1 h)
      · exact .inr (.inl h)
      · exact .inr (.inr (.inr (.inl h)))
      · exact .inr (.inr (.inr (.inr (List.mem_flatten.1 h))))
  · refine ⟨⟨Nat.le_trans M.keep.agree.size (Nat.le_of_eq (setBlk_size w b o').symm), fun i hi hS => ?_⟩, M.keep.os, M.keep.tape, M.keep.output⟩
    rw [setBlk_heap, if_neg (by
      rintro ⟨rfl, _⟩
      rcases M.lo b hbin with h | h
      · exact hS h
      · omega)]
    exact M.keep.agree.blk i hi hS
  · rw [hkk]
    exact fun F hF => (M.facts F hF).next (K.agree.mono fun x hx => by simp at hx; subst hx; exact List.mem_append.2 (.inr hbin))

/-- what is owned no longer written: a fact -/
theorem St.freeze {A B : List Seg} (M : St ks S0 w0 w L G) (hp : L.Perm (A ++ B)) : St ks S0 w0 w B (G ++ [fun w => ∀ p ∈ A.flatten, w.heap[p.1]? = some p.2]) := by
  have M1 := M.perm hp.symm
  have M2 : St ks S0 w0 w B G := M1.sub (by rw [List.flatten_append]; exact List.sublist_append_right _ _) (fun _ h => h)
  refine M2.addFact fun w' ha p hpA => ?_
  have hw := M1.own p (by rw [List.flatten_append]; exact List.mem_append.2 (.inl hpA))
  have hin : p.1 ∈ keysOf A := mem_keysOf.2 ⟨p.2, hpA⟩
  rw [ha.blk p.1 (Array.getElem?_eq_some_iff.1 hw).1 (fun h => ?_)]
  · exact hw
  · rcases List.mem_append.1 h with h | h
    · exact M1.apart _ h (by rw [keysOf_append]; exact List.mem_append.2 (.inl hin))
    · have hn := M1.nodup
      rw [keysOf_append] at hn
      exact (List.nodup_append.1 hn).2.2 _ hin _ h rfl

/-- FOR A CALL: what the callee is given: the blocks A. -/
theorem St.pre {A B : List Seg} (M : St ks S0 w0 w L G) (hp : L.Perm (A ++ B)) (hG : ∀ F ∈ G', F ∈ G) : St (ks ++ keysOf B) (keysOf A) w w A G' := by
  have M1 := M.perm hp.symm
  have hn := M1.nodup
  rw [keysOf_append] at hn
  have hd := List.nodup_append.1 hn
  have hlt : ∀ b ∈ keysOf (A ++ B), b < w.heap.size := fun b hb => by
    obtain ⟨o, ho⟩ := mem_keysOf.1 hb
    exact (Array.getElem?_eq_some_iff.1 (M1.own _ ho)).1
  refine ⟨fun p hp => M1.own p (by rw [List.flatten_append]; exact List.mem_append.2 (.inl hp)), hd.1, ?_, ?_, fun b hb => .inl hb, .refl _ _, ?_⟩
  · intro b hb h
    rcases List.mem_append.1 hb with h1 | h1
    · exact M1.apart b h1 (by rw [keysOf_append]; exact List.mem_append.2 (.inl h))
    · exact hd.2.2 b h b h1 rfl
  · intro b hb
    rcases List.mem_append.1 hb with h1 | h1
    · have := M.old b h1; have := M.keep.agree.size; omega
    · exact hlt b (by rw [keysOf_append]; exact List.mem_append.2 (.inr h1))
  · intro F hF
    refine (M1.facts F (hG F hF)).mono fun x hx => ?_
    rw [keysOf_append]
    simp only [List.mem_append] at hx ⊢
    rcases hx with (h | h) | h
    · exact .inl h
    · exact .inr (.inr h)
    · exact .inr (.inl h)
/-- .. and what it leaves -/
theorem St.post {A A' B : List Seg} (M : St ks S0 w0 w L G) (hp : L.Perm (A ++ B)) (M' : St (ks ++ keysOf B) (keysOf A) w w' A' G') : St ks S0 w0 w' (A' ++ B) (G ++ G') := by
  have M1 := M.perm hp.symm
  have hn := M1.nodup
  rw [keysOf_append] at hn
  have hd := List.nodup_append.1 hn
  have hlt : ∀ b ∈ keysOf (A ++ B), b < w.heap.size := fun b hb => by
    obtain ⟨o, ho⟩ := mem_keysOf.1 hb
    exact (Array.getElem?_eq_some_iff.1 (M1.own _ ho)).1
  have hsz := M.keep.agree.size
  refine ⟨?_, ?_, ?_, M.old, ?_, ?_, ?_⟩
  · intro p hp
    rw [List.flatten_append] at hp
    rcases List.mem_append.1 hp with h | h
    · exact M'.own p h
    · have hw := M1.own p (by rw [List.flatten_append]; exact List.mem_append.2 (.inr h))
      have hkB : p.1 ∈ keysOf B := mem_keysOf.2 ⟨p.2, h⟩
      rw [M'.keep.agree.blk p.1 (Array.getElem?_eq_some_iff.1 hw).1 (fun hA => hd.2.2 _ hA _ hkB rfl)]
      exact hw
  · rw [keysOf_append]
    exact List.nodup_append.2 ⟨M'.nodup, hd.2.1, fun a ha b hb e => M'.apart b (List.mem_append.2 (.inr hb)) (e ▸ ha)⟩
  · intro b hb h
    rw [keysOf_append] at h
    rcases List.mem_append.1 h with h | h
    · exact M'.apart b (List.mem_append.2 (.inl hb)) h
    · exact M1.apart b hb (by rw [keysOf_append]; exact List.mem_append.2 (.inr h))
  · intro b hb
    rw [keysOf_append] at hb
    rcases List.mem_append.1 hb with h | h
    · rcases M'.lo b h with h | h
      · exact M1.lo b (by rw [keysOf_append]; exact List.mem_append.2 (.inl h))
      · exact .inr (by omega)
    · exact M1.lo b (by rw [keysOf_append]; exact List.mem_append.2 (.inr h))
  · refine ⟨⟨Nat.le_trans hsz M'.keep.agree.size, fun b hb hS => ?_⟩, M'.keep.os.trans M.keep.os, M'.keep.tape.trans M.keep.tape, M'.keep.output.trans M.keep.output⟩
    rw [M'.keep.agree.blk b (by omega) (fun hA => by
      rcases M1.lo b (by rw [keysOf_append]; exact List.mem_append.2 (.inl hA)) with h | h
      · exact hS h
      · omega)]
    exact M.keep.agree.blk b hb hS
  · intro F hF w'' ha
    rw [keysOf_append] at ha
    rcases List.mem_append.1 hF with h | h
    · refine M1.facts F h w'' ⟨Nat.le_trans M'.keep.agree.size ha.size, fun b hb hS => ?_⟩
      rw [keysOf_append] at hS
      simp only [List.mem_append, not_or] at hS
      rw [ha.blk b (Nat.lt_of_lt_of_le hb M'.keep.agree.size) (by
        simp only [List.mem_append, not_or]
        refine ⟨hS.1, fun hA' => ?_, hS.2.2⟩
        rcases M'.lo b hA' with h | h
        · exact hS.2.1 h
        · omega)]
      exact M'.keep.agree.blk b hb hS.2.1
    · refine M'.facts F h w'' (ha.mono fun x hx => ?_)
      simp only [List.mem_append] at hx ⊢
      rcases hx with h | h | h
      · exact .inl (.inl h)
      · exact .inr h
      · exact .inl (.inr h)

/-- a call that is given nothing -/
theorem St.pre0 (M : St ks S0 w0 w L G) (hG : ∀ F ∈ G', F ∈ G) : St (ks ++ keysOf L) [] w w [] G' := by
  have := M.pre (A := []) (B := L) (by simp) hG
  simpa [keysOf] using this
theorem St.post0 {A' : List Seg} (M : St ks S0 w0 w L G) (M' : St (ks ++ keysOf L) [] w w' A' G') : St ks S0 w0 w' (L ++ A') (G ++ G') :=
  (M.post (A := []) (B := L) (by simp) (by simpa [keysOf] using M')).perm (List.perm_append_comm)
/-- a call that is given the segment k -/
theorem perm_at : ∀ {L : List Seg} {k : Nat} {s : Seg}, L[k]? = some s → L.Perm ([s] ++ L.eraseIdx k)
  | [], k, s, h => by simp at h
  | x :: L, 0, s, h => by simp at h; subst h; simp
  | x :: L, k + 1, s, h => by
    have h1 : L[k]? = some s := by simpa using h
    have h2 := (perm_at h1).cons x
    simp only [List.eraseIdx_cons_succ]
    exact h2.trans (List.Perm.swap _ _ _)
theorem perm_set {L : List Seg} {k : Nat} (s' : Seg) (h : k < L.length) : (L.set k s').Perm ([s'] ++ L.eraseIdx k) := by
  have h1 : (L.set k s')[k]? = some s' := by simp [h]
  have h2 := perm_at h1
  rwa [List.eraseIdx_set_eq] at h2
theorem St.pre1 (M : St ks S0 w0 w L G) {k : Nat} {s : Seg} (h : L[k]? = some s) (hG : ∀ F ∈ G', F ∈ G) : St (ks ++ keysOf (L.eraseIdx k)) (keysOf [s]) w w [s] G' := M.pre (perm_at h) hG
theorem St.post1 (M : St ks S0 w0 w L G) {k : Nat} {s s' : Seg} {A : List Seg} (h : L[k]? = some s) (M' : St (ks ++ keysOf (L.eraseIdx k)) (keysOf [s]) w w' (s' :: A) G') :
    St ks S0 w0 w' (L.set k s' ++ A) (G ++ G') :=
  (M.post (perm_at h) M').perm (by
    have hlt := (List.getElem?_eq_some_iff.1 h).1
    have h1 := (perm_set s' hlt).append_right A
    refine h1.trans ?_
    simp only [List.cons_append, List.nil_append]
    exact (List.perm_append_comm).cons _)

/-- a cell of an owned block -/
theorem St.cell (M : St ks S0 w0 w L G) {k j b o : Nat} {s : Seg} {cs : List Value} {T : TypeId} {v : Value} (hk : L[k]? = some s) (hj : s[j]? = some (b, C cs T)) (hv : cs[o]? = some v) : w.cell? ⟨b, o, none⟩ = some v := by
  have h := M.mem hk hj
  simp only [C] at h
  simp [World.cell?, h, hv]
theorem cell_of {b o : Nat} {cs : List Value} {T : TypeId} {v : Value} (h : w.heap[b]? = some (C cs T)) (hv : cs[o]? = some v) : w.cell? ⟨b, o, none⟩ = some v := by
  simp only [C] at h
  simp [World.cell?, h, hv]
theorem St.cells (M : St ks S0 w0 w L G) {k j b o n : Nat} {s : Seg} {cs vs : List Value} {T : TypeId} (hk : L[k]? = some s) (hj : s[j]? = some (b, C cs T)) (hv : (cs.drop o).take n = vs) :
    ∀ i v, vs[i]? = some v → w.cell? ⟨b, o + i, none⟩ = some v := by
  intro i v h
  subst hv
  refine M.cell hk hj (o := o + i) ?_
  rw [List.getElem?_take] at h
  split at h
  · rwa [List.getElem?_drop] at h
  · cases h
end

/-! ### Operations on owned blocks -/
section
variable {ks S0 : List Nat} {w0 w : World} {L : List Seg} {G : List (World → Prop)}
variable {P : Program} {N : Nat} {f : Nat → Value} {ty : TypeId} {pos : String} {af : Array Edge} {Q : Exit → Act → World → Prop} {ops : Array Oper} {rest : List Oper}

theorem a_alloc {d : Nat} {T : TypeId} {z : Value} {cs : List Value} (hz : Zr P T z) (hc : cellsOf z = cs) (M : St ks S0 w0 w L G)
    (h : ∀ b w', St ks S0 w0 w' (L ++ [[(b, C cs T)]]) G → wpList P ops Q rest (Fr N (upd f d (.pointer (some ⟨b, 0, none⟩)))) w') :
    wpList P ops Q (⟨some d, .alloc T, ty, pos, af, none⟩ :: rest) (Fr N f) w := by
  have e : z.cells = cs.toArray := by rw [← hc]; simp [cellsOf]
  refine s_val (r_alloc hz) (h _ _ ?_)
  rw [e]; exact M.alloc _
theorem a_box {d : Nat} {T : TypeId} {x : Operand} {v : Value} {cs : List Value} (hx : ev N f x = v) (hc : cellsOf v = cs) (M : St ks S0 w0 w L G)
    (h : ∀ b w', St ks S0 w0 w' (L ++ [[(b, C cs T)]]) G → wpList P ops Q rest (Fr N (upd f d (.pointer (some ⟨b, 0, none⟩)))) w') :
    wpList P ops Q (⟨some d, .box T x, ty, pos, af, none⟩ :: rest) (Fr N f) w := by
  have e : v.cells = cs.toArray := by rw [← hc]; simp [cellsOf]
  refine s_val (r_box hx) (h _ _ ?_)
  rw [e]; exact M.alloc _
theorem a_load1 {d : Nat} {T U : TypeId} {x : Operand} {D : TypeDesc} {k j b o : Nat} {s : Seg} {cs : List Value} {v : Value} (hu : P.underlying T = some D) (ha : isAggD D = false) (M : St ks S0 w0 w L G)
    (hx : ev N f x = .pointer (some ⟨b, o, none⟩)) (hk : L[k]? = some s) (hj : s[j]? = some (b, C cs U)) (hv : cs[o]? = some v) (h : wpList P ops Q rest (Fr N (upd f d v)) w) :
    wpList P ops Q (⟨some d, .load T x, ty, pos, af, none⟩ :: rest) (Fr N f) w :=
  s_val (r_load1 hu ha hx (M.cell hk hj hv)) h
theorem a_loadN {d : Nat} {T U : TypeId} {x : Operand} {D : TypeDesc} {k j b o n : Nat} {s : Seg} {cs vs : List Value} (hu : P.underlying T = some D) (ha : isAggD D = true) (hs : Sz P T n) (M : St ks S0 w0 w L G)
    (hx : ev N f x = .pointer (some ⟨b, o, none⟩)) (hk : L[k]? = some s) (hj : s[j]? = some (b, C cs U)) (hv : (cs.drop o).take n = vs) (hn : vs.length = n) (h : wpList P ops Q rest (Fr N (upd f d (.agg vs.toArray))) w) :
    wpList P ops Q (⟨some d, .load T x, ty, pos, af, none⟩ :: rest) (Fr N f) w :=
  s_val (r_loadN hu ha hs hx hn (M.cells hk hj hv)) h
theorem a_loadA {d : Nat} {T U : TypeId} {x : Operand} {D : TypeDesc} {k j b n : Nat} {s : Seg} {cs : List Value} (hu : P.underlying T = some D) (ha : isAggD D = true) (hs : Sz P T n) (M : St ks S0 w0 w L G)
    (hx : ev N f x = .pointer (some ⟨b, 0, none⟩)) (hk : L[k]? = some s) (hj : s[j]? = some (b, C cs U)) (hn : cs.length = n) (h : wpList P ops Q rest (Fr N (upd f d (.agg cs.toArray))) w) :
    wpList P ops Q (⟨some d, .load T x, ty, pos, af, none⟩ :: rest) (Fr N f) w :=
  s_val (r_loadN hu ha hs hx hn (fun i v hv => by rw [Nat.zero_add]; exact M.cell hk hj hv)) h
theorem St.cellsA (M : St ks S0 w0 w L G) {k j b : Nat} {s : Seg} {cs : List Value} {T : TypeId} (hk : L[k]? = some s) (hj : s[j]? = some (b, C cs T)) :
    ∀ i v, cs[i]? = some v → w.cell? ⟨b, 0 + i, none⟩ = some v := fun i v hv => by rw [Nat.zero_add]; exact M.cell hk hj hv
theorem a_store {T U : TypeId} {x y : Operand} {n k j b o : Nat} {s : Seg} {cs vs : List Value} {v : Value} (hs : Sz P T n) (M : St ks S0 w0 w L G)
    (hx : ev N f x = .pointer (some ⟨b, o, none⟩)) (hy : ev N f y = v) (hc : cellsOf v = vs) (hk : L[k]? = some s) (hj : s[j]? = some (b, C cs U)) (hn : vs.length = n) (h1 : oneAll vs = true) (hf : Nat.ble (o + vs.length) cs.length = true)
    (h : ∀ w', St ks S0 w0 w' (L.set k (s.set j (b, C (spl cs o vs) U))) G → wpList P ops Q rest (Fr N f) w') :
    wpList P ops Q (⟨none, .store T x y, ty, pos, af, none⟩ :: rest) (Fr N f) w := by
  have hb := M.mem hk hj
  refine s_unit (r_store hs hx hy hc hn h1 hb (Nat.le_of_ble_eq_true hf)) (h _ ?_)
  rw [setRow_setBlk hb]
  exact M.put hk hj _
end
end Go.Az
