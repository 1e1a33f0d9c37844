/-
  FRAMEWORK 10: rows with the run-time's mark; append onto what is not one's own.
-/
import Derived.Test.YtcjnniigonaapaaF9
import Derived.Test.YtcjnniigonaapaaE1
namespace Go.Az
open Go
/-- a row with the run-time's mark behind its last cell -/
def Cm (cs : List Value) (T : TypeId) : Obj := .cells cs.toArray T (cs.length, cs.length + 1)
theorem cell_ofm {w : World} {b o : Nat} {cs : List Value} {T : TypeId} {v : Value} (h : w.heap[b]? = some (Cm cs T)) (hv : cs[o]? = some v) : w.cell? ⟨b, o, none⟩ = some v := by
  simp only [Cm] at h
  simp [World.cell?, h, hv]
section
variable {P : Program} {w : World}
theorem run_mark {t e b n c : Nat} {cs : List Value} {T : TypeId} (ht : P.underlying t = some (.slice e)) (he : P.underlying e = some (.int .u8)) (hb : w.heap[b]? = some (C cs T)) :
    (convert t t (.slice (some ⟨b, 0, none⟩) n c)).run P w = .ok (.slice (some ⟨b, 0, none⟩) n c) (setBlk w b (Cm cs T)) := by
  have hsh : w.shape? b = some (T, cs.length) := by
    unfold World.shape?; rw [hb]; simp [C]
  have hlt : b < w.heap.size := (Array.getElem?_eq_some_iff.1 hb).1
  have hfr : w.freeze ⟨b, cs.length, none⟩ 1 = setBlk w b (Cm cs T) := by
    unfold World.freeze setBlk
    rw [if_neg (by decide)]
    simp only [World.mk.injEq, and_true]
    apply Array.ext
    · simp
    · intro i h1 h2
      rw [Array.getElem_modify, Array.getElem_setIfInBounds (by simpa using h1)]
      by_cases e : b = i
      · subst e
        have : w.heap[b] = C cs T := by
          rw [Array.getElem?_eq_getElem hlt] at hb; exact Option.some.inj hb
        simp [this, C, Cm]
      · simp [e]
  simp [convert, run_underlying ht, run_underlying he, markStringish, hsh]
  exact hfr
theorem SlF.first {s : Sl} {n sz : Nat} {cs : List Value} (h : SlF s n sz cs w) (hsz : 0 < sz) : (Builtin.firstCells sz n (s.v n)).run P w.drew = .ok cs.toArray w.drew := by
  obtain ⟨a, c⟩ := s
  by_cases hn : 0 < n
  · obtain ⟨b, o, ha, hc⟩ := h.at_ hn
    simp only at ha
    subst ha
    exact run_firstCells_some (P := P) w.drew sz n ⟨b, o, none⟩ n c cs h.len (fun j v hj => by
      rw [add_lit]
      exact hc j v hj)
  · obtain rfl : n = 0 := by omega
    have hcs : cs = [] := List.eq_nil_of_length_eq_zero (by simpa using h.len)
    subst hcs
    cases a with
    | none => simp [Builtin.firstCells]
    | some a => exact run_firstCells_some (P := P) w.drew sz 0 a 0 c [] (by simp) (by simp)
end
section
variable {ks S0 : List Nat} {w0 w : World} {L : List Seg} {G : List (World → Prop)}
/-- append onto a slice that is only read (it has no room): a new one -/
theorem fact_append {P : Program} {T tx ty E sz by_ : Nat} {z : Value} {zc : List Value} (hu : P.underlying T = some (.slice E)) (hs : Sz P E sz) (hb : By P E by_) (hz : Zr P E z) (hzc : cellsOf z = zc) (hzl : zc.length = sz) (hsz : 0 < sz) (M : St ks S0 w0 w L G)
    {s : Sl} {n m : Nat} {cs news : List Value} {x : Value} (hO : SlF s n sz cs w) (hsrc : Src P sz tx x m news w) (hg : s.c < n + m) (h63 : n + m ≤ maxLen) (hby : (n + m) * by_ ≤ 140737488355328) :
    ∃ s' sg' w', (Builtin.append_ #[T, tx] ty #[s.v n, x]).run P w = .ok (s'.v (n + m)) w' ∧ Own E sz s' (n + m) (cs ++ news) sg' ∧ St ks S0 w0 w' (L ++ [sg']) G := by
  obtain ⟨i, hi, hiz⟩ : ∃ i, P.info? E = some i ∧ i.zero = some z := by
    unfold Zr at hz
    cases e : P.info? E with
    | none => simp [e] at hz
    | some i => simp [e] at hz; exact ⟨i, rfl, hz⟩
  have his : i.size = sz := by unfold Sz at hs; simpa [hi] using hs
  have hib : i.bytes = by_ := by unfold By at hb; simpa [hi] using hb
  have hcl : (cs ++ news).length = (n + m) * sz := by rw [List.length_append, hO.len, hsrc.newsLen, Nat.add_mul]
  have h63' : n + m ≤ 9223372036854775807 := by simp only [maxLen] at h63; omega
  have hze : z.cells = zc.toArray := by rw [← hzc]; simp [cellsOf]
  have hold : (Builtin.firstCells i.size n (s.v n)).run P w.drew = .ok cs.toArray w.drew := by rw [his]; exact hO.first hsz
  have hr := run_append_grow_src (P := P) w T tx ty E i z hu hi hiz s.a n s.c cs hold x m news (by rw [his]; exact hsrc) hg (by omega) (growslice_fits hg (by rw [hib]; exact hby))
  have hcap := grownCap_ge w (n + m) s.c E
  have hcap2 := grownCap_le_maxLen w (n + m) s.c E h63
  refine ⟨⟨some ⟨w.heap.size, 0, none⟩, grownCap w (n + m) s.c E⟩, _, _, hr, ⟨hcl, .inr ⟨w.heap.size, ((cs ++ news).toArray ++ Builtin.zeroCells z.cells (grownCap w (n + m) s.c E - (n + m))).toList, rfl, rfl, ?_, hcap, hcap2, ?_⟩⟩, ?_⟩
  · simp only [Array.toList_append, List.length_append, Array.length_toList, size_zeroCells, hze, List.size_toArray, hzl, hO.len, hsrc.newsLen, ← Nat.add_mul]
    congr 1; omega
  · simp only [Array.toList_append]
    rw [← hcl]
    exact List.take_left
  · have := M.drew.alloc (C ((cs ++ news).toArray ++ Builtin.zeroCells z.cells (grownCap w (n + m) s.c E - (n + m))).toList E)
    have he : C ((cs ++ news).toArray ++ Builtin.zeroCells z.cells (grownCap w (n + m) s.c E - (n + m))).toList E = .cells ((cs ++ news).toArray ++ Builtin.zeroCells z.cells (grownCap w (n + m) s.c E - (n + m))) E (0, 0) := by
      simp only [C, Array.toArray_toList]
    rw [he] at this ⊢
    exact this
variable {P : Program} {N : Nat} {f : Nat → Value} {ty : TypeId} {pos : String} {af : Array Edge} {Q : Exit → Act → World → Prop} {ops : Array Oper} {rest : List Oper}
theorem a_mark {d t e b n c k j : Nat} {cs : List Value} {T : TypeId} {x : Operand} {sg : Seg} (ht : P.underlying t = some (.slice e)) (he : P.underlying e = some (.int .u8)) (M : St ks S0 w0 w L G) (hx : ev N f x = .slice (some ⟨b, 0, none⟩) n c)
    (hk : L[k]? = some sg) (hj : sg[j]? = some (b, C cs T))
    (h : ∀ w', St ks S0 w0 w' (L.set k (sg.set j (b, Cm cs T))) G → wpList P ops Q rest (Fr N (upd f d (.slice (some ⟨b, 0, none⟩) n c))) w') :
    wpList P ops Q (⟨some d, .convert t t x, ty, pos, af, none⟩ :: rest) (Fr N f) w := by
  have hb := M.mem hk hj
  refine s_val (w' := setBlk w b (Cm cs T)) (v := .slice (some ⟨b, 0, none⟩) n c) ?_ (h _ (M.put hk hj _))
  simp [execOp, hx, run_mark ht he hb]
theorem a_appendF {d T tx E sz by_ : Nat} {z : Value} {zc : List Value} {x y : Operand} (hu : P.underlying T = some (.slice E)) (hs : Sz P E sz) (hb : By P E by_) (hz : Zr P E z) (hzc : cellsOf z = zc) (hzl : zc.length = sz) (hsz : 0 < sz) (M : St ks S0 w0 w L G)
    {s : Sl} {n m : Nat} {cs news : List Value} {xv : Value} (hO : SlF s n sz cs w) (hx : ev N f x = s.v n) (hy : ev N f y = xv) (hsrc : Src P sz tx xv m news w) (hg : s.c < n + m) (h63 : n + m ≤ maxLen) (hby : (n + m) * by_ ≤ 140737488355328)
    (h : ∀ s' sg' w', Own E sz s' (n + m) (cs ++ news) sg' → St ks S0 w0 w' (L ++ [sg']) G → wpList P ops Q rest (Fr N (upd f d (s'.v (n + m)))) w') :
    wpList P ops Q (⟨some d, .call { callee := .builtin .append, args := #[x, y], argTypes := #[T, tx] }, ty, pos, af, none⟩ :: rest) (Fr N f) w := by
  obtain ⟨s', sg', w', hr, hO', M'⟩ := fact_append (ty := ty) hu hs hb hz hzc hzl hsz M hO hsrc hg h63 hby
  exact s_val (r_append hx hy hr) (h s' sg' w' hO' M')
theorem slF_mark (M : St ks S0 w0 w L G) {k j b n sz U : Nat} {sg : Seg} {cs : List Value} (hk : L[k]? = some sg) (hj : sg[j]? = some (b, Cm cs U)) (hl : cs.length = n * sz) (hm : Nat.ble n 9223372036854775807 = true) :
    SlF ⟨some ⟨b, 0, none⟩, n⟩ n sz cs w := ⟨hl, Nat.le_refl _, Nat.le_of_ble_eq_true hm, fun _ => ⟨b, 0, rfl, fun i x hx => by rw [Nat.zero_add]; exact cell_ofm (M.mem hk hj) hx⟩⟩
end

section
variable {ks S0 : List Nat} {w0 w : World} {L : List Seg} {G : List (World → Prop)}
/-- cells of an owned block, as a slice that is read -/
theorem slF_at (M : St ks S0 w0 w L G) {k j b o n U : Nat} {sg : Seg} {cs vs : List Value} (hk : L[k]? = some sg) (hj : sg[j]? = some (b, C cs U)) (hv : (cs.drop o).take n = vs) (hl : vs.length = n) (hm : Nat.ble n 9223372036854775807 = true) :
    SlF ⟨some ⟨b, o, none⟩, n⟩ n 1 vs w := ⟨by omega, Nat.le_refl _, Nat.le_of_ble_eq_true hm, fun _ => ⟨b, o, rfl, fun i x hx => M.cells hk hj hv i x hx⟩⟩
end
theorem r_mkf {P : Program} {N : Nat} {f : Nat → Value} {w : World} {d : Option Nat} {ty : TypeId} {pos : String} {af : Array Edge} {gd : Option (Nat × Bool)} {g : Fn} {A B : List Operand} {C D : List Value} (hA : A.map (ev N f) = C) (hB : B.map (ev N f) = D) : (execOp (ev N f) ⟨d, .makeFunc g A.toArray B.toArray, ty, pos, af, gd⟩).run P w = .ok (.value (.func g C.toArray D.toArray)) w := by
  subst hA; subst hB
  exact r_makeFunc (by simp) (by simp)
theorem slF_newm {b n sz U : Nat} {cs : List Value} {w : World} (hw : ∀ p ∈ [(b, Cm cs U)], w.heap[p.1]? = some p.2) (hl : cs.length = n * sz) (hm : Nat.ble n 9223372036854775807 = true) : SlF ⟨some ⟨b, 0, none⟩, n⟩ n sz cs w :=
  ⟨hl, Nat.le_refl _, Nat.le_of_ble_eq_true hm, fun _ => ⟨b, 0, rfl, fun i x hx => by rw [Nat.zero_add]; exact cell_ofm (hw _ (List.mem_singleton.2 rfl)) hx⟩⟩
/-! segments picked, in another order -/
theorem St.sub' {ks S0 : List Nat} {w0 w : World} {L L' : List Seg} {G : List (World → Prop)} (M : St ks S0 w0 w L G) (hm : ∀ p ∈ L'.flatten, p ∈ L.flatten) (hn : (keysOf L').Nodup) : St ks S0 w0 w L' G := by
  have hk : ∀ b ∈ keysOf L', b ∈ keysOf L := fun b hb => by
    obtain ⟨o, ho⟩ := mem_keysOf.1 hb
    exact mem_keysOf.2 ⟨o, hm _ ho⟩
  exact ⟨fun p hp => M.own p (hm p hp), hn, fun b hb h => M.apart b hb (hk b h), M.old, fun b hb => M.lo b (hk b hb), M.keep, fun F hF => (M.facts F hF).mono fun x hx => by
    rcases List.mem_append.1 hx with h | h
    · exact List.mem_append.2 (.inl h)
    · exact List.mem_append.2 (.inr (hk x h))⟩
theorem keys_apart {L : List Seg} (hn : (keysOf L).Nodup) {i j : Nat} {s t : Seg} (hi : L[i]? = some s) (hj : L[j]? = some t) (hij : i ≠ j) {b : Nat} (h1 : b ∈ s.map (·.1)) (h2 : b ∈ t.map (·.1)) : False := by
  have hp := keysOf_perm (perm_at hi)
  have hn2 := hp.nodup_iff.1 hn
  rw [keysOf_append] at hn2
  refine (List.nodup_append.1 hn2).2.2 b (by simpa [keysOf] using h1) b ?_ rfl
  obtain ⟨p, hp, rfl⟩ := List.mem_map.1 h2
  refine mem_keysOf.2 ⟨p.2, List.mem_flatten.2 ⟨t, ?_, hp⟩⟩
  rw [List.mem_eraseIdx_iff_getElem?]
  exact ⟨j, fun h => hij h.symm, hj⟩
theorem keys_picks {L : List Seg} (hn : (keysOf L).Nodup) : ∀ (idx : List Nat), idx.Nodup → (keysOf (idx.map fun i => L.getD i [])).Nodup
  | [], _ => by simp [keysOf]
  | i :: idx, h => by
    have hd := List.nodup_cons.1 h
    have ih := keys_picks hn idx hd.2
    have e : keysOf ((i :: idx).map fun i => L.getD i []) = (L.getD i []).map (·.1) ++ keysOf (idx.map fun i => L.getD i []) := by simp [keysOf]
    rw [e]
    refine List.nodup_append.2 ⟨?_, ih, fun a ha b hb hab => ?_⟩
    · cases hi : L[i]? with
      | none => simp [List.getD_eq_getElem?_getD, hi]
      | some s =>
        have h1 := (keysOf_perm (perm_at hi)).nodup_iff.1 hn
        rw [keysOf_append] at h1
        simpa [List.getD_eq_getElem?_getD, hi, keysOf] using (List.nodup_append.1 h1).1
    · subst hab
      obtain ⟨o, ho⟩ := mem_keysOf.1 hb
      obtain ⟨t, ht, hpt⟩ := List.mem_flatten.1 ho
      obtain ⟨j, hj, rfl⟩ := List.mem_map.1 ht
      have hij : i ≠ j := fun e => hd.1 (e ▸ hj)
      cases hi : L[i]? with
      | none => simp [List.getD_eq_getElem?_getD, hi] at ha
      | some s =>
        cases hj' : L[j]? with
        | none => simp [List.getD_eq_getElem?_getD, hj'] at hpt
        | some t =>
          simp only [List.getD_eq_getElem?_getD, hi, hj', Option.getD_some] at ha hpt
          exact keys_apart hn hi hj' hij ha (List.mem_map.2 ⟨_, hpt, rfl⟩)
theorem St.picks {ks S0 : List Nat} {w0 w : World} {L L' : List Seg} {G : List (World → Prop)} (M : St ks S0 w0 w L G) (idx : List Nat) (hd : decide idx.Nodup = true) (he : (idx.map fun i => L.getD i []) = L') : St ks S0 w0 w L' G := by
  subst he
  refine M.sub' (fun p hp => ?_) (keys_picks M.nodup idx (of_decide_eq_true hd))
  obtain ⟨t, ht, hpt⟩ := List.mem_flatten.1 hp
  obtain ⟨j, hj, rfl⟩ := List.mem_map.1 ht
  cases hj' : L[j]? with
  | none => simp [List.getD_eq_getElem?_getD, hj'] at hpt
  | some t =>
    simp only [List.getD_eq_getElem?_getD, hj', Option.getD_some] at hpt
    exact List.mem_flatten.2 ⟨t, List.mem_of_getElem? hj', hpt⟩
theorem Own.cellB {ks S0 : List Nat} {w0 w : World} {L : List Seg} {G : List (World → Prop)} {E n b i j k : Nat} {s : Sl} {l : List Int} {sg : Seg} {x : Int} (hO : Own E 1 s n (bv l) sg) (M : St ks S0 w0 w L G) (hk : L[k]? = some sg) (ha : s.a = some ⟨b, 0, none⟩) (hx : l[i]? = some x) (hj : j = i) :
    w.cell? ⟨b, 0 + j * 1, none⟩ = some (.int .u8 x) := by
  subst hj
  have hlt := (List.getElem?_eq_some_iff.1 hx).1
  obtain ⟨b', ha', hc⟩ := hO.cell M hk (by simp; omega)
  rw [ha] at ha'
  simp only [Option.some.injEq, Addr.mk.injEq, and_true] at ha'
  subst ha'
  have := hc j (.int .u8 x) (by simp [bv, hx])
  simpa using this
theorem Own.addrB {E n : Nat} {s : Sl} {l : List Int} {sg : Seg} (hO : Own E 1 s n (bv l) sg) (hn : 0 < l.length) : ∃ b, s.a = some ⟨b, 0, none⟩ := by
  have hl := hO.1
  simp at hl
  obtain ⟨b, cur, ha, _⟩ := hO.blk (by omega)
  exact ⟨b, ha⟩
theorem bufOf {T E b n : Nat} {s : Sl} {l : List Int} {sg : Seg} {cs : List Value} (h : Own E 1 s n cs sg) (hc : cs = bv l) : BufAt T E b l ((b, C [s.v n] T) :: sg) := by
  subst hc
  exact ⟨s, n, sg, by have := h.1; simpa using this.symm, h, rfl⟩
theorem cnt_pos (n : Nat) : 0 < (cnt n).length := by
  rw [cnt]; split <;> simp
theorem flat_le {α β : Type} {f : α → List β} {c : Nat} : ∀ {l : List α}, (∀ x ∈ l, (f x).length ≤ c) → (l.flatMap f).length ≤ l.length * c
  | [], _ => by simp
  | x :: l, h => by
    have h1 := h x (List.mem_cons_self ..)
    have h2 := flat_le (fun y hy => h y (List.mem_cons_of_mem _ hy) : ∀ y ∈ l, (f y).length ≤ c)
    simp only [List.flatMap_cons, List.length_append, List.length_cons, Nat.succ_mul]
    omega
theorem flat_take {α β : Type} {f : α → List β} {l : List α} {k : Nat} {x : α} (hx : l[k]? = some x) : (l.take (k + 1)).flatMap f = (l.take k).flatMap f ++ f x := by
  rw [List.take_add_one, hx, List.flatMap_append]; simp
theorem take_done {α : Type} {l : List α} {m k : Nat} (h : m + k = l.length) (hk : ¬ k < l.length) : l.take k = l := List.take_of_length_le (by omega)
theorem take_doneI {α : Type} {l : List α} {k : Nat} (hk : ¬ (k : Int) < l.length) : l.take k = l := List.take_of_length_le (by omega)
end Go.Az
