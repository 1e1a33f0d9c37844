/-
  FRAMEWORK 7: slices: what they hold; append.
-/
import Derived.Test.YtcjnniigonaapaaF6
import Derived.Deep.AppendSrc
namespace Go.Az
open Go

/-- a slice but for its length -/
structure Sl where
  a : Option Addr
  c : Nat
abbrev Sl.v (s : Sl) (n : Nat) : Value := .slice s.a n s.c
/-- the slice holds these cells -/
structure SlF (s : Sl) (n sz : Nat) (cs : List Value) (w : World) : Prop where
  len : cs.length = n * sz
  cap : n ≤ s.c
  top : n ≤ 9223372036854775807
  at_ : 0 < n → ∃ b o, s.a = some ⟨b, o, none⟩ ∧ ∀ i x, cs[i]? = some x → w.cell? ⟨b, o + i, none⟩ = some x
/-- .. these elements -/
structure LsF {α : Type} (enc : α → List Value) (sz : Nat) (s : Sl) (xs : List α) (w : World) : Prop where
  sl : SlF s xs.length sz (xs.flatMap enc) w
  enc : ∀ x ∈ xs, (enc x).length = sz
theorem flatMap_len {α : Type} {enc : α → List Value} {sz : Nat} : ∀ {xs : List α}, (∀ x ∈ xs, (enc x).length = sz) → (xs.flatMap enc).length = xs.length * sz
  | [], _ => by simp
  | x :: r, h => by
    simp only [List.flatMap_cons, List.length_append, List.length_cons]
    rw [h x (List.mem_cons_self ..), flatMap_len (fun y hy => h y (List.mem_cons_of_mem _ hy)), Nat.succ_mul, Nat.add_comm]
theorem flatMap_at {α : Type} {enc : α → List Value} {sz : Nat} : ∀ {xs : List α} {i : Nat} {x : α}, (∀ x ∈ xs, (enc x).length = sz) → xs[i]? = some x → ∀ j v, (enc x)[j]? = some v → (xs.flatMap enc)[i * sz + j]? = some v
  | [], i, x, _, h, _, _, _ => by simp at h
  | y :: r, 0, x, he, h, j, v, hv => by
    simp at h; subst h
    simp only [List.flatMap_cons, Nat.zero_mul, Nat.zero_add]
    rw [List.getElem?_append_left (List.getElem?_eq_some_iff.1 hv).1]; exact hv
  | y :: r, i + 1, x, he, h, j, v, hv => by
    have h' : r[i]? = some x := by simpa using h
    simp only [List.flatMap_cons]
    have hy := he y (List.mem_cons_self ..)
    rw [List.getElem?_append_right (by rw [hy, Nat.succ_mul]; omega), hy]
    have := flatMap_at (fun z hz => he z (List.mem_cons_of_mem _ hz)) h' j v hv
    rw [← this]; congr 1; rw [Nat.succ_mul]; omega
theorem LsF.at_ {α : Type} {enc : α → List Value} {sz : Nat} {s : Sl} {xs : List α} {w : World} (h : LsF enc sz s xs w) {i : Nat} {x : α} (hi : xs[i]? = some x) :
    ∃ b o, s.a = some ⟨b, o, none⟩ ∧ ∀ j v, (enc x)[j]? = some v → w.cell? ⟨b, o + i * sz + j, none⟩ = some v := by
  have hlt := (List.getElem?_eq_some_iff.1 hi).1
  obtain ⟨b, o, ha, hc⟩ := h.sl.at_ (by omega)
  exact ⟨b, o, ha, fun j v hv => by rw [Nat.add_assoc]; exact hc _ _ (flatMap_at h.enc hi j v hv)⟩
theorem LsF.nil {α : Type} (enc : α → List Value) (sz : Nat) (s : Sl) (w : World) : LsF enc sz s [] w := ⟨⟨by simp, by simp, by simp, fun h => absurd h (by simp)⟩, by simp⟩
theorem cell_agree {S : List Nat} {w w' : World} {a : Addr} {v : Value} (ha : Agree S w w') (h : w.cell? a = some v) (hS : a.block ∉ S) : w'.cell? a = some v := by
  have hlt := block_lt_of_cell h
  rw [World.cell?_of_block (ha.blk _ hlt hS)]; exact h
theorem cell_keep {w w' : World} {a : Addr} {v : Value} (K : Keep [] w w') (h : w.cell? a = some v) : w'.cell? a = some v := cell_agree K.agree h (by simp)

theorem flatten_eraseIdx : ∀ (L : List Seg) (k : Nat), (L.eraseIdx k).flatten.Sublist L.flatten
  | [], _ => by simp
  | x :: L, 0 => by simp
  | x :: L, k + 1 => by simp only [List.eraseIdx_cons_succ, List.flatten_cons]; exact List.Sublist.append_left (flatten_eraseIdx L k) _
/-- A slice of the call's own: the segment sg is its block (none: it is nil). -/
def Own (E sz : Nat) (s : Sl) (n : Nat) (cs : List Value) (sg : Seg) : Prop :=
  cs.length = n * sz ∧ ((s = ⟨none, 0⟩ ∧ n = 0 ∧ sg = []) ∨
    ∃ b cur, s.a = some ⟨b, 0, none⟩ ∧ sg = [(b, C cur E)] ∧ cur.length = s.c * sz ∧ n ≤ s.c ∧ s.c ≤ maxLen ∧ cur.take (n * sz) = cs)
theorem Own.nil (E sz : Nat) : Own E sz ⟨none, 0⟩ 0 [] [] := ⟨by simp, .inl ⟨rfl, rfl, rfl⟩⟩

section
variable {ks S0 : List Nat} {w0 w w' : World} {L : List Seg} {G : List (World → Prop)}
theorem St.realloc (M : St ks S0 w0 w L G) {k : Nat} {sg : Seg} (hk : L[k]? = some sg) (o : Obj) : St ks S0 w0 (w.alloc o) (L.set k [(w.heap.size, o)]) G := by
  have hlt := (List.getElem?_eq_some_iff.1 hk).1
  have M1 := (M.alloc o).perm (L' := [(w.heap.size, o)] :: L) (by
    have : ([[(w.heap.size, o)]] ++ L).Perm (L ++ [[(w.heap.size, o)]]) := List.perm_append_comm
    simpa using this)
  have M2 := M1.sub (L' := [(w.heap.size, o)] :: L.eraseIdx k) (G' := G) (by
    simp only [List.flatten_cons]
    exact List.Sublist.append_left (flatten_eraseIdx L k) _) (fun _ h => h)
  exact M2.perm (perm_set _ hlt)
theorem Own.cell {E sz : Nat} {s : Sl} {n : Nat} {cs : List Value} {sg : Seg} (M : St ks S0 w0 w L G) {k : Nat} (hk : L[k]? = some sg) (h : Own E sz s n cs sg) (hn : 0 < cs.length) :
    ∃ b, s.a = some ⟨b, 0, none⟩ ∧ ∀ i x, cs[i]? = some x → w.cell? ⟨b, i, none⟩ = some x := by
  rcases h.2 with ⟨_, h0, _⟩ | ⟨b, cur, ha, hsg, hl, hle, hm, ht⟩
  · have := h.1; subst h0; omega
  · refine ⟨b, ha, fun i x hx => ?_⟩
    subst hsg
    refine M.cell hk (j := 0) rfl ?_
    rw [← ht, List.getElem?_take] at hx
    split at hx
    · exact hx
    · cases hx
theorem Own.slF {E sz : Nat} {s : Sl} {n : Nat} {cs : List Value} {sg : Seg} (M : St ks S0 w0 w L G) {k : Nat} (hk : L[k]? = some sg) (h : Own E sz s n cs sg) (hsz : 0 < sz) : SlF s n sz cs w := by
  refine ⟨h.1, ?_, ?_, fun hn => ?_⟩
  · rcases h.2 with ⟨rfl, rfl, _⟩ | ⟨_, _, _, _, _, h1, _⟩
    · exact Nat.le_refl _
    · exact h1
  · rcases h.2 with ⟨rfl, rfl, _⟩ | ⟨_, _, _, _, _, h1, h2, _⟩
    · exact Nat.zero_le _
    · simp only [maxLen] at h2; omega
  · obtain ⟨b, ha, hc⟩ := h.cell M hk (by rw [h.1]; exact Nat.mul_pos hn hsz)
    exact ⟨b, 0, ha, fun i x hx => by rw [Nat.zero_add]; exact hc i x hx⟩
theorem spl_take {cs vs : List Value} {o : Nat} (h : o + vs.length ≤ cs.length) : (spl cs o vs).take (o + vs.length) = cs.take o ++ vs := by
  unfold spl
  have h1 : (cs.take o ++ vs).length = o + vs.length := by simp; omega
  rw [← h1, List.take_left]

/-- APPEND onto a slice of the call's own. -/
theorem own_append {P : Program} {T tx ty E sz by_ : Nat} {z : Value} {zc : List Value} (hu : P.underlying T = some (.slice E)) (hs : Sz P E sz) (hb : By P E by_) (hz : Zr P E z) (hzc : cellsOf z = zc) (hzl : zc.length = sz) (M : St ks S0 w0 w L G)
    {k : Nat} {sg : Seg} (hk : L[k]? = some sg) {s : Sl} {n m : Nat} {cs news : List Value} {x : Value} (hO : Own E sz s n cs sg) (hsrc : Src P sz tx x m news w) (h63 : n + m ≤ maxLen) (hby : (n + m) * by_ ≤ 140737488355328) :
    ∃ s' sg' w', (Builtin.append_ #[T, tx] ty #[s.v n, x]).run P w = .ok (s'.v (n + m)) w' ∧ Own E sz s' (n + m) (cs ++ news) sg' ∧ St ks S0 w0 w' (L.set k sg') G := by
  obtain ⟨i, hi, hiz⟩ : ∃ i, P.info? E = some i ∧ i.zero = some z := by
    unfold Zr at hz
    cases e : P.info? E with
    | none => simp [e] at hz
    | some i => simp [e] at hz; exact ⟨i, rfl, hz⟩
  have his : i.size = sz := by unfold Sz at hs; simpa [hi] using hs
  have hib : i.bytes = by_ := by unfold By at hb; simpa [hi] using hb
  have hcl : (cs ++ news).length = (n + m) * sz := by rw [List.length_append, hO.1, hsrc.newsLen, Nat.add_mul]
  have h63' : n + m ≤ 9223372036854775807 := by simp only [maxLen] at h63; omega
  have hze : z.cells = zc.toArray := by rw [← hzc]; simp [cellsOf]
  have grow : s.c < n + m → (Builtin.firstCells i.size n (s.v n)).run P w.drew = .ok cs.toArray w.drew →
      ∃ s' sg' w', (Builtin.append_ #[T, tx] ty #[s.v n, x]).run P w = .ok (s'.v (n + m)) w' ∧ Own E sz s' (n + m) (cs ++ news) sg' ∧ St ks S0 w0 w' (L.set k sg') G := by
    intro hg hold
    have hr := run_append_grow_src (P := P) w T tx ty E i z hu hi hiz s.a n s.c cs hold x m news (by rw [his]; exact hsrc) hg (by omega) (growslice_fits hg (by rw [hib]; exact hby))
    have hcap := grownCap_ge w (n + m) s.c E
    have hcap2 := grownCap_le_maxLen w (n + m) s.c E h63
    refine ⟨⟨some ⟨w.heap.size, 0, none⟩, grownCap w (n + m) s.c E⟩, _, _, hr, ⟨hcl, .inr ⟨w.heap.size, ((cs ++ news).toArray ++ Builtin.zeroCells z.cells (grownCap w (n + m) s.c E - (n + m))).toList, rfl, rfl, ?_, hcap, hcap2, ?_⟩⟩, ?_⟩
    · simp only [Array.toList_append, List.length_append, Array.length_toList, size_zeroCells, hze, List.size_toArray, hzl, hO.1, hsrc.newsLen, ← Nat.add_mul]
      congr 1; omega
    · simp only [Array.toList_append]
      rw [← hcl]
      exact List.take_left
    · have := M.drew.realloc hk (C ((cs ++ news).toArray ++ Builtin.zeroCells z.cells (grownCap w (n + m) s.c E - (n + m))).toList E)
      have he : C ((cs ++ news).toArray ++ Builtin.zeroCells z.cells (grownCap w (n + m) s.c E - (n + m))).toList E = .cells ((cs ++ news).toArray ++ Builtin.zeroCells z.cells (grownCap w (n + m) s.c E - (n + m))) E (0, 0) := by
        simp only [C, Array.toArray_toList]
      rw [he] at this ⊢
      exact this
  rcases hO.2 with ⟨rfl, rfl, rfl⟩ | ⟨b, cur, ha, rfl, hl, hle, hm, ht⟩
  · have hcs : cs = [] := List.eq_nil_of_length_eq_zero (by simpa using hO.1)
    subst hcs
    by_cases h0 : m = 0
    · subst h0
      have hn : news = [] := List.eq_nil_of_length_eq_zero (by simpa using hsrc.newsLen)
      subst hn
      refine ⟨⟨none, 0⟩, [], w, ?_, Own.nil E sz, ?_⟩
      · rcases hsrc.kind with ⟨e', hk'⟩ | hk' <;> (have hc := hsrc.cells; rw [← his] at hc; simp [Builtin.append_, run_underlying hu, run_underlying hk', sizeOf, typeInfo, hi, hsrc.len, hc])
      · have : L.set k [] = L := by
          have := List.set_getElem_self (as := L) (i := k) (List.getElem?_eq_some_iff.1 hk).1
          rwa [(List.getElem?_eq_some_iff.1 hk).2] at this
        rw [this]; exact M
    · exact grow (by simp; omega) (by simp [Builtin.firstCells])
  · obtain ⟨a, c⟩ := s
    simp only at ha hl hle hm
    subst ha
    by_cases hroom : n + m ≤ c
    · have hwb := M.mem hk (j := 0) rfl
      have hfit : n * sz + news.length ≤ cur.length := by
        rw [hsrc.newsLen, hl, ← Nat.add_mul]; exact Nat.mul_le_mul_right _ hroom
      have hst := run_storeCells_at P b (n * sz) E news 0 cur.toArray w (by simpa [C] using hwb) (by simpa using hfit) hsrc.one
      have hadd : (⟨b, 0, none⟩ : Addr).add (n * sz) = ⟨b, n * sz, none⟩ := by rw [add_lit]; simp
      have hc := hsrc.cells
      refine ⟨⟨some ⟨b, 0, none⟩, c⟩, [(b, C (spl cur (n * sz) news) E)], setBlk w b (C (spl cur (n * sz) news) E), ?_, ⟨hcl, .inr ⟨b, spl cur (n * sz) news, rfl, rfl, by rw [spl_length hfit]; exact hl, hroom, hm, ?_⟩⟩, ?_⟩
      · have hsr : w.setRow b (cur.toArray.toList.take (n * sz + 0) ++ news ++ cur.toArray.toList.drop (n * sz + 0 + news.length)).toArray = setBlk w b (C (spl cur (n * sz) news) E) := by
          rw [setRow_setBlk (by simpa [C] using hwb)]; simp [C, spl]
        rw [hsr] at hst
        rcases hsrc.kind with ⟨e', hk'⟩ | hk' <;> simp [Builtin.append_, run_underlying hu, run_underlying hk', sizeOf, typeInfo, hi, his, hsrc.len, hroom, hc, hadd, hst]
      · have : (n + m) * sz = n * sz + news.length := by rw [hsrc.newsLen, Nat.add_mul]
        rw [this, spl_take hfit, ht]
      · exact M.put hk (j := 0) rfl _
    · refine grow (by simp; omega) ?_
      have hwb := M.mem hk (j := 0) rfl
      have := run_firstCells_some (P := P) w.drew i.size n ⟨b, 0, none⟩ n c cs (by rw [his]; exact hO.1) (fun j v hj => by
        rw [add_lit, Nat.zero_add]
        have : (w.drew).cell? ⟨b, j, none⟩ = w.cell? ⟨b, j, none⟩ := rfl
        rw [this]
        obtain ⟨b', hb', hcell⟩ := hO.cell M hk (by
          have := (List.getElem?_eq_some_iff.1 hj).1; omega)
        simp only [Option.some.injEq, Addr.mk.injEq, and_true] at hb'
        rw [hb']; exact hcell j v hj)
      exact this
end

/-! what is appended -/
section
variable {P : Program} {w : World}
theorem SlF.src {s : Sl} {n sz tx E : Nat} {cs : List Value} (hk : P.underlying tx = some (.slice E)) (h : SlF s n sz cs w) (h1 : oneAll cs = true) : Src P sz tx (s.v n) n cs w := by
  obtain ⟨a, c⟩ := s
  by_cases hn : 0 < n
  · obtain ⟨b, o, ha, hc⟩ := h.at_ hn
    simp only at ha
    subst ha
    exact Src.ofSlice w hk ⟨b, o, none⟩ n c cs h.len (fun j u hj => by rw [add_lit]; exact hc j u hj) (by simpa [oneAll] using h1)
  · obtain rfl : n = 0 := by omega
    have hcs : cs = [] := List.eq_nil_of_length_eq_zero (by simpa using h.len)
    subst hcs
    cases a with
    | none => exact Src.ofNil w hk c
    | some a => exact Src.ofSlice w hk a 0 c [] (by simp) (by simp) (by simp)
/-- a slice that was just built -/
theorem slF_lit {ks S0 : List Nat} {w0 : World} {L : List Seg} {G : List (World → Prop)} (M : St ks S0 w0 w L G) {k j b n sz U : Nat} {sg : Seg} {cs : List Value} (hk : L[k]? = some sg) (hj : sg[j]? = some (b, C cs U)) (hl : cs.length = n * sz) (hm : Nat.ble n 9223372036854775807 = true) :
    SlF ⟨some ⟨b, 0, none⟩, n⟩ n sz cs w := ⟨hl, Nat.le_refl _, Nat.le_of_ble_eq_true hm, fun _ => ⟨b, 0, rfl, fun i x hx => by rw [Nat.zero_add]; exact M.cell hk hj hx⟩⟩
end

section
variable {P : Program} {N : Nat} {f : Nat → Value} {w : World} {d : Option Nat} {ty : TypeId} {pos : String} {af : Array Edge} {gd : Option (Nat × Bool)}
theorem r_append {T tx : TypeId} {x y : Operand} {u v r : Value} {w' : World} (hx : ev N f x = u) (hy : ev N f y = v) (h : (Builtin.append_ #[T, tx] ty #[u, v]).run P w = .ok r w') :
    (execOp (ev N f) ⟨d, .call { callee := .builtin .append, args := #[x, y], argTypes := #[T, tx] }, ty, pos, af, gd⟩).run P w = .ok (.value r) w' := by
  simp [execOp, hx, hy, resolve, invoke, builtin, h]
/-- an element's address, of a slice whose address stands apart -/
theorem r_indexAddrS {T E n : Nat} {x y : Operand} {k : IntKind} {i : Int} {a : Option Addr} {b o o' len cap : Nat} (hT : P.underlying T = some (.slice E)) (hs : Sz P E n)
    (hx : ev N f x = .slice a len cap) (ha : a = some ⟨b, o, none⟩) (hy : ev N f y = .int k i) (h0 : 0 ≤ i) (h1 : i < len) (ho : o + i.toNat * n = o') :
    (execOp (ev N f) ⟨d, .indexAddr T x y, ty, pos, af, gd⟩).run P w = .ok (.value (.pointer (some ⟨b, o', none⟩))) w := by
  subst ha; exact r_indexAddr hT hs hx hy h0 h1 ho
end
section
variable {ks S0 : List Nat} {w0 w : World} {L : List Seg} {G : List (World → Prop)}
variable {P : Program} {N : Nat} {f : Nat → Value} {ty : TypeId} {pos : String} {af : Array Edge} {Q : Exit → Act → World → Prop} {ops : Array Oper} {rest : List Oper}
theorem a_append {d T tx E sz by_ : Nat} {z : Value} {zc : List Value} {x y : Operand} (k : Nat) (hu : P.underlying T = some (.slice E)) (hs : Sz P E sz) (hb : By P E by_) (hz : Zr P E z) (hzc : cellsOf z = zc) (hzl : zc.length = sz) (M : St ks S0 w0 w L G)
    {sg : Seg} (hk : L[k]? = some sg) {s : Sl} {n m : Nat} {cs news : List Value} {xv : Value} (hO : Own E sz s n cs sg) (hx : ev N f x = s.v n) (hy : ev N f y = xv) (hsrc : Src P sz tx xv m news w) (h63 : n + m ≤ maxLen) (hby : (n + m) * by_ ≤ 140737488355328)
    (h : ∀ s' sg' w', Own E sz s' (n + m) (cs ++ news) sg' → St ks S0 w0 w' (L.set k sg') G → wpList P ops Q rest (Fr N (upd f d (s'.v (n + m)))) w') :
    wpList P ops Q (⟨some d, .call { callee := .builtin .append, args := #[x, y], argTypes := #[T, tx] }, ty, pos, af, none⟩ :: rest) (Fr N f) w := by
  obtain ⟨s', sg', w', hr, hO', M'⟩ := own_append (ty := ty) hu hs hb hz hzc hzl M hk hO hsrc h63 hby
  exact s_val (r_append hx hy hr) (h s' sg' w' hO' M')
end
section
variable {P : Program} {N : Nat} {l : List Oper} {ks S0 : List Nat} {w0 : World} {Lq : List Seg} {Gq : List (World → Prop)} {Qf : (Nat → Value) → World → Prop}
variable {σ : List (Kd × Nat)} {f : Nat → Value} {L : List Seg} {G : List (World → Prop)}
variable {i : Nat} {ty : TypeId} {pos : String} {af : Array Edge} {gd : Option (Nat × Bool)}
theorem w_append {d T tx E sz by_ : Nat} {z : Value} {zc : List Value} {x y : Operand} (k : Nat) (ho : l[i]? = some ⟨some d, .call { callee := .builtin .append, args := #[x, y], argTypes := #[T, tx] }, ty, pos, af, gd⟩)
    (hw : Wt N l f ⟨some d, .call { callee := .builtin .append, args := #[x, y], argTypes := #[T, tx] }, ty, pos, af, gd⟩ = true) (hu : P.underlying T = some (.slice E)) (hs : Sz P E sz) (hb : By P E by_) (hz : Zr P E z) (hzc : cellsOf z = zc) (hzl : zc.length = sz)
    {sg : Seg} (hk : L[k]? = some sg) {s : Sl} {n m : Nat} {cs news : List Value} {xv : Value} (hO : Own E sz s n cs sg) (hx : ev N f x = s.v n) (hy : ev N f y = xv) (hsrc : ∀ w X, St ks S0 w0 w (L ++ X) G → Src P sz tx xv m news w) (h63 : n + m ≤ maxLen) (hby : (n + m) * by_ ≤ 140737488355328)
    (hsub : ∀ sg', SubL Lq (L.set k sg')) (hG : ∀ F ∈ Gq, F ∈ G)
    (h : ∀ s' sg', Own E sz s' (n + m) (cs ++ news) sg' → RW P N l ks S0 w0 (Cst ks S0 w0 Lq Gq) Qf σ (upd f d (s'.v (n + m))) (L.set k sg') G) :
    RW P N l ks S0 w0 (Cst ks S0 w0 Lq Gq) Qf ((.ch, i) :: σ) f L G :=
  have hlt : k < L.length := (List.getElem?_eq_some_iff.1 hk).1
  w_ch (Gh := Sl × Seg) (p := fun v g => v = g.1.v (n + m) ∧ Own E sz g.1 (n + m) (cs ++ news) g.2) (L' := fun _ g => L.set k g.2) (G' := fun _ _ => G) ho hw
    (fun w X M => by
      have hk' : (L ++ X)[k]? = some sg := by rw [List.getElem?_append_left hlt]; exact hk
      obtain ⟨s', sg', w', hr, hO', M'⟩ := own_append (ty := ty) hu hs hb hz hzc hzl M hk' hO (hsrc w X M) h63 hby
      refine stepsTo_val (r_append hx hy hr) ⟨(s', sg'), ⟨rfl, hO'⟩, ?_⟩
      rw [← set_append_lt hlt]; exact M')
    (fun _ g _ => ⟨hsub g.2, hG⟩) (fun _ _ _ _ h => h) (fun v g ⟨hv, hO'⟩ => by subst hv; exact h g.1 g.2 hO')
end
end Go.Az
