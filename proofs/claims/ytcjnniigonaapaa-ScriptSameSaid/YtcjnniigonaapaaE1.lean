/-
  HOW THE PLAIN THINGS LIE IN MEMORY.
-/
import Derived.Test.YtcjnniigonaapaaF8
import Derived.Test.YtcjnniigonaapaaD1
namespace Go.Az
open Go
abbrev i64 (n : Int) : Value := .int .i64 n
abbrev u64 (n : Int) : Value := .int .u64 n
abbrev u8 (n : Int) : Value := .int .u8 n
abbrev i16 (n : Int) : Value := .int .i16 n
abbrev u16 (n : Int) : Value := .int .u16 n
abbrev bo (b : Bool) : Value := .bool b
abbrev v4 (v : V4) : List Value := [i64 v.a, i64 v.b, i64 v.c, i64 v.d]
abbrev vtx (v : Vtx) : List Value := [i64 v.place.a, i64 v.place.b, i64 v.place.c, i64 v.place.d, i64 v.colour.a, i64 v.colour.b, i64 v.colour.c, i64 v.colour.d]
abbrev ins (x : Ins) : List Value := [u8 x.op, u8 x.dst, u8 x.a, u8 x.b, i16 x.imm]
abbrev stt (s : Stt) : List Value := [u8 s.depth, bo s.write, u8 s.stencil, u8 s.ref, u8 s.mask, u8 s.fail, u8 s.hidden, u8 s.pass, u8 s.blend, u8 s.channels, u8 s.cull, i64 s.x0, i64 s.y0, i64 s.x1, i64 s.y1]
abbrev drw (s : Sl) (d : Drw) : List Value := [u8 d.st.depth, bo d.st.write, u8 d.st.stencil, u8 d.st.ref, u8 d.st.mask, u8 d.st.fail, u8 d.st.hidden, u8 d.st.pass, u8 d.st.blend, u8 d.st.channels, u8 d.st.cull, i64 d.st.x0, i64 d.st.y0, i64 d.st.x1, i64 d.st.y1,
  bo d.clears, u8 d.c0, u8 d.c1, u8 d.c2, u8 d.c3, i64 d.cdepth, u8 d.cstencil, u8 d.wanted, i64 d.vertex, i64 d.fragment, u8 d.kind, s.v d.indices.length]
/-- a script as it lies -/
structure SV where
  w : Int
  h : Int
  m0 : V4
  m1 : V4
  m2 : V4
  m3 : V4
  V : Sl
  vs : List Vtx
  S : Sl
  ss : List (Sl × Prog)
  P : Sl
  ps : List (Sl × Prog)
  D : Sl
  ds : List (Sl × Drw)
abbrev SV.cells (x : SV) : List Value := [i64 x.w, i64 x.h, i64 x.m0.a, i64 x.m0.b, i64 x.m0.c, i64 x.m0.d, i64 x.m1.a, i64 x.m1.b, i64 x.m1.c, i64 x.m1.d, i64 x.m2.a, i64 x.m2.b, i64 x.m2.c, i64 x.m2.d, i64 x.m3.a, i64 x.m3.b, i64 x.m3.c, i64 x.m3.d,
  x.V.v x.vs.length, x.S.v x.ss.length, x.P.v x.ps.length, x.D.v x.ds.length]
def SV.scr (x : SV) : Scr := ⟨x.w, x.h, x.m0, x.m1, x.m2, x.m3, x.vs, x.ss.map (·.2), x.ps.map (·.2), x.ds.map (·.2)⟩

/-- a cell that holds a slice of bytes of one's own -/
def BufAt (T E b : Nat) (l : List Int) (sg : Seg) : Prop := ∃ s n sg', n = l.length ∧ Own E 1 s n (bv l) sg' ∧ sg = (b, C [s.v n] T) :: sg'

/-! facts -/
abbrev encN (n : Int) : List Value := [i64 n]
abbrev encB (n : Int) : List Value := [u8 n]
abbrev encS {α : Type} (x : Sl × List α) : List Value := [x.1.v x.2.length]
abbrev encD (x : Sl × Drw) : List Value := drw x.1 x.2
abbrev PrF (s : Sl) (p : Prog) (w : World) : Prop := LsF ins 5 s p w
structure PsF (S : Sl) (l : List (Sl × Prog)) (w : World) : Prop where
  row : LsF encS 1 S l w
  each : ∀ x ∈ l, PrF x.1 x.2 w
structure DsF (S : Sl) (l : List (Sl × Drw)) (w : World) : Prop where
  row : LsF encD 27 S l w
  each : ∀ x ∈ l, LsF encN 1 x.1 x.2.indices w
structure SVF (x : SV) (w : World) : Prop where
  vs : LsF vtx 8 x.V x.vs w
  ss : PsF x.S x.ss w
  ps : PsF x.P x.ps w
  ds : DsF x.D x.ds w

/-- a fact that stays while nothing old is written -/
def Nice (F : World → Prop) : Prop := ∀ w w', Agree [] w w' → F w → F w'
theorem SlF.nice {s : Sl} {n sz : Nat} {cs : List Value} : Nice (SlF s n sz cs) := fun _ _ ha h => ⟨h.len, h.cap, h.top, fun hn => by
  obtain ⟨b, o, he, hc⟩ := h.at_ hn
  exact ⟨b, o, he, fun i x hx => cell_agree ha (hc i x hx) (by simp)⟩⟩
theorem LsF.nice {α : Type} {enc : α → List Value} {sz : Nat} {s : Sl} {xs : List α} : Nice (LsF enc sz s xs) := fun _ _ ha h => ⟨SlF.nice _ _ ha h.sl, h.enc⟩
theorem PsF.nice {S : Sl} {l : List (Sl × Prog)} : Nice (PsF S l) := fun _ _ ha h => ⟨LsF.nice _ _ ha h.row, fun x hx => LsF.nice _ _ ha (h.each x hx)⟩
theorem DsF.nice {S : Sl} {l : List (Sl × Drw)} : Nice (DsF S l) := fun _ _ ha h => ⟨LsF.nice _ _ ha h.row, fun x hx => LsF.nice _ _ ha (h.each x hx)⟩
theorem SVF.nice {x : SV} : Nice (SVF x) := fun _ _ ha h => ⟨LsF.nice _ _ ha h.vs, PsF.nice _ _ ha h.ss, PsF.nice _ _ ha h.ps, DsF.nice _ _ ha h.ds⟩
theorem Nice.and {F G : World → Prop} (h : Nice F) (k : Nice G) : Nice fun w => F w ∧ G w := fun _ _ ha hf => ⟨h _ _ ha hf.1, k _ _ ha hf.2⟩
theorem Nice.st {F : World → Prop} (h : Nice F) {w : World} (hw : F w) : Stable [] w F := fun _ ha => h _ _ ha hw
theorem St.begin (w : World) {F : World → Prop} (hn : Nice F) (h : F w) : St [] [] w w [] [F] := St.start [] w nofun (fun F' hF => by
  rw [List.mem_singleton.1 hF]; exact hn.st h)
theorem SlF.stable {s : Sl} {n sz : Nat} {cs : List Value} {S : List Nat} {w : World} (h : SlF s n sz cs w) (hS : ∀ b o, s.a = some ⟨b, o, none⟩ → b ∉ S) : Stable S w (SlF s n sz cs) := fun _ ha => ⟨h.len, h.cap, h.top, fun hn => by
  obtain ⟨b, o, he, hc⟩ := h.at_ hn
  exact ⟨b, o, he, fun i x hx => cell_agree ha (hc i x hx) (hS b o he)⟩⟩

/-! slices of one's own, element by element -/
theorem Own.blk {E sz : Nat} {s : Sl} {n : Nat} {cs : List Value} {sg : Seg} (h : Own E sz s n cs sg) (hn : 0 < n) : ∃ b cur, s.a = some ⟨b, 0, none⟩ ∧ sg = [(b, C cur E)] ∧ cur.length = s.c * sz ∧ n ≤ s.c := by
  rcases h.2 with ⟨_, h0, _⟩ | ⟨b, cur, ha, hsg, hl, hle, _, _⟩
  · omega
  · exact ⟨b, cur, ha, hsg, hl, hle⟩
theorem Own.lsAt {α : Type} {enc : α → List Value} {E sz : Nat} {s : Sl} {n : Nat} {xs : List α} {sg : Seg} {ks S0 : List Nat} {w0 w : World} {L : List Seg} {G : List (World → Prop)} (h : Own E sz s n (xs.flatMap enc) sg) (hn : n = xs.length) (he : ∀ x, (enc x).length = sz) (hsz : 0 < sz)
    (M : St ks S0 w0 w L G) {k : Nat} (hk : L[k]? = some sg) : LsF enc sz s xs w := by
  subst hn
  exact ⟨h.slF M hk hsz, fun x _ => he x⟩
theorem one_flat {α : Type} {enc : α → List Value} (h : ∀ x, oneAll (enc x) = true) (xs : List α) : oneAll (xs.flatMap enc) = true := by
  induction xs with
  | nil => rfl
  | cons x xs ih =>
    simp only [oneAll, List.flatMap_cons, List.all_append, Bool.and_eq_true] at *
    exact ⟨h x, ih⟩
theorem set_last {α : Type} {as : List α} {y z : α} {k : Nat} (h : k = as.length) : (as ++ [y]).set k z = as ++ [z] := by
  subst h; simp
theorem spl_append_left {as bs vs : List Value} {o : Nat} (h : o + vs.length ≤ as.length) : spl (as ++ bs) o vs = spl as o vs ++ bs := by
  unfold spl
  rw [List.take_append_of_le_length (by omega), List.drop_append_of_le_length (by omega)]
  simp [List.append_assoc]
theorem spl_append_right {as bs vs : List Value} {o : Nat} (h : as.length ≤ o) : spl (as ++ bs) o vs = as ++ spl bs (o - as.length) vs := by
  unfold spl
  rw [List.take_append, List.take_of_length_le h, List.drop_append, List.drop_of_length_le (by omega)]
  simp only [List.nil_append, List.append_assoc]
  congr 4
  omega
theorem spl_flat {α : Type} {enc : α → List Value} {sz : Nat} (he : ∀ x, (enc x).length = sz) {x x' : α} {j : Nat} {vs : List Value} (hj : spl (enc x) j vs = enc x') (hl : j + vs.length ≤ sz) : ∀ (xs : List α) (k : Nat), xs[k]? = some x →
    spl (xs.flatMap enc) (k * sz + j) vs = (xs.set k x').flatMap enc
  | [], k, h => by simp at h
  | y :: xs, 0, h => by
    simp at h; subst h
    simp only [List.flatMap_cons, List.set_cons_zero, Nat.zero_mul, Nat.zero_add]
    rw [spl_append_left (by rw [he]; exact hl), hj]
  | y :: xs, k + 1, h => by
    have h' : xs[k]? = some x := by simpa using h
    simp only [List.flatMap_cons, List.set_cons_succ]
    have hsm : (k + 1) * sz = k * sz + sz := Nat.succ_mul _ _
    rw [spl_append_right (by rw [he, hsm]; omega), he, ← spl_flat he hj hl xs k h']
    congr 2
    rw [hsm]; omega
theorem Own.put {α : Type} {enc : α → List Value} {E sz b n : Nat} {s : Sl} {cur : List Value} {xs : List α} (he : ∀ x, (enc x).length = sz) (h : Own E sz s n (xs.flatMap enc) [(b, C cur E)]) {k o : Nat} {x x' : α} {j : Nat} {vs : List Value} (hx : xs[k]? = some x)
    (hj : spl (enc x) j vs = enc x') (hl : j + vs.length ≤ sz) (ho : o = k * sz + j) (hn : n = xs.length) : Own E sz s n ((xs.set k x').flatMap enc) [(b, C (spl cur o vs) E)] := by
  subst ho; subst hn
  have hk := (List.getElem?_eq_some_iff.1 hx).1
  have hlen : (xs.flatMap enc).length = xs.length * sz := h.1
  have hle : k * sz + j + vs.length ≤ xs.length * sz := by
    have : (k + 1) * sz ≤ xs.length * sz := Nat.mul_le_mul_right _ hk
    rw [Nat.succ_mul] at this; omega
  refine ⟨by rw [flatMap_len (fun x _ => he x)]; simp, ?_⟩
  rcases h.2 with ⟨_, h0, _⟩ | ⟨b', cur', ha, hsg, hl', hle', hm, ht⟩
  · omega
  · simp only [List.cons.injEq, Prod.mk.injEq, and_true] at hsg
    obtain ⟨rfl, hc⟩ := hsg
    have hcc : cur = cur' := by simpa [C] using hc
    subst hcc
    have hcl : xs.length * sz ≤ cur.length := by rw [hl']; exact Nat.mul_le_mul_right _ hle'
    refine .inr ⟨b, _, ha, rfl, by rw [spl_length (by omega)]; exact hl', hle', hm, ?_⟩
    rw [← spl_flat he hj hl xs k hx, ← ht]
    have e : cur = cur.take (xs.length * sz) ++ cur.drop (xs.length * sz) := (List.take_append_drop _ _).symm
    have hct : (cur.take (xs.length * sz)).length = xs.length * sz := by rw [List.length_take]; omega
    have e2 : spl cur (k * sz + j) vs = spl (cur.take (xs.length * sz)) (k * sz + j) vs ++ cur.drop (xs.length * sz) := by
      conv => lhs; rw [e]
      rw [spl_append_left (by rw [hct]; omega)]
    rw [e2, List.take_left' (by rw [spl_length (by rw [hct]; omega), hct])]
end Go.Az
