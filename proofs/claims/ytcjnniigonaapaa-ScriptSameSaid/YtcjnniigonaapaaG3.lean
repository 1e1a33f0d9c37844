/-
  FRAMEWORK 12: arguments opened.
-/
import Derived.Test.YtcjnniigonaapaaG2
import Derived.ProofKit
import Derived.ChangeArms
namespace Go.Az
open Go
inductive Lay where
  | i (k : IntKind)
  | b
  | s (l : List Lay)
mutual
inductive OkV (w : World) : Lay → Value → Prop
  | int {k : IntKind} {n : Int} (h1 : k.min ≤ n) (h2 : n ≤ k.max) : OkV w (.i k) (.int k n)
  | bool {c : Bool} : OkV w .b (.bool c)
  | nil {l : List Lay} : OkV w (.s l) (.slice none 0 0)
  | sl {l : List Lay} {a : Addr} {len cap : Nat} (f : Nat → List Value) (h1 : len ≤ cap) (h2 : cap ≤ maxLen) (h3 : ∀ i, i < len → OkR w l (f i)) (h4 : ∀ i, i < len → ∀ j v, (f i)[j]? = some v → w.cell? (a.add (i * l.length + j)) = some v) : OkV w (.s l) (.slice (some a) len cap)
inductive OkR (w : World) : List Lay → List Value → Prop
  | nil : OkR w [] []
  | cons {l : Lay} {ls : List Lay} {v : Value} {vs : List Value} (h : OkV w l v) (hs : OkR w ls vs) : OkR w (l :: ls) (v :: vs)
end
theorem OkR.append {w : World} : ∀ {ls ls' : List Lay} {vs vs' : List Value}, OkR w ls vs → OkR w ls' vs' → OkR w (ls ++ ls') (vs ++ vs')
  | [], _, [], _, _, h' => h'
  | _ :: _, _, _ :: _, _, h, h' => by
    cases h with
    | cons h hs => exact .cons h (OkR.append hs h')
theorem OkR.len {w : World} : ∀ {ls : List Lay} {vs : List Value}, OkR w ls vs → vs.length = ls.length
  | [], [], _ => rfl
  | _ :: _, _ :: _, h => by
    cases h with
    | cons h hs => simp [OkR.len hs]
def layFs (P : Program) (g : TypeId → Option (List Lay)) (total : Nat) : Nat → List Field → Option (List Lay)
  | o, [] => if o = total then some [] else none
  | o, f :: fs => if f.offset = o then (match g f.type, layFs P g total (o + P.cellsOf f.type) fs with
    | some l, some r => if l.length = P.cellsOf f.type then some (l ++ r) else none
    | _, _ => none) else none
def repL (l : List Lay) : Nat → List Lay
  | 0 => []
  | n + 1 => l ++ repL l n
def layOf (P : Program) : Nat → TypeId → Option (List Lay)
  | 0, _ => none
  | n + 1, t => match P.underlying t with
    | some (.int k) => some [.i k]
    | some .bool => some [.b]
    | some (.slice e) => (match layOf P n e with
      | some l => if l.length = P.cellsOf e then some [.s l] else none
      | none => none)
    | some (.struct fs) => layFs P (layOf P n) (P.cellsOf t) 0 fs.toList
    | some (.array m e) => (match layOf P n e with
      | some l => if l.length = P.cellsOf e ∧ m * P.cellsOf e = P.cellsOf t then some (repL l m) else none
      | none => none)
    | _ => none
theorem mapM_all {α β : Type} {f : α → Option β} : ∀ {l : List α} {ys : List β}, l.mapM f = some ys → ∀ a ∈ l, ∃ y, f a = some y
  | [], _, _, a, ha => by cases ha
  | x :: l, ys, h, a, ha => by
    simp only [List.mapM_cons, Option.bind_eq_bind, Option.bind_eq_some_iff] at h
    obtain ⟨y, hy, zs, hz, _⟩ := h
    rcases List.mem_cons.1 ha with e | e
    · subst e; exact ⟨y, hy⟩
    · exact mapM_all hz a e
theorem layFs_ok {P : Program} {w : World} {g : TypeId → Option (List Lay)} {q : TypeId → List Value → Prop} (hg : ∀ t l cs, g t = some l → q t cs → OkR w l cs) {cs : List Value} {total : Nat} (ht : cs.length = total) :
    ∀ (fs : List Field) (o : Nat) (r : List Lay), layFs P g total o fs = some r → (∀ f ∈ fs, q f.type ((cs.drop f.offset).take (P.cellsOf f.type))) → OkR w r (cs.drop o)
  | [], o, r, h, _ => by
    simp only [layFs] at h
    split at h
    · simp at h; subst h
      rw [List.drop_of_length_le (by omega)]; exact .nil
    · cases h
  | f :: fs, o, r, h, hq => by
    simp only [layFs] at h
    split at h
    · rename_i ho
      split at h
      · rename_i l r' h1 h2
        split at h
        · simp at h; subst h
          have a1 := hg _ _ _ h1 (hq f (List.mem_cons_self ..))
          have a2 := layFs_ok hg ht fs _ _ h2 (fun f' hf' => hq f' (List.mem_cons_of_mem _ hf'))
          rw [ho] at a1
          have := a1.append a2
          rwa [← List.drop_drop, List.take_append_drop] at this
        · cases h
      · cases h
    · cases h
theorem repL_ok {w : World} {l : List Lay} {c : Nat} {cs : List Value} (hl : l.length = c) : ∀ (m o : Nat), (∀ i, o ≤ i → i < o + m → OkR w l ((cs.drop (i * c)).take c)) → cs.length = (o + m) * c → OkR w (repL l m) (cs.drop (o * c))
  | 0, o, _, h => by
    rw [List.drop_of_length_le (by rw [h]; simp)]; exact .nil
  | m + 1, o, hi, h => by
    have a1 := hi o (Nat.le_refl _) (by omega)
    have a2 := repL_ok (w := w) hl (cs := cs) m (o + 1) (fun i h1 h2 => hi i (by omega) (by omega)) (by rw [h]; congr 1; omega)
    have := a1.append a2
    rw [show (o + 1) * c = o * c + c by rw [Nat.succ_mul], ← List.drop_drop, List.take_append_drop] at this
    exact this
theorem trod_ok {H : Type} {enc : TypeId × Value → H} {P : Program} {w : World} {base : Nat} {sp : Nat → Bool} {held : Bool} : ∀ (n : Nat) (t : TypeId) (l : List Lay) (cs : List Value), layOf P n t = some l → (∃ fuel x, DataW.trod enc P w base sp held fuel t cs = some x) → OkR w l cs
  | 0, _, _, _, h, _ => by cases h
  | n + 1, t, l, cs, h, ⟨fuel, x, hx⟩ => by
    have ih := trod_ok (enc := enc) (P := P) (w := w) (base := base) (sp := sp) (held := held) n
    cases fuel with
    | zero => simp [DataW.trod] at hx
    | succ fuel =>
      simp only [layOf] at h
      split at h
      · rename_i k hu
        simp at h; subst h
        unfold DataW.trod at hx
        rw [hu] at hx
        split at hx <;> simp_all
        rename_i hw
        obtain ⟨h1, h2⟩ := hx.1
        subst h1
        simp only [Lit.wf, Bool.and_eq_true, decide_eq_true_eq] at h2
        exact .cons (.int h2.1 h2.2) .nil
      · rename_i hu
        simp at h; subst h
        unfold DataW.trod at hx
        rw [hu] at hx
        split at hx <;> simp_all
        exact .cons .bool .nil
      · rename_i e hu
        split at h
        · rename_i le hle
          split at h
          · rename_i hlen
            simp at h; subst h
            rcases DataW.trod_slice hu hx with ⟨h0, _⟩ | ⟨a, len, cap, elems, rest, n', _, rfl, _, hb, hl, hm, hlen2, hel, _, _⟩
            · subst h0; exact .cons .nil .nil
            · refine .cons (.sl (fun i => ((w.cells? base (a.add (i * P.cellsOf e)) (P.cellsOf e)).getD [])) hl hm (fun i hi => ?_) (fun i hi j v hv => ?_)) .nil
              · have hk := hel i hi
                rw [List.getElem?_eq_getElem (by omega)] at hk
                obtain ⟨cs', h1, h2⟩ := Option.bind_eq_some_iff.1 hk
                rw [h1]
                exact ih e le cs' hle ⟨_, _, h2⟩
              · have hk := hel i hi
                rw [List.getElem?_eq_getElem (by omega)] at hk
                obtain ⟨cs', h1, h2⟩ := Option.bind_eq_some_iff.1 hk
                rw [h1] at hv
                obtain ⟨_, hl2, hc⟩ := World.cells?_some h1
                simp only [Option.getD_some] at hv
                have hjl := (List.getElem?_eq_some_iff.1 hv).1
                have := hc j (by omega)
                rw [hlen, ← this.trans hv]
                congr 1
                have aa : ∀ (a : Addr) (p q : Nat), (a.add p).add q = a.add (p + q) := fun a p q => by
                  unfold Addr.add
                  by_cases hi : p = 0 <;> by_cases hj : q = 0 <;> simp [hi, hj, Nat.add_assoc]
                exact (aa _ _ _).symm
          · cases h
        · cases h
      · rename_i fs hu
        unfold DataW.trod at hx
        rw [hu] at hx
        simp only [] at hx
        split at hx
        · rename_i hlen
          simp only [Option.map_eq_some_iff] at hx
          obtain ⟨xs, hxs, _⟩ := hx
          have hall := mapM_all hxs
          have := layFs_ok (P := P) (w := w) (g := layOf P n) (q := fun t cs => ∃ fuel x, DataW.trod enc P w base sp held fuel t cs = some x) (fun t l cs h1 h2 => ih t l cs h1 h2) hlen fs.toList 0 l h (fun f hf => by
            obtain ⟨y, hy⟩ := hall f hf
            exact ⟨_, _, hy⟩)
          simpa using this
        · cases hx
      · rename_i m e hu
        split at h
        · rename_i le hle
          split at h
          · rename_i hlen
            simp at h; subst h
            unfold DataW.trod at hx
            rw [hu] at hx
            simp only [] at hx
            split at hx
            · rename_i hcl
              simp only [Option.map_eq_some_iff] at hx
              obtain ⟨xs, hxs, _⟩ := hx
              have hall := mapM_all hxs
              have := repL_ok (w := w) (l := le) (c := P.cellsOf e) (cs := cs) hlen.1 m 0 (fun i _ hi => by
                obtain ⟨y, hy⟩ := hall i (List.mem_range.2 (by omega))
                exact ih e le _ hle ⟨_, _, hy⟩) (by rw [hcl, ← hlen.2]; simp)
              simpa using this
            · cases hx
          · cases h
        · cases h
      · cases h

theorem okR_cons {w : World} {l : Lay} {ls : List Lay} {cs : List Value} (h : OkR w (l :: ls) cs) : ∃ v vs, cs = v :: vs ∧ OkV w l v ∧ OkR w ls vs := by
  cases h with
  | cons h hs => exact ⟨_, _, rfl, h, hs⟩
theorem okR_nil {w : World} {cs : List Value} (h : OkR w [] cs) : cs = [] := by cases h; rfl
theorem okV_int {w : World} {k : IntKind} {v : Value} (h : OkV w (.i k) v) : ∃ n, v = .int k n ∧ k.min ≤ n ∧ n ≤ k.max := by
  cases h with
  | int h1 h2 => exact ⟨_, rfl, h1, h2⟩
theorem okV_u8 {w : World} {v : Value} (h : OkV w (.i .u8) v) : ∃ n, v = .int .u8 n ∧ 0 ≤ n ∧ n ≤ 255 := okV_int h
theorem okV_u16 {w : World} {v : Value} (h : OkV w (.i .u16) v) : ∃ n, v = .int .u16 n ∧ 0 ≤ n ∧ n ≤ 65535 := okV_int h
theorem okV_u32 {w : World} {v : Value} (h : OkV w (.i .u32) v) : ∃ n, v = .int .u32 n ∧ 0 ≤ n ∧ n ≤ 4294967295 := okV_int h
theorem okV_i16 {w : World} {v : Value} (h : OkV w (.i .i16) v) : ∃ n, v = .int .i16 n ∧ -32768 ≤ n ∧ n ≤ 32767 := okV_int h
theorem okV_i64 {w : World} {v : Value} (h : OkV w (.i .i64) v) : ∃ n, v = .int .i64 n ∧ -9223372036854775808 ≤ n ∧ n ≤ 9223372036854775807 := okV_int h
theorem okV_b {w : World} {v : Value} (h : OkV w .b v) : ∃ c, v = .bool c := by
  cases h with
  | bool => exact ⟨_, rfl⟩
theorem choose_list {α : Type} {n : Nat} {p : Nat → α → Prop} (h : ∀ i, i < n → ∃ x, p i x) : ∃ l : List α, l.length = n ∧ ∀ i x, l[i]? = some x → p i x := by
  induction n with
  | zero => exact ⟨[], rfl, fun i x hx => by cases hx⟩
  | succ n ih =>
    obtain ⟨l, hl, hp⟩ := ih (fun i hi => h i (by omega))
    obtain ⟨x, hx⟩ := h n (by omega)
    refine ⟨l ++ [x], by simp [hl], fun i y hy => ?_⟩
    rw [List.getElem?_append] at hy
    split at hy
    · exact hp i y hy
    · rename_i hi
      have hlt : i - l.length < 1 := by
        have := (List.getElem?_eq_some_iff.1 hy).1; simpa using this
      have : i = n := by omega
      subst this
      rw [show i - l.length = 0 by omega] at hy
      simp at hy; subst hy; exact hx
theorem okV_s {α : Type} {w : World} {ls : List Lay} {v : Value} {enc : α → List Value} {q : α → Prop} (h : OkV w (.s ls) v) (h0 : 0 < ls.length) (hc : ∀ cs, OkR w ls cs → ∃ x, cs = enc x ∧ q x) : ∃ (s : Sl) (l : List α), v = s.v l.length ∧ LsF enc ls.length s l w ∧ ∀ x ∈ l, q x := by
  cases h with
  | nil => exact ⟨⟨none, 0⟩, [], rfl, LsF.nil _ _ _ _, fun _ h => by cases h⟩
  | @sl _ a len cap f h1 h2 h3 h4 =>
    obtain ⟨l, hl, hp⟩ := choose_list (fun i hi => hc (f i) (h3 i hi))
    have henc : ∀ x ∈ l, (enc x).length = ls.length := fun x hx => by
      obtain ⟨i, hi, rfl⟩ := List.getElem_of_mem hx
      have := hp i l[i] (List.getElem?_eq_getElem hi)
      rw [← this.1]
      exact (h3 i (by omega)).len
    have hsz : (l.flatMap enc).length = l.length * ls.length := flatMap_len henc
    refine ⟨⟨some a, cap⟩, l, by rw [hl], ⟨⟨hsz, by rw [hl]; exact h1, by simp only [maxLen] at h2; omega, fun hn => ?_⟩, henc⟩, fun x hx => ?_⟩
    · obtain ⟨b, o, sp⟩ := a
      have hat : ∀ i, i < len → ∀ j v, (f i)[j]? = some v → w.cell? ((⟨b, o, sp⟩ : Addr).add (i * ls.length + j)) = some v := h4
      have hsp : sp = none := by
        have hf0 := hp 0 l[0] (List.getElem?_eq_getElem hn)
        have hlen0 := henc l[0] (List.getElem_mem hn)
        obtain ⟨v, hv⟩ : ∃ v, (f 0)[0]? = some v := ⟨_, List.getElem?_eq_getElem (by rw [hf0.1]; omega)⟩
        have := hat 0 (by omega) 0 v hv
        simp only [Nat.zero_mul, Nat.zero_add, Addr.add, if_true] at this
        cases sp with
        | none => rfl
        | some x =>
          simp only [World.cell?] at this
          split at this <;> simp at this
      subst hsp
      refine ⟨b, o, rfl, fun i v hv => ?_⟩
      have hi := (List.getElem?_eq_some_iff.1 hv).1
      have hil : i / ls.length < l.length := by rw [Nat.div_lt_iff_lt_mul h0]; omega
      have hget := hp _ _ (List.getElem?_eq_getElem hil)
      have hv2 : (f (i / ls.length))[i % ls.length]? = some v := by
        rw [hget.1]
        have hfe := flatMap_at henc (List.getElem?_eq_getElem hil) (i % ls.length)
        have hlt : i % ls.length < (enc l[i / ls.length]).length := by rw [henc _ (List.getElem_mem hil)]; exact Nat.mod_lt _ h0
        have := hfe _ (List.getElem?_eq_getElem hlt)
        rw [Nat.div_add_mod' i ls.length, hv] at this
        first | exact this.symm | (rw [List.getElem?_eq_getElem hlt]; exact this.symm)
      have := hat _ (by omega) _ v hv2
      rw [Nat.div_add_mod' i ls.length, add_lit] at this
      exact this
    · obtain ⟨i, hi, rfl⟩ := List.getElem_of_mem hx
      exact (hp i l[i] (List.getElem?_eq_getElem hi)).2
theorem open_agg {H : Type} {enc : TypeId × Value → H} {P : Program} {w : World} {base b0 : Nat} {sp : Nat → Bool} {held : Bool} {r : Reach} {t : TypeId} {fs : Array Field} {v : Value} {d : DataW H} {ps : List MemPlace} {n : Nat} {l : List Lay} (hu : P.underlying t = some (.struct fs)) (hv : Value.okWide P w r b0 t v)
    (h : DataW.Trod enc P w base sp held t v d ps) (hl : layOf P n t = some l) : ∃ cs, v = .agg cs.toArray ∧ OkR w l cs := by
  unfold Value.okWide at hv
  rw [hu] at hv
  obtain ⟨cs, rfl, _, _⟩ := hv
  obtain ⟨fuel, hf⟩ := h
  exact ⟨cs.toList, by simp, trod_ok n t l _ hl ⟨fuel, _, by simpa [Value.cells] using hf⟩⟩
theorem below_lt {H : Type} {enc : TypeId × Value → H} {P : Program} {w : World} {ts : List TypeId} {vs : List String} {ap : Bool} {args : List Value} {ds gs : List (DataW H)} {before : List MemPlace} (hW : DataW.Whole enc P ts vs ap w args ds gs before) : ∀ p ∈ before, p.block < w.heap.size := fun p hp => by simpa using hW.lt p hp
end Go.Az
