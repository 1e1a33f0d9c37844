/-
  FRAMEWORK 11: append of noughts; a slice as an array.
-/
import Derived.Test.YtcjnniigonaapaaG1
import Derived.Lib.AppendZerosOnto
namespace Go.Az
open Go
section
variable {ks S0 : List Nat} {w0 w : World} {L : List Seg} {G : List (World → Prop)}
theorem oneAll_zeros {zc : List Value} (h : oneAll zc = true) : ∀ n, oneAll (zeros zc n) = true
  | 0 => rfl
  | n + 1 => by
    have ih := oneAll_zeros h n
    simp only [oneAll, zeros, List.all_append, Bool.and_eq_true] at *
    exact ⟨h, ih⟩
theorem own_appendZ {P : Program} {T tn ty E sz by_ m : Nat} {kq kn : IntKind} {z : Value} {zc : List Value} (hu : P.underlying T = some (.slice E)) (htn : P.underlying tn = some (.int kn)) (hs : Sz P E sz) (hb : By P E by_) (hz : Zr P E z) (hzc : cellsOf z = zc) (hzl : zc.length = sz) (h1 : oneAll zc = true) (hsz : 0 < sz) (M : St ks S0 w0 w L G)
    {k : Nat} {sg : Seg} (hk : L[k]? = some sg) {s : Sl} {n : Nat} {cs : List Value} (hO : Own E sz s n cs sg) (hm : 0 < m) (h63 : n + m ≤ maxLen) (hby : (n + m) * by_ ≤ 140737488355328) :
    ∃ s' sg' w', (Builtin.append_ #[T, tn] ty #[s.v n, .int kq m]).run P w = .ok (s'.v (n + m)) w' ∧ Own E sz s' (n + m) (cs ++ zeros zc m) sg' ∧ St ks S0 w0 w' (L.set k sg') G := by
  obtain ⟨i, hi, hiz⟩ : ∃ i, P.info? E = some i ∧ i.zero = some z := by
    unfold Zr at hz
    cases e : P.info? E with
    | none => simp [e] at hz
    | some i => simp [e] at hz; exact ⟨i, rfl, hz⟩
  have his : i.size = sz := by unfold Sz at hs; simpa [hi] using hs
  have hib : i.bytes = by_ := by unfold By at hb; simpa [hi] using hb
  have hze : z.cells = zc.toArray := by rw [← hzc]; simp [cellsOf]
  have hzz : Builtin.zeroCells z.cells m = (zeros zc m).toArray := by
    unfold Builtin.zeroCells
    have := zeros_eq z.cells m (by rw [hze]; simp; omega)
    rw [this, hze]
  have hcl : (cs ++ zeros zc m).length = (n + m) * sz := by rw [List.length_append, hO.1, zeros_length, hzl, Nat.add_mul]
  have h63' : n + m ≤ 9223372036854775807 := by simp only [maxLen] at h63; omega
  have hmb : m * by_ ≤ 281474976710656 := by rw [Nat.add_mul] at hby; omega
  have grow : s.c < n + m → (Builtin.firstCells i.size n (s.v n)).run P w.drew = .ok cs.toArray w.drew →
      ∃ s' sg' w', (Builtin.append_ #[T, tn] ty #[s.v n, .int kq m]).run P w = .ok (s'.v (n + m)) w' ∧ Own E sz s' (n + m) (cs ++ zeros zc m) sg' ∧ St ks S0 w0 w' (L.set k sg') G := by
    intro hg hold
    have hr := Lib.run_append_grow_zeros (P := P) w T tn ty E i z kq kn hu htn hi hiz s.a n s.c cs hold m hm (by omega) hg (by omega) (by rw [hib]; exact hmb) (growslice_fits hg (by rw [hib]; exact hby))
    have hcap := grownCap_ge w (n + m) s.c E
    have hcap2 := grownCap_le_maxLen w (n + m) s.c E h63
    rw [hzz] at hr
    refine ⟨⟨some ⟨w.heap.size, 0, none⟩, grownCap w (n + m) s.c E⟩, _, _, hr, ⟨hcl, .inr ⟨w.heap.size, (cs.toArray ++ (zeros zc m).toArray ++ Builtin.zeroCells z.cells (grownCap w (n + m) s.c E - (n + m))).toList, rfl, rfl, ?_, hcap, hcap2, ?_⟩⟩, ?_⟩
    · simp only [Array.toList_append, List.length_append, Array.length_toList, size_zeroCells, hze, List.size_toArray, hzl, hO.1, zeros_length, ← Nat.add_mul]
      congr 1; omega
    · simp only [Array.toList_append]
      rw [← hcl]
      exact List.take_left
    · have := M.drew.realloc hk (C (cs.toArray ++ (zeros zc m).toArray ++ Builtin.zeroCells z.cells (grownCap w (n + m) s.c E - (n + m))).toList E)
      have he : C (cs.toArray ++ (zeros zc m).toArray ++ Builtin.zeroCells z.cells (grownCap w (n + m) s.c E - (n + m))).toList E = .cells (cs.toArray ++ (zeros zc m).toArray ++ Builtin.zeroCells z.cells (grownCap w (n + m) s.c E - (n + m))) E (0, 0) := by
        simp only [C, Array.toArray_toList]
      rw [he] at this ⊢
      exact this
  by_cases hroom : n + m ≤ s.c
  · rcases hO.2 with ⟨rfl, rfl, rfl⟩ | ⟨b, cur, ha, rfl, hl, hle, hmx, ht⟩
    · simp at hroom; omega
    · obtain ⟨a, c⟩ := s
      simp only at ha hl hle hmx hroom
      subst ha
      have hwb := M.mem hk (j := 0) rfl
      have hzn : (zeros zc m).length = m * sz := by rw [zeros_length, hzl]
      have hfit : n * sz + (zeros zc m).length ≤ cur.length := by
        rw [hzn, hl, ← Nat.add_mul]; exact Nat.mul_le_mul_right _ hroom
      have hst := run_storeCells_at P b (n * sz) E (zeros zc m) 0 cur.toArray w (by simpa [C] using hwb) (by simpa using hfit) (by simpa [oneAll] using oneAll_zeros h1 m)
      have hadd : (⟨b, 0, none⟩ : Addr).add (n * sz) = ⟨b, n * sz, none⟩ := by rw [add_lit]; simp
      refine ⟨⟨some ⟨b, 0, none⟩, c⟩, [(b, C (spl cur (n * sz) (zeros zc m)) E)], setBlk w b (C (spl cur (n * sz) (zeros zc m)) E), ?_, ⟨hcl, .inr ⟨b, spl cur (n * sz) (zeros zc m), rfl, rfl, by rw [spl_length hfit]; exact hl, hroom, hmx, ?_⟩⟩, ?_⟩
      · have hsr : w.setRow b (cur.toArray.toList.take (n * sz + 0) ++ zeros zc m ++ cur.toArray.toList.drop (n * sz + 0 + (zeros zc m).length)).toArray = setBlk w b (C (spl cur (n * sz) (zeros zc m)) E) := by
          rw [setRow_setBlk (by simpa [C] using hwb)]; simp [C, spl]
        rw [hsr] at hst
        have hw : IntKind.i64.wrap (m : Int) = m := w64 (by omega) (by omega)
        have hneg : ¬ ((m : Int) < 0) := by omega
        have h48i : ¬ (281474976710656 < (m : Int) * (by_ : Int)) := by rw [← Int.natCast_mul]; omega
        have hmn : ¬ (m = 0) := by omega
        have hns : ¬ (m * sz = 0) := Nat.mul_ne_zero (by omega) (by omega)
        simp [Builtin.append_, run_underlying hu, run_underlying htn, sizeOf, typeInfo, zeroValue, hi, hiz, his, hib, asInt, asIntOf, hw, hneg, h48i, hns, hroom, hzz, hadd, hst]
        try omega
      · have : (n + m) * sz = n * sz + (zeros zc m).length := by rw [hzn, Nat.add_mul]
        rw [this, spl_take hfit, ht]
      · exact M.put hk (j := 0) rfl _
  · exact grow (by omega) (by
      rw [his]
      refine SlF.first (P := P) ?_ hsz
      exact hO.slF M hk hsz)
variable {P : Program} {N : Nat} {f : Nat → Value} {ty : TypeId} {pos : String} {af : Array Edge} {Q : Exit → Act → World → Prop} {ops : Array Oper} {rest : List Oper}
theorem a_appendZ {d T tn E sz by_ m : Nat} {kq kn : IntKind} {z : Value} {zc : List Value} {x y : Operand} (k : Nat) (hu : P.underlying T = some (.slice E)) (htn : P.underlying tn = some (.int kn)) (hs : Sz P E sz) (hb : By P E by_) (hz : Zr P E z) (hzc : cellsOf z = zc) (hzl : zc.length = sz) (h1 : oneAll zc = true) (hsz : 0 < sz) (M : St ks S0 w0 w L G)
    {sg : Seg} (hk : L[k]? = some sg) {s : Sl} {n : Nat} {cs : List Value} (hO : Own E sz s n cs sg) (hx : ev N f x = s.v n) (hy : ev N f y = .int kq m) (hm : 0 < m) (h63 : n + m ≤ maxLen) (hby : (n + m) * by_ ≤ 140737488355328)
    (h : ∀ s' sg' w', Own E sz s' (n + m) (cs ++ zeros zc m) sg' → St ks S0 w0 w' (L.set k sg') G → wpList P ops Q rest (Fr N (upd f d (s'.v (n + m)))) w') :
    wpList P ops Q (⟨some d, .call { callee := .builtin .append, args := #[x, y], argTypes := #[T, tn] }, ty, pos, af, none⟩ :: rest) (Fr N f) w := by
  obtain ⟨s', sg', w', hr, hO', M'⟩ := own_appendZ (ty := ty) (kq := kq) hu htn hs hb hz hzc hzl h1 hsz M hk hO hm h63 hby
  exact s_val (r_append hx hy hr) (h s' sg' w' hO' M')
end
theorem r_s2a {P : Program} {N : Nat} {f : Nat → Value} {w : World} {d : Option Nat} {ty : TypeId} {pos : String} {af : Array Edge} {gd : Option (Nat × Bool)} {arr e len n c : Nat} {x : Operand} {a : Option Addr} (hu : P.underlying arr = some (.array n e)) (hx : ev N f x = .slice a len c) (hn : n ≤ len) :
    (execOp (ev N f) ⟨d, .sliceToArrayPointer arr x, ty, pos, af, gd⟩).run P w = .ok (.value (.pointer a)) w := by
  have : ¬ len < n := by omega
  simp [execOp, hx, Instr.arrayAt, run_underlying hu, this]
theorem pad_at {l : List Int} {n i : Nat} (h : l.length = 0 ∨ l.length = n) (hi : i < n) : (l ++ List.replicate n 0)[i]? = some (l.getD i 0) := by
  rw [List.getD_eq_getElem?_getD, List.getElem?_append]
  split
  · rename_i h1; rw [List.getElem?_eq_getElem h1]; simp
  · rename_i h1
    rw [List.getElem?_eq_none (by omega : l.length ≤ i)]
    rw [List.getElem?_replicate, if_pos (by omega)]; rfl
theorem bv_pad (l : List Int) (n : Nat) : bv l ++ zeros [.int .u8 0] n = bv (l ++ List.replicate n 0) := by
  rw [bv_append]
  congr 1
  induction n with
  | zero => rfl
  | succ n ih => rw [zeros, ih]; rfl
theorem slF_cut {s : Sl} {n : Nat} {l : List Int} {w : World} (h : SlF s n 1 (bv l) w) {i j : Nat} (hij : i ≤ j) (hj : j ≤ n) : SlF ⟨if s.c = i then s.a else s.a.map (·.add (i * 1)), s.c - i⟩ (j - i) 1 (bv ((l.drop i).take (j - i))) w := by
  have hl : l.length = n := by have := h.len; simpa using this
  have hcap := h.cap
  have htop := h.top
  refine ⟨by simp; omega, (by omega : j - i ≤ s.c - i), (by omega : j - i ≤ 9223372036854775807), fun hn => ?_⟩
  obtain ⟨b, o, ha, hc⟩ := h.at_ (by omega)
  have hne : ¬ s.c = i := by omega
  refine ⟨b, o + i, ?_, fun x v hv => ?_⟩
  · simp only [if_neg hne, ha, Option.map_some, add_lit, Nat.mul_one]
  · have hv' : (bv l)[i + x]? = some v := by
      have : (bv ((l.drop i).take (j - i))) = ((bv l).drop i).take (j - i) := by simp [bv, List.map_drop, List.map_take]
      rw [this, List.getElem?_take] at hv
      split at hv
      · rwa [List.getElem?_drop] at hv
      · cases hv
    have := hc (i + x) v hv'
    rwa [← Nat.add_assoc] at this
end Go.Az
