/-
  FRAMEWORK 6: structs and slices built; slices cut; append.
-/
import Derived.Test.YtcjnniigonaapaaF5
namespace Go.Az
open Go

theorem spl_length {cs : List Value} {o : Nat} {vs : List Value} (h : o + vs.length ≤ cs.length) : (spl cs o vs).length = cs.length := by simp [spl]; omega
theorem spl_nil (cs : List Value) (o : Nat) : spl cs o [] = cs := by simp [spl]
theorem spl_cons {cs : List Value} {o : Nat} {v : Value} {vs : List Value} (h : o + (vs.length + 1) ≤ cs.length) : spl (cs.set o v) (o + 1) vs = spl cs o (v :: vs) := by
  unfold spl
  apply List.ext_getElem?
  intro i
  have h1 : o < cs.length := by omega
  simp only [List.getElem?_append, List.length_append, List.length_take, List.length_set, List.length_cons, List.getElem?_take, List.getElem?_set, List.getElem?_drop, List.getElem?_cons]
  by_cases hi : i < o
  · have a1 : i < min (o + 1) cs.length + vs.length := by omega
    have a2 : i < min (o + 1) cs.length := by omega
    have a3 : i < min o cs.length + (vs.length + 1) := by omega
    have a4 : i < min o cs.length := by omega
    have a5 : i < o + 1 := by omega
    have a6 : ¬ o = i := by omega
    simp [a1, a2, a3, a4, a5, a6, hi]
  · by_cases he : i = o
    · subst he
      have a1 : i < min (i + 1) cs.length + vs.length := by omega
      have a2 : i < min (i + 1) cs.length := by omega
      have a3 : i < min i cs.length + (vs.length + 1) := by omega
      have a4 : ¬ i < min i cs.length := by omega
      have a5 : i - min i cs.length = 0 := by omega
      simp [a1, a2, a3, a4, a5, h1]
    · by_cases hv : i < o + 1 + vs.length
      · have a1 : i < min (o + 1) cs.length + vs.length := by omega
        have a2 : ¬ i < min (o + 1) cs.length := by omega
        have a3 : i < min o cs.length + (vs.length + 1) := by omega
        have a4 : ¬ i < min o cs.length := by omega
        have a5 : ¬ i - min o cs.length = 0 := by omega
        have a6 : i - min (o + 1) cs.length = i - min o cs.length - 1 := by omega
        simp [a1, a2, a3, a4, a5, a6]
      · have a1 : ¬ i < min (o + 1) cs.length + vs.length := by omega
        have a3 : ¬ i < min o cs.length + (vs.length + 1) := by omega
        have a6 : ¬ o = o + 1 + vs.length + (i - (min (o + 1) cs.length + vs.length)) := by omega
        have a7 : o + 1 + vs.length + (i - (min (o + 1) cs.length + vs.length)) = o + (vs.length + 1) + (i - (min o cs.length + (vs.length + 1))) := by omega
        rw [if_neg a1, if_neg a3, if_neg a6, a7]
theorem zip_spl : ∀ (vs : List Value) (j off : Nat) (cs : List Value), off + j + vs.length ≤ cs.length →
    (vs.zipIdx j).foldl (fun (a : Array Value) (p : Value × Nat) => a.setIfInBounds (off + p.2) p.1) cs.toArray = (spl cs (off + j) vs).toArray
  | [], j, off, cs, _ => by simp [spl_nil]
  | v :: vs, j, off, cs, h => by
    simp only [List.zipIdx_cons, List.foldl_cons]
    have h1 : cs.toArray.setIfInBounds (off + j) v = (cs.set (off + j) v).toArray := by simp
    rw [h1, zip_spl vs (j + 1) off (cs.set (off + j) v) (by simp at h ⊢; omega), ← Nat.add_assoc, spl_cons (by simpa [Nat.add_assoc] using h)]

def fillL : List Value → List (Nat × List Value) → List Value
  | cs, [] => cs
  | cs, (o, vs) :: r => fillL (spl cs o vs) r
/-- the parts, and where they lie -/
def Parts (pl : Nat → Option (Nat × Nat)) (m : Nat) : List (Nat × Value) → List (Nat × List Value) → Prop
  | [], [] => True
  | (k, v) :: ps, (o, vs) :: qs => cellsOf v = vs ∧ pl k = some (o, vs.length) ∧ Nat.ble (o + vs.length) m = true ∧ Parts pl m ps qs
  | _, _ => False
theorem fill_parts {pl : Nat → Option (Nat × Nat)} : ∀ (ps : List (Nat × Value)) (qs : List (Nat × List Value)) (cs : List Value), Parts pl cs.length ps qs → Instr.fill pl cs.toArray ps = some (fillL cs qs).toArray
  | [], [], cs, _ => rfl
  | (k, v) :: ps, (o, vs) :: qs, cs, h => by
    obtain ⟨h1, h2, h3, h4⟩ := h
    have hle : o + vs.length ≤ cs.length := Nat.le_of_ble_eq_true h3
    have hv : v.cells = vs.toArray := by rw [← h1]; simp [cellsOf]
    have hs : v.cells.size = vs.length := by rw [hv]; simp
    have hz := zip_spl vs 0 o cs (by simpa using hle)
    have hf : (v.cells.zipIdx.foldl (fun cs (p : Value × Nat) => cs.setIfInBounds (o + p.2) p.1) cs.toArray) = (spl cs o vs).toArray := by
      rw [hv]
      rw [← Array.foldl_toList]
      simpa using hz
    have hn : ¬ (v.cells.size ≠ vs.length || decide (o + v.cells.size > cs.toArray.size)) = true := by
      simp [hs]; omega
    simp only [Instr.fill, h2]
    rw [if_neg hn]
    have ih := fill_parts ps qs (spl cs o vs) (by rw [spl_length hle]; exact h4)
    exact (congrArg (fun a => Instr.fill pl a ps) hf).trans ih
  | [], _ :: _, _, h => h.elim
  | _ :: _, [], _, h => h.elim

section
variable {P : Program} {N : Nat} {f : Nat → Value} {w : World} {d : Option Nat} {ty : TypeId} {pos : String} {af : Array Edge} {gd : Option (Nat × Bool)}

/-- where a struct's fields lie, and how many cells each has -/
def Pl (P : Program) (t : TypeId) (pls : List (Nat × Nat)) : Prop :=
  ∃ fs, P.underlying t = some (.struct fs) ∧ ∀ w, (fs.mapM fun fl => (do pure (fl.offset, ← sizeOf fl.type) : Sem (Nat × Nat))).run P w = .ok pls.toArray w
theorem r_build {t : TypeId} {z : Value} {zc : List Value} {parts : List (Nat × Operand)} {ps : List (Nat × Value)} {qs : List (Nat × List Value)} {pls : List (Nat × Nat)} (hz : Zr P t z) (hzc : cellsOf z = zc) (hpl : Pl P t pls)
    (hps : parts.map (fun x => (x.1, ev N f x.2)) = ps) (hp : Parts (fun i => pls[i]?) zc.length ps qs) :
    (execOp (ev N f) ⟨d, .build t parts.toArray, ty, pos, af, gd⟩).run P w = .ok (.value (.agg (fillL zc qs).toArray)) w := by
  subst hps
  obtain ⟨fs, hu, hpl⟩ := hpl
  have e : z.cells = zc.toArray := by rw [← hzc]; simp [cellsOf]
  have hf := fill_parts _ qs zc hp
  simp only [execOp, Instr.build, Sem.run_bind, run_zero hz, Result.andThen_ok, run_underlying hu, hpl, e]
  simp [hf]
theorem r_buildA {t E len n : Nat} {z : Value} {zc : List Value} {parts : List (Nat × Operand)} {ps : List (Nat × Value)} {qs : List (Nat × List Value)} (hz : Zr P t z) (hzc : cellsOf z = zc) (hu : P.underlying t = some (.array len E)) (hs : Sz P E n)
    (hps : parts.map (fun x => (x.1, ev N f x.2)) = ps) (hp : Parts (fun i => some (i * n, n)) zc.length ps qs) :
    (execOp (ev N f) ⟨d, .build t parts.toArray, ty, pos, af, gd⟩).run P w = .ok (.value (.agg (fillL zc qs).toArray)) w := by
  subst hps
  have e : z.cells = zc.toArray := by rw [← hzc]; simp [cellsOf]
  have hf := fill_parts _ qs zc hp
  simp only [execOp, Instr.build, Sem.run_bind, run_zero hz, Result.andThen_ok, run_underlying hu, run_sizeOf hs, e]
  simp [hf]
/-- zeros, so many elements -/
def zeros (zc : List Value) : Nat → List Value
  | 0 => []
  | n + 1 => zc ++ zeros zc n
theorem zeros_length (zc : List Value) (n : Nat) : (zeros zc n).length = n * zc.length := by
  induction n with
  | zero => simp [zeros]
  | succ n ih => simp [zeros, ih, Nat.succ_mul]; omega
theorem zeros_get (zc : List Value) (n i : Nat) (h : i < n * zc.length) : (zeros zc n)[i]? = zc[i % zc.length]? := by
  induction n generalizing i with
  | zero => simp at h
  | succ n ih =>
    simp only [zeros, List.getElem?_append]
    split
    · rename_i h1; rw [Nat.mod_eq_of_lt h1]
    · rename_i h1
      rw [ih _ (by rw [Nat.succ_mul] at h; omega)]
      congr 1
      rw [Nat.mod_eq_sub_mod (by omega : i ≥ zc.length)]
theorem zeros_eq (zc : Array Value) (n : Nat) (h0 : 0 < zc.size) : ((Array.range (n * zc.size)).map (zc[· % zc.size]!)) = (zeros zc.toList n).toArray := by
  apply Array.ext'
  simp only [Array.toList_map, Array.toList_range]
  apply List.ext_getElem?
  intro i
  have hl := zeros_length zc.toList n
  by_cases hi : i < n * zc.size
  · have h1 : i % zc.size < zc.size := Nat.mod_lt _ h0
    rw [List.getElem?_map, List.getElem?_range hi, zeros_get _ _ _ (by simpa using hi)]
    simp [h1]
  · rw [List.getElem?_eq_none (by simp; omega), List.getElem?_eq_none (by rw [hl]; simp; omega)]
theorem run_buildSlice {T E n len : Nat} {z : Value} {zc : List Value} {ps : List (Nat × Value)} {qs : List (Nat × List Value)} (hu : P.underlying T = some (.slice E)) (hs : Sz P E n) (hz : Zr P E z) (hzc : cellsOf z = zc) (hn : zc.length = n) (h0 : 0 < n)
    (hle : Nat.ble (len * n) 16777216 = true) (hp : Parts (fun i => some (i * n, n)) (zeros zc len).length ps qs) :
    (Instr.buildSlice T len ps.toArray).run P w = .ok (.slice (some ⟨w.heap.size, 0, none⟩) len len) (w.alloc (C (fillL (zeros zc len) qs) E)) := by
  have e : z.cells = zc.toArray := by rw [← hzc]; simp [cellsOf]
  have hle' : ¬ len * n > 2 ^ 24 := by have := Nat.le_of_ble_eq_true hle; omega
  have hf := fill_parts _ qs _ hp
  have hzz := zeros_eq zc.toArray len (by simpa [hn] using h0)
  simp only [List.size_toArray, hn] at hzz
  simp only [Instr.buildSlice, Sem.run_bind, run_underlying hu, Result.andThen_ok, run_sizeOf hs, if_neg hle']
  have ha : ∀ g : Nat → Value, (Array.range 0).map g = #[] := fun g => by simp
  by_cases hl : len * n = 0
  · have hl0 : len = 0 := by
      rcases Nat.mul_eq_zero.1 hl with h | h
      · exact h
      · omega
    subst hl0
    simp only [zeros] at hf
    simp only [Nat.zero_mul, if_true, ha, hf]
    simp [newRow, zeros, C]
  · rw [if_neg hl]
    simp only [Sem.run_bind, run_zero hz, Result.andThen_ok, Sem.run_pure, e, List.size_toArray, hn, hzz, hf]
    simp [newRow, C]
theorem r_buildSlice {T E n len : Nat} {z : Value} {zc : List Value} {parts : List (Nat × Operand)} {ps : List (Nat × Value)} {qs : List (Nat × List Value)} (hu : P.underlying T = some (.slice E)) (hs : Sz P E n) (hz : Zr P E z) (hzc : cellsOf z = zc) (hn : zc.length = n) (h0 : 0 < n)
    (hle : Nat.ble (len * n) 16777216 = true) (hps : parts.map (fun x => (x.1, ev N f x.2)) = ps) (hp : Parts (fun i => some (i * n, n)) (zeros zc len).length ps qs) :
    (execOp (ev N f) ⟨d, .buildSlice T len parts.toArray, ty, pos, af, gd⟩).run P w = .ok (.value (.slice (some ⟨w.heap.size, 0, none⟩) len len)) (w.alloc (C (fillL (zeros zc len) qs) E)) := by
  subst hps
  have h := run_buildSlice (P := P) (w := w) hu hs hz hzc hn h0 hle hp
  have e : (parts.toArray.map fun x => (x.1, ev N f x.2)) = (parts.map fun x => (x.1, ev N f x.2)).toArray := by simp
  simp only [execOp]
  have e' : (parts.toArray.map fun (i, x) => (i, ev N f x)) = (parts.map fun x => (x.1, ev N f x.2)).toArray := e
  rw [e']
  simp [h]
end

theorem q64 {i j : Int} (h0 : 0 ≤ i) (h1 : i ≤ 9223372036854775807) (hj : 0 < j) : IntKind.i64.wrap (i.tdiv j) = i / j := by
  rw [Int.tdiv_eq_ediv_of_nonneg h0]
  have h2 : 0 ≤ i / j := Int.ediv_nonneg h0 (by omega)
  have h3 : i / j ≤ i := Int.ediv_le_self _ h0
  exact w64 (by omega) (by omega)
theorem n64 {i : Int} (h0 : -9223372036854775807 ≤ i) (h1 : i ≤ 9223372036854775807) : IntKind.i64.wrap (0 - i) = -i := by
  rw [IntKind.wrap_i64]; omega

section
variable {ks S0 : List Nat} {w0 w : World} {L : List Seg} {G : List (World → Prop)}
variable {P : Program} {N : Nat} {f : Nat → Value} {ty : TypeId} {pos : String} {af : Array Edge} {Q : Exit → Act → World → Prop} {ops : Array Oper} {rest : List Oper}
theorem a_buildSlice {d T E n len : Nat} {z : Value} {zc : List Value} {parts : List (Nat × Operand)} {ps : List (Nat × Value)} {qs : List (Nat × List Value)} (hu : P.underlying T = some (.slice E)) (hs : Sz P E n) (hz : Zr P E z) (hzc : cellsOf z = zc) (hn : zc.length = n) (h0 : 0 < n)
    (hle : Nat.ble (len * n) 16777216 = true) (hps : parts.map (fun x => (x.1, ev N f x.2)) = ps) (hp : Parts (fun i => some (i * n, n)) (zeros zc len).length ps qs) (M : St ks S0 w0 w L G)
    (h : ∀ b w', St ks S0 w0 w' (L ++ [[(b, C (fillL (zeros zc len) qs) E)]]) G → wpList P ops Q rest (Fr N (upd f d (.slice (some ⟨b, 0, none⟩) len len))) w') :
    wpList P ops Q (⟨some d, .buildSlice T len parts.toArray, ty, pos, af, none⟩ :: rest) (Fr N f) w :=
  s_val (r_buildSlice hu hs hz hzc hn h0 hle hps hp) (h _ _ (M.alloc _))
theorem s_unguard {d : Option Nat} {op : Op} {j : Nat} {want b : Bool} (hy : yielded ops (Fr N f).tmps j = some b) (hb : (b == want) = true)
    (h : wpList P ops Q (⟨d, op, ty, pos, af, none⟩ :: rest) (Fr N f) w) : wpList P ops Q (⟨d, op, ty, pos, af, some (j, want)⟩ :: rest) (Fr N f) w := by
  have h1 : Region.wanted ⟨d, op, ty, pos, af, some (j, want)⟩ (yielded ops (Fr N f).tmps) = true := by
    simp only [Region.wanted, hy]; cases b <;> cases want <;> simp_all
  unfold wpList at h ⊢
  rw [if_pos h1]
  rw [if_pos (by rfl)] at h
  exact h
end

section
variable {P : Program} {N : Nat} {l : List Oper} {ks S0 : List Nat} {w0 : World} {Lq : List Seg} {Gq : List (World → Prop)} {Qf : (Nat → Value) → World → Prop}
variable {σ : List (Kd × Nat)} {f : Nat → Value} {L : List Seg} {G : List (World → Prop)}
variable {i : Nat} {ty : TypeId} {pos : String} {af : Array Edge} {gd : Option (Nat × Bool)}
theorem w_alloc {d : Nat} {T : TypeId} {z : Value} {cs : List Value} (ho : l[i]? = some ⟨some d, .alloc T, ty, pos, af, gd⟩) (hw : Wt N l f ⟨some d, .alloc T, ty, pos, af, gd⟩ = true) (hz : Zr P T z) (hc : cellsOf z = cs)
    (h : ∀ b, RW P N l ks S0 w0 (Cst ks S0 w0 Lq Gq) Qf σ (upd f d (.pointer (some ⟨b, 0, none⟩))) (L ++ [[(b, C cs T)]]) G) : RW P N l ks S0 w0 (Cst ks S0 w0 Lq Gq) Qf ((.fl, i) :: σ) f L G := by
  have e : z.cells = cs.toArray := by rw [← hc]; simp [cellsOf]
  exact w_new (mk := fun b => .pointer (some ⟨b, 0, none⟩)) (obj := C cs T) ho hw (fun w => by rw [r_alloc hz, e]; rfl) h
theorem w_box {d : Nat} {T : TypeId} {x : Operand} {v : Value} {cs : List Value} (ho : l[i]? = some ⟨some d, .box T x, ty, pos, af, gd⟩) (hw : Wt N l f ⟨some d, .box T x, ty, pos, af, gd⟩ = true) (hx : ev N f x = v) (hc : cellsOf v = cs)
    (h : ∀ b, RW P N l ks S0 w0 (Cst ks S0 w0 Lq Gq) Qf σ (upd f d (.pointer (some ⟨b, 0, none⟩))) (L ++ [[(b, C cs T)]]) G) : RW P N l ks S0 w0 (Cst ks S0 w0 Lq Gq) Qf ((.fl, i) :: σ) f L G := by
  have e : v.cells = cs.toArray := by rw [← hc]; simp [cellsOf]
  exact w_new (mk := fun b => .pointer (some ⟨b, 0, none⟩)) (obj := C cs T) ho hw (fun w => by rw [r_box hx, e]; rfl) h
theorem w_buildSlice {d T E n len : Nat} {z : Value} {zc : List Value} {parts : List (Nat × Operand)} {ps : List (Nat × Value)} {qs : List (Nat × List Value)} (ho : l[i]? = some ⟨some d, .buildSlice T len parts.toArray, ty, pos, af, gd⟩) (hw : Wt N l f ⟨some d, .buildSlice T len parts.toArray, ty, pos, af, gd⟩ = true)
    (hu : P.underlying T = some (.slice E)) (hs : Sz P E n) (hz : Zr P E z) (hzc : cellsOf z = zc) (hn : zc.length = n) (h0 : 0 < n)
    (hle : Nat.ble (len * n) 16777216 = true) (hps : parts.map (fun x => (x.1, ev N f x.2)) = ps) (hp : Parts (fun i => some (i * n, n)) (zeros zc len).length ps qs)
    (h : ∀ b, RW P N l ks S0 w0 (Cst ks S0 w0 Lq Gq) Qf σ (upd f d (.slice (some ⟨b, 0, none⟩) len len)) (L ++ [[(b, C (fillL (zeros zc len) qs) E)]]) G) : RW P N l ks S0 w0 (Cst ks S0 w0 Lq Gq) Qf ((.fl, i) :: σ) f L G :=
  w_new (mk := fun b => .slice (some ⟨b, 0, none⟩) len len) (obj := C (fillL (zeros zc len) qs) E) ho hw (fun _ => r_buildSlice hu hs hz hzc hn h0 hle hps hp) h
theorem w_split {b : Bool} (t : Nat) (hv : ev N f (.tmp t) = .bool b) (h1 : b = true → RW P N l ks S0 w0 (Cst ks S0 w0 Lq Gq) Qf σ (upd f t (.bool true)) L G) (h2 : b = false → RW P N l ks S0 w0 (Cst ks S0 w0 Lq Gq) Qf σ (upd f t (.bool false)) L G) :
    RW P N l ks S0 w0 (Cst ks S0 w0 Lq Gq) Qf σ f L G := by
  have e := upd_same hv
  cases b with
  | true => rw [← e]; exact h1 rfl
  | false => rw [← e]; exact h2 rfl
theorem w_splitD {p : Prop} [Decidable p] (t : Nat) (hv : ev N f (.tmp t) = .bool (decide p)) (h1 : p → RW P N l ks S0 w0 (Cst ks S0 w0 Lq Gq) Qf σ (upd f t (.bool true)) L G) (h2 : ¬ p → RW P N l ks S0 w0 (Cst ks S0 w0 Lq Gq) Qf σ (upd f t (.bool false)) L G) :
    RW P N l ks S0 w0 (Cst ks S0 w0 Lq Gq) Qf σ f L G := w_split t hv (fun h => h1 (of_decide_eq_true h)) (fun h => h2 (of_decide_eq_false h))
theorem w_splitN {p : Prop} [Decidable p] (t : Nat) (hv : ev N f (.tmp t) = .bool (!decide p)) (h1 : ¬ p → RW P N l ks S0 w0 (Cst ks S0 w0 Lq Gq) Qf σ (upd f t (.bool true)) L G) (h2 : p → RW P N l ks S0 w0 (Cst ks S0 w0 Lq Gq) Qf σ (upd f t (.bool false)) L G) :
    RW P N l ks S0 w0 (Cst ks S0 w0 Lq Gq) Qf σ f L G := w_split t hv (fun h => h1 (by simpa using h)) (fun h => h2 (by simpa using h))
end
end Go.Az
