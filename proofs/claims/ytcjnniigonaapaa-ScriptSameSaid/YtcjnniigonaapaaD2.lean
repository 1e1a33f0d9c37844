/-
  PLAIN 2: readers; what is checked.
-/
import Derived.Test.YtcjnniigonaapaaD1
namespace Go.Az
/-! readers -/
structure Rd where
  b : List Int
  at_ : Nat
  err : Int
def zagN (u : Int) : Int := if u % 2 = 0 then u / 2 else -(u / 2) - 1
def Rd.left (r : Rd) : Int := if r.err = 0 then r.b.length - r.at_ else 0
def Rd.fail (r : Rd) (e : Int) : Rd := if r.err = 0 then ⟨r.b, r.at_, e⟩ else r
def Rd.byte (r : Rd) : Int × Rd := if r.left = 0 then (0, r.fail 3) else (r.b.getD r.at_ 0, ⟨r.b, r.at_ + 1, r.err⟩)
def Rd.longR (sh : Nat) (r : Rd) : Rd := if (sh = 63 ∧ r.byte.1 > 1) ∨ (sh > 0 ∧ r.byte.1 = 0) then r.byte.2.fail 4 else r.byte.2
def longGo : Nat → Nat → Int → Rd → Int × Rd
  | 0, _, _, r => (0, r)
  | f + 1, sh, n, r => if (r.longR sh).err ≠ 0 then (0, r.longR sh) else if r.byte.1 < 128 then (n + r.byte.1 % 128 * 2 ^ sh, r.longR sh) else longGo f (sh + 7) (n + r.byte.1 % 128 * 2 ^ sh) (r.longR sh)
def Rd.long (r : Rd) : Int × Rd := longGo 10 0 0 r
def Rd.count (r : Rd) (most : Int) : Int × Rd := if r.long.1 > max most 0 then (0, r.long.2.fail 7) else (r.long.1, r.long.2)
def Rd.int (r : Rd) : Int × Rd := (zagN r.long.1, r.long.2)
def Rd.within1 (r : Rd) (a b : Int) : Rd := if r.int.2.err = 0 ∧ (r.int.1 < a ∨ r.int.1 > b) then r.int.2.fail 2 else r.int.2
def Rd.within (r : Rd) (a b : Int) : Int × Rd := (if (r.within1 a b).err ≠ 0 then 0 else r.int.1, r.within1 a b)
def Rd.bytes (r : Rd) (n : Nat) : List Int × Rd := if n > r.left then ([], r.fail 3) else if n = 0 then ([], r) else ((r.b.drop r.at_).take n, ⟨r.b, r.at_ + n, r.err⟩)
def Rd.fin (r : Rd) : Int := if r.err = 0 ∧ r.at_ < r.b.length then 15 else r.err
def readB (l : List Int) : Rd := ⟨l, 0, 0⟩
structure Rd.ok (r : Rd) : Prop where
  at_ : r.at_ ≤ r.b.length
  by8 : ∀ x ∈ r.b, 0 ≤ x ∧ x < 256
  len : r.b.length ≤ 1000000
theorem Rd.ok.fail {r : Rd} (h : r.ok) (e : Int) : (r.fail e).ok := by 
  unfold Rd.fail
  split
  · exact ⟨h.at_, h.by8, h.len⟩
  · exact h
theorem Rd.byte_range {r : Rd} (h : r.ok) : 0 ≤ r.byte.1 ∧ r.byte.1 ≤ 255 := by
  unfold Rd.byte
  split
  · simp
  · simp only [List.getD_eq_getElem?_getD]
    cases e : r.b[r.at_]? with
    | none => simp
    | some x =>
      have := h.by8 x (List.mem_of_getElem? e)
      simp only [Option.getD_some]; omega
theorem Rd.left_pos {r : Rd} (h : ¬ r.left = 0) : r.err = 0 ∧ r.left = r.b.length - r.at_ := by
  unfold Rd.left at h ⊢
  split
  · rename_i h1; exact ⟨h1, rfl⟩
  · rename_i h1; rw [if_neg h1] at h; exact absurd rfl h
theorem Rd.ok.byte {r : Rd} (h : r.ok) : r.byte.2.ok := by
  unfold Rd.byte
  split
  · exact h.fail 3
  · rename_i h1
    obtain ⟨h2, h3⟩ := Rd.left_pos h1
    have := h.at_
    exact ⟨by simp only []; omega, h.by8, h.len⟩
theorem Rd.ok.longR {r : Rd} (h : r.ok) (sh : Nat) : (r.longR sh).ok := by
  unfold Rd.longR
  split
  · exact h.byte.fail 4
  · exact h.byte
theorem Rd.ok.longGo : ∀ {f sh : Nat} {n : Int} {r : Rd}, r.ok → (Az.longGo f sh n r).2.ok
  | 0, _, _, _, h => h
  | f + 1, sh, n, r, h => by
    unfold Az.longGo
    split
    · exact h.longR sh
    · split
      · exact h.longR sh
      · exact Rd.ok.longGo (h.longR sh)
theorem Rd.ok.long {r : Rd} (h : r.ok) : r.long.2.ok := Rd.ok.longGo h
theorem Rd.ok.count {r : Rd} (h : r.ok) (m : Int) : (r.count m).2.ok := by 
  unfold Rd.count
  split
  · exact h.long.fail 7
  · exact h.long
theorem Rd.ok.int {r : Rd} (h : r.ok) : r.int.2.ok := h.long
theorem Rd.ok.within1 {r : Rd} (h : r.ok) (a b : Int) : (r.within1 a b).ok := by 
  unfold Rd.within1
  split
  · exact h.int.fail 2
  · exact h.int
theorem Rd.ok.within {r : Rd} (h : r.ok) (a b : Int) : (r.within a b).2.ok := h.within1 a b
theorem Rd.ok.bytes {r : Rd} (h : r.ok) (n : Nat) : (r.bytes n).2.ok := by
  unfold Rd.bytes
  split
  · exact h.fail 3
  · split
    · exact h
    · rename_i h1 h2
      have hl : ¬ r.left = 0 := by omega
      obtain ⟨h3, h4⟩ := Rd.left_pos hl
      have := h.at_
      exact ⟨by simp only []; omega, h.by8, h.len⟩
theorem Rd.left_range {r : Rd} (h : r.ok) : 0 ≤ r.left ∧ r.left ≤ 1000000 := by
  have h1 := h.at_
  have h2 := h.len
  unfold Rd.left; split <;> omega
theorem longGo_range : ∀ (f sh : Nat) (n : Int) (r : Rd), r.ok → f * 7 + sh = 70 → 0 ≤ n → n < 2 ^ sh → 0 ≤ (longGo f sh n r).1 ∧ (longGo f sh n r).1 < 18446744073709551616
  | 0, _, _, _, _, _, _, _ => by simp [longGo]
  | f + 1, sh, n, r, h, hf, h0, h1 => by
    have hb := Rd.byte_range h
    have hp : (0 : Int) < 2 ^ sh := Int.pow_pos (by decide)
    have hm : r.byte.1 % 128 ≤ 127 ∧ 0 ≤ r.byte.1 % 128 := by omega
    have e7 : (2 : Int) ^ (sh + 7) = 2 ^ sh * 128 := by rw [Int.pow_add]; rfl
    have hmul : r.byte.1 % 128 * 2 ^ sh ≤ 127 * 2 ^ sh := Int.mul_le_mul_of_nonneg_right hm.1 (Int.le_of_lt hp)
    have hmul0 : 0 ≤ r.byte.1 % 128 * 2 ^ sh := Int.mul_nonneg hm.2 (Int.le_of_lt hp)
    have hlt : n + r.byte.1 % 128 * 2 ^ sh < 2 ^ (sh + 7) := by rw [e7]; omega
    unfold longGo
    by_cases he : (r.longR sh).err ≠ 0
    · rw [if_pos he]; simp
    · rw [if_neg he]
      by_cases hb128 : r.byte.1 < 128
      · rw [if_pos hb128]
        refine ⟨by show 0 ≤ n + r.byte.1 % 128 * 2 ^ sh; omega, ?_⟩
        show n + r.byte.1 % 128 * 2 ^ sh < 18446744073709551616
        rcases Nat.lt_or_ge sh 63 with hs | hs
        · have h63 : (2 : Nat) ^ (sh + 7) ≤ 2 ^ 63 := Nat.pow_le_pow_right (by decide) (by omega)
          have : (2 : Int) ^ (sh + 7) ≤ 9223372036854775808 := by
            have h2 : ((2 ^ (sh + 7) : Nat) : Int) ≤ ((2 ^ 63 : Nat) : Int) := Int.ofNat_le.2 h63
            rw [Int.natCast_pow] at h2
            exact h2
          omega
        · obtain rfl : sh = 63 := by omega
          have hsm : ¬ r.byte.1 > 1 := by
            intro hgt
            apply he
            unfold Rd.longR
            rw [if_pos (Or.inl ⟨rfl, hgt⟩)]
            unfold Rd.fail
            split
            · exact (by decide : (4 : Int) ≠ 0)
            · assumption
          have e63 : (2 : Int) ^ 63 = 9223372036854775808 := by decide
          rw [e63] at h1 ⊢
          omega
      · rw [if_neg hb128]
        exact longGo_range f (sh + 7) _ _ (h.longR sh) (by omega) (by omega) hlt
theorem Rd.long_range {r : Rd} (h : r.ok) : 0 ≤ r.long.1 ∧ r.long.1 < 18446744073709551616 := longGo_range 10 0 0 r h rfl (by decide) (by decide)
theorem Rd.count_range {r : Rd} (h : r.ok) (m : Int) : 0 ≤ (r.count m).1 ∧ (r.count m).1 ≤ max m 0 := by
  have := Rd.long_range h
  unfold Rd.count; split
  · simp only []; omega
  · simp only []; omega
theorem Rd.int_range {r : Rd} (h : r.ok) : -9223372036854775808 ≤ r.int.1 ∧ r.int.1 ≤ 9223372036854775807 := by
  have := Rd.long_range h
  simp only [Rd.int, zagN]; split <;> omega
theorem Rd.within_range {r : Rd} (h : r.ok) {a b : Int} (ha : a ≤ 0) (hb : 0 ≤ b) : a ≤ (r.within a b).1 ∧ (r.within a b).1 ≤ b := by
  simp only [Rd.within]
  split
  · omega
  · rename_i he
    have he0 : (r.within1 a b).err = 0 := by omega
    unfold Rd.within1 at he0
    split at he0
    · rename_i hc
      unfold Rd.fail at he0
      rw [if_pos hc.1] at he0
      simp at he0
    · rename_i hc
      have : r.int.2.err = 0 := he0
      omega
theorem Rd.bytes_len {r : Rd} (h : r.ok) (n : Nat) : (r.bytes n).1.length = 0 ∨ (r.bytes n).1.length = n := by
  unfold Rd.bytes
  split
  · left; rfl
  · split
    · left; rfl
    · rename_i h1 h2
      have hl : ¬ r.left = 0 := by omega
      obtain ⟨h3, h4⟩ := Rd.left_pos hl
      have := h.at_
      right; simp; omega
theorem Rd.bytes_by8 {r : Rd} (h : r.ok) (n : Nat) : ∀ x ∈ (r.bytes n).1, 0 ≤ x ∧ x < 256 := by
  unfold Rd.bytes
  split
  · simp
  · split
    · simp
    · intro x hx
      exact h.by8 x (List.mem_of_mem_drop (List.mem_of_mem_take hx))

/-! what is checked -/
def firstE {α : Type} (f : α → Int) : List α → Int
  | [] => 0
  | x :: r => if f x ≠ 0 then f x else firstE f r
theorem firstE_step {α : Type} {f : α → Int} {l : List α} {k : Nat} {x : α} (hx : l[k]? = some x) : firstE f (l.drop k) = if f x ≠ 0 then f x else firstE f (l.drop (k + 1)) := by
  have hlt := (List.getElem?_eq_some_iff.1 hx).1
  have he := (List.getElem?_eq_some_iff.1 hx).2
  rw [List.drop_eq_getElem_cons hlt, he]; rfl
theorem firstE_done {α : Type} {f : α → Int} {l : List α} {k : Nat} (hk : l.length ≤ k) : firstE f (l.drop k) = 0 := by
  rw [List.drop_of_length_le hk]; rfl
def sttCheck (s : Stt) : Int :=
  if s.depth ≥ 8 ∨ s.stencil ≥ 8 ∨ s.fail ≥ 6 ∨ s.hidden ≥ 6 ∨ s.pass ≥ 6 ∨ s.blend ≥ 4 ∨ s.cull ≥ 3 ∨ s.channels > 15 then 13 else
  if s.x0 < 0 ∨ s.x0 > s.x1 ∨ s.x1 > 64 ∨ s.y0 < 0 ∨ s.y0 > s.y1 ∨ s.y1 > 64 then 2 else 0
def meshCheck (k : Int) (l : List Int) (nv : Int) : Int :=
  if k ≥ 3 then 5 else if l.length > 96 then 7 else if (k = 0 ∧ l.length % 3 ≠ 0) ∨ (k ≠ 0 ∧ (l.length = 1 ∨ l.length = 2)) then 6 else
  firstE (fun n => if n < 0 ∨ n ≥ nv then 14 else 0) l
def drwCheck (nv ns np : Nat) (d : Drw) : Int :=
  if sttCheck d.st ≠ 0 then sttCheck d.st else
  if d.clears = true then (if d.cdepth < 0 ∨ d.cdepth > 65535 ∨ d.wanted > 7 then 2 else 0) else
  if d.vertex < 0 ∨ d.vertex ≥ ns ∨ d.fragment < 0 ∨ d.fragment ≥ np then 9 else meshCheck d.kind d.indices nv
def vtxCheck (v : Vtx) : Int := if v.place ≠ v.place.within 4194304 ∨ v.colour ≠ v.colour.within 4194304 then 2 else 0
def rowCheck (v : V4) : Int := if v ≠ v.within 2147483647 then 2 else 0
def orE (a b : Int) : Int := if a ≠ 0 then a else b
def scrCheck (x : Scr) : Int :=
  if x.w < 1 ∨ x.w > 64 ∨ x.h < 1 ∨ x.h > 64 then 6 else
  if x.vs.length > 64 ∨ x.ss.length > 4 ∨ x.ps.length > 4 ∨ x.ds.length > 32 then 7 else
  orE (firstE rowCheck [x.m0, x.m1, x.m2, x.m3]) (orE (firstE vtxCheck x.vs) (orE (firstE (progCheck · false) x.ss) (orE (firstE (progCheck · true) x.ps) (firstE (drwCheck x.vs.length x.ss.length x.ps.length) x.ds))))
end Go.Az
