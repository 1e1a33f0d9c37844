/-
  PLAIN 3: what is taken from readers.
-/
import Derived.Test.YtcjnniigonaapaaD2
namespace Go.Az
def bAt (l : List Int) (i : Nat) : Int := l.getD i 0
def zeroStt : Stt := ⟨0, false, 0, 0, 0, 0, 0, 0, 0, 0, 0, 0, 0, 0, 0⟩
def sttRaw (l : List Int) : Stt := ⟨bAt l 0, decide (bAt l 1 = 1), bAt l 2, bAt l 3, bAt l 4, bAt l 5, bAt l 6, bAt l 7, bAt l 8, bAt l 9, bAt l 10, bAt l 11, bAt l 12, bAt l 13, bAt l 14⟩
def sttTk1 (l : List Int) (r : Rd) : Rd := if r.err = 0 then (if bAt l 1 > 1 then r.fail 4 else if sttCheck (sttRaw l) ≠ 0 then r.fail (sttCheck (sttRaw l)) else r) else r
def sttTk (r : Rd) : Stt × Rd := (if (sttTk1 (r.bytes 15).1 (r.bytes 15).2).err ≠ 0 then zeroStt else sttRaw (r.bytes 15).1, sttTk1 (r.bytes 15).1 (r.bytes 15).2)
def insTkR (r : Rd) : Rd := r.byte.2.byte.2.byte.2.byte.2
def insTk (r : Rd) : Ins × Rd := (⟨r.byte.1, r.byte.2.byte.1, r.byte.2.byte.2.byte.1, r.byte.2.byte.2.byte.2.byte.1, ((insTkR r).within (-32768) 32767).1⟩, ((insTkR r).within (-32768) 32767).2)
def progTkGo : Nat → Prog → Rd → Prog × Rd
  | 0, p, r => (p, r)
  | n + 1, p, r => if r.err ≠ 0 then (p, r) else progTkGo n (p ++ [(insTk r).1]) (insTk r).2
def progTk1 (p : Prog) (d : Bool) (r : Rd) : Rd := if r.err = 0 ∧ progCheck p d ≠ 0 then r.fail (progCheck p d) else r
def progTk0 (r : Rd) : Prog × Rd := progTkGo (r.count 24).1.toNat [] (r.count 24).2
def progTk (r : Rd) (d : Bool) : Prog × Rd := (if (progTk1 (progTk0 r).1 d (progTk0 r).2).err ≠ 0 then [] else (progTk0 r).1, progTk1 (progTk0 r).1 d (progTk0 r).2)
def idxGo : Nat → List Int → Rd → List Int × Rd
  | 0, l, r => (l, r)
  | n + 1, l, r => idxGo n (l ++ [(r.count 63).1]) (r.count 63).2
def drwTk (r : Rd) : Drw × Rd :=
  if (sttTk r).2.byte.1 = 3 then
    (⟨(sttTk r).1, true, bAt ((sttTk r).2.byte.2.bytes 6).1 0, bAt ((sttTk r).2.byte.2.bytes 6).1 1, bAt ((sttTk r).2.byte.2.bytes 6).1 2, bAt ((sttTk r).2.byte.2.bytes 6).1 3, (((sttTk r).2.byte.2.bytes 6).2.count 65535).1, bAt ((sttTk r).2.byte.2.bytes 6).1 4, bAt ((sttTk r).2.byte.2.bytes 6).1 5, 0, 0, 0, []⟩,
      (((sttTk r).2.byte.2.bytes 6).2.count 65535).2)
  else
    (⟨(sttTk r).1, false, 0, 0, 0, 0, 0, 0, 0, ((sttTk r).2.byte.2.count 3).1, (((sttTk r).2.byte.2.count 3).2.count 3).1, (sttTk r).2.byte.1,
      (idxGo ((((sttTk r).2.byte.2.count 3).2.count 3).2.count 96).1.toNat [] ((((sttTk r).2.byte.2.count 3).2.count 3).2.count 96).2).1⟩,
      (idxGo ((((sttTk r).2.byte.2.count 3).2.count 3).2.count 96).1.toNat [] ((((sttTk r).2.byte.2.count 3).2.count 3).2.count 96).2).2)
def vecTk (r : Rd) (m : Int) : V4 × Rd :=
  (⟨(r.within (-m) m).1, ((r.within (-m) m).2.within (-m) m).1, (((r.within (-m) m).2.within (-m) m).2.within (-m) m).1, ((((r.within (-m) m).2.within (-m) m).2.within (-m) m).2.within (-m) m).1⟩, ((((r.within (-m) m).2.within (-m) m).2.within (-m) m).2.within (-m) m).2)
def vtxGo : Nat → List Vtx → Rd → List Vtx × Rd
  | 0, l, r => (l, r)
  | n + 1, l, r => vtxGo n (l ++ [⟨(vecTk r 4194304).1, (vecTk (vecTk r 4194304).2 4194304).1⟩]) (vecTk (vecTk r 4194304).2 4194304).2
def progsGo (d : Bool) : Nat → List Prog → Rd → List Prog × Rd
  | 0, l, r => (l, r)
  | n + 1, l, r => progsGo d n (l ++ [(progTk r d).1]) (progTk r d).2
def drwGo : Nat → List Drw → Rd → List Drw × Rd
  | 0, l, r => (l, r)
  | n + 1, l, r => drwGo n (l ++ [(drwTk r).1]) (drwTk r).2
def zeroScr : Scr := ⟨0, 0, ⟨0, 0, 0, 0⟩, ⟨0, 0, 0, 0⟩, ⟨0, 0, 0, 0⟩, ⟨0, 0, 0, 0⟩, [], [], [], []⟩
structure Mt where
  m0 : V4
  m1 : V4
  m2 : V4
  m3 : V4
/-- the head: sizes, the matrix; then the lists -/
def hdTk (r : Rd) : (Int × Int) × Rd := (((r.count 64).1, ((r.count 64).2.count 64).1), ((r.count 64).2.count 64).2)
def mtTk (r : Rd) : Mt × Rd :=
  (⟨(vecTk r 2147483647).1, (vecTk (vecTk r 2147483647).2 2147483647).1, (vecTk (vecTk (vecTk r 2147483647).2 2147483647).2 2147483647).1, (vecTk (vecTk (vecTk (vecTk r 2147483647).2 2147483647).2 2147483647).2 2147483647).1⟩,
    (vecTk (vecTk (vecTk (vecTk r 2147483647).2 2147483647).2 2147483647).2 2147483647).2)
def vsTk (r : Rd) : List Vtx × Rd := vtxGo (r.count 64).1.toNat [] (r.count 64).2
def psTk (d : Bool) (r : Rd) : List Prog × Rd := progsGo d (r.count 4).1.toNat [] (r.count 4).2
def dsTk (r : Rd) : List Drw × Rd := drwGo (r.count 32).1.toNat [] (r.count 32).2
def rawTk (r : Rd) : Scr × Rd :=
  (⟨(hdTk r).1.1, (hdTk r).1.2, (mtTk (hdTk r).2).1.m0, (mtTk (hdTk r).2).1.m1, (mtTk (hdTk r).2).1.m2, (mtTk (hdTk r).2).1.m3,
    (vsTk (mtTk (hdTk r).2).2).1, (psTk false (vsTk (mtTk (hdTk r).2).2).2).1, (psTk true (psTk false (vsTk (mtTk (hdTk r).2).2).2).2).1, (dsTk (psTk true (psTk false (vsTk (mtTk (hdTk r).2).2).2).2).2).1⟩,
    (dsTk (psTk true (psTk false (vsTk (mtTk (hdTk r).2).2).2).2).2).2)
def scrTk (l : List Int) : Scr × Int :=
  if l.length > 20000 then (zeroScr, 6) else
  if ((readB l).bytes 2).1 ≠ [65, 90] then (zeroScr, 4) else
  if (rawTk ((readB l).bytes 2).2).2.fin ≠ 0 then (zeroScr, (rawTk ((readB l).bytes 2).2).2.fin) else
  if scrCheck (rawTk ((readB l).bytes 2).2).1 ≠ 0 then (zeroScr, scrCheck (rawTk ((readB l).bytes 2).2).1) else ((rawTk ((readB l).bytes 2).2).1, 0)

theorem bAt_range {l : List Int} (h : ∀ x ∈ l, 0 ≤ x ∧ x < 256) (i : Nat) : 0 ≤ bAt l i ∧ bAt l i ≤ 255 := by
  unfold bAt
  rw [List.getD_eq_getElem?_getD]
  cases e : l[i]? with
  | none => simp
  | some x =>
    have := h x (List.mem_of_getElem? e)
    simp only [Option.getD_some]; omega
theorem sttTk_ok {r : Rd} (h : r.ok) : (sttTk r).2.ok := by
  have hb := h.bytes 15
  show (sttTk1 (r.bytes 15).1 (r.bytes 15).2).ok
  unfold sttTk1
  split
  · split
    · exact hb.fail 4
    · split
      · exact hb.fail _
      · exact hb
  · exact hb
theorem Rd.ok.insTk {r : Rd} (h : r.ok) : (insTk r).2.ok := Rd.ok.within (r := insTkR r) h.byte.byte.byte.byte (-32768) 32767
theorem insTk_wf {r : Rd} (h : r.ok) : (insTk r).1.wf := by
  have b0 := Rd.byte_range h
  have b1 := Rd.byte_range h.byte
  have b2 := Rd.byte_range h.byte.byte
  have b3 := Rd.byte_range h.byte.byte.byte
  have b4 := Rd.within_range (r := insTkR r) h.byte.byte.byte.byte (a := -32768) (b := 32767) (by decide) (by decide)
  exact ⟨b0, b1, b2, b3, b4.1, b4.2⟩
theorem progTkGo_wf : ∀ {n : Nat} {p : Prog} {r : Rd}, r.ok → p.wf → (progTkGo n p r).1.wf ∧ (progTkGo n p r).1.length ≤ p.length + n
  | 0, p, r, _, hp => ⟨hp, Nat.le_refl _⟩
  | n + 1, p, r, h, hp => by
    unfold progTkGo
    split
    · exact ⟨hp, Nat.le_add_right _ _⟩
    · have := progTkGo_wf (n := n) (p := p ++ [(insTk r).1]) h.insTk (fun x hx => by
        rcases List.mem_append.1 hx with e | e
        · exact hp x e
        · rw [List.mem_singleton.1 e]; exact insTk_wf h)
      refine ⟨this.1, ?_⟩
      have h2 := this.2
      simp at h2; omega
theorem progTk_wf {r : Rd} (h : r.ok) (d : Bool) : (progTk r d).1.wf ∧ (progTk r d).1.length ≤ 24 := by
  have hc := Rd.count_range h 24
  have := progTkGo_wf (n := (r.count 24).1.toNat) (p := []) (r := (r.count 24).2) (h.count 24) (fun _ hx => nomatch hx)
  unfold progTk
  simp only []
  split
  · exact ⟨(fun _ hx => nomatch hx), Nat.zero_le _⟩
  · refine ⟨this.1, ?_⟩
    have h2 := this.2
    simp at h2
    have e : progTk0 r = progTkGo (r.count 24).1.toNat [] (r.count 24).2 := rfl
    rw [e]; omega
theorem idxGo_len : ∀ {n : Nat} {l : List Int} {r : Rd}, (idxGo n l r).1.length = l.length + n
  | 0, _, _ => rfl
  | n + 1, l, r => by rw [idxGo, idxGo_len]; simp; omega
theorem drwTk_idx {r : Rd} (h : (((sttTk r).2.byte.2.count 3).2.count 3).2.ok) : (drwTk r).1.indices.length ≤ 96 := by
  have hc := Rd.count_range h 96
  unfold drwTk
  split
  · exact Nat.zero_le _
  · simp only [idxGo_len, List.length_nil]; omega
end Go.Az
