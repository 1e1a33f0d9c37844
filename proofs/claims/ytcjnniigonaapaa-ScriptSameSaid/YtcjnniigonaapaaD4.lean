/-
  PLAIN 4: a script's bytes tell the script.
-/
import Derived.Test.YtcjnniigonaapaaD3
namespace Go.Az
/-- a code whose words none begins another one -/
def Pf {α : Type} (q : α → Prop) (B : α → List Int) : Prop := ∀ x y s t, q x → q y → B x ++ s = B y ++ t → x = y ∧ s = t
theorem cnt_pf : ∀ (n m : Nat) (s t : List Int), cnt n ++ s = cnt m ++ t → n = m ∧ s = t := by
  intro n
  induction n using Nat.strongRecOn with
  | _ n ih =>
    intro m s t h
    by_cases hn : n < 128
    · by_cases hm : m < 128
      · rw [cnt_lt hn, cnt_lt hm] at h
        simp at h
        exact ⟨by omega, h.2⟩
      · rw [cnt_lt hn, cnt_ge hm] at h
        simp at h; omega
    · by_cases hm : m < 128
      · rw [cnt_ge hn, cnt_lt hm] at h
        simp at h; omega
      · rw [cnt_ge hn, cnt_ge hm] at h
        simp only [List.cons_append, List.cons.injEq] at h
        obtain ⟨h1, h2⟩ := ih (n / 128) (by omega) (m / 128) s t h.2
        exact ⟨by omega, h2⟩
def i64r (n : Int) : Prop := -9223372036854775808 ≤ n ∧ n ≤ 9223372036854775807
theorem int_pf : Pf i64r intB := fun x y s t hx hy h => by
  obtain ⟨h1, h2⟩ := cnt_pf _ _ _ _ h
  unfold i64r at hx hy
  refine ⟨?_, h2⟩
  unfold zigN at h1
  split at h1 <;> split at h1 <;> omega
theorem cntI_pf : Pf (fun n : Int => 0 ≤ n ∧ n < 18446744073709551616) cntI := fun x y s t hx hy h => by
  obtain ⟨h1, h2⟩ := cnt_pf _ _ _ _ h
  exact ⟨by omega, h2⟩
theorem one_pf : Pf (fun _ : Int => True) (fun x => [x]) := fun x y s t _ _ h => by simpa using h
theorem num_pf : Pf V4.wf numB := fun x y s t hx hy h => by
  simp only [numB, List.append_assoc] at h
  obtain ⟨a1, h⟩ := int_pf _ _ _ _ hx.1 hy.1 h
  obtain ⟨a2, h⟩ := int_pf _ _ _ _ hx.2.1 hy.2.1 h
  obtain ⟨a3, h⟩ := int_pf _ _ _ _ hx.2.2.1 hy.2.2.1 h
  obtain ⟨a4, h⟩ := int_pf _ _ _ _ hx.2.2.2 hy.2.2.2 h
  refine ⟨?_, h⟩
  cases x; cases y
  simp only [V4.mk.injEq] at *
  exact ⟨a1, a2, a3, a4⟩
def VtxG (v : Vtx) : Prop := v.place.wf ∧ v.colour.wf
theorem vtx_pf : Pf VtxG vtxB := fun x y s t hx hy h => by
  simp only [vtxB, List.append_assoc] at h
  obtain ⟨a1, h⟩ := num_pf _ _ _ _ hx.1 hy.1 h
  obtain ⟨a2, h⟩ := num_pf _ _ _ _ hx.2 hy.2 h
  refine ⟨?_, h⟩
  cases x; cases y
  simp only [Vtx.mk.injEq] at *
  exact ⟨a1, a2⟩
theorem ins_pf : Pf Ins.wf insB := fun x y s t hx hy h => by
  simp only [insB, List.cons_append, List.nil_append, List.cons.injEq] at h
  obtain ⟨a1, a2, a3, a4, h⟩ := h
  obtain ⟨_, _, _, _, x1, x2⟩ := hx
  obtain ⟨_, _, _, _, y1, y2⟩ := hy
  obtain ⟨a5, h⟩ := int_pf _ _ _ _ ⟨by omega, by omega⟩ ⟨by omega, by omega⟩ h
  refine ⟨?_, h⟩
  cases x; cases y
  simp only [Ins.mk.injEq] at *
  exact ⟨a1, a2, a3, a4, a5⟩
theorem flat_pf {α : Type} {q : α → Prop} {B : α → List Int} (hB : Pf q B) : ∀ (l m : List α) (s t : List Int), l.length = m.length → (∀ x ∈ l, q x) → (∀ x ∈ m, q x) → l.flatMap B ++ s = m.flatMap B ++ t → l = m ∧ s = t
  | [], [], s, t, _, _, _, h => ⟨rfl, by simpa using h⟩
  | x :: l, y :: m, s, t, hl, hx, hy, h => by
    simp only [List.flatMap_cons, List.append_assoc] at h
    obtain ⟨a1, h⟩ := hB _ _ _ _ (hx x (List.mem_cons_self ..)) (hy y (List.mem_cons_self ..)) h
    obtain ⟨a2, h⟩ := flat_pf hB l m s t (by simpa using hl) (fun z hz => hx z (List.mem_cons_of_mem _ hz)) (fun z hz => hy z (List.mem_cons_of_mem _ hz)) h
    exact ⟨by rw [a1, a2], h⟩
  | [], _ :: _, _, _, hl, _, _, _ => by simp at hl
  | _ :: _, [], _, _, hl, _, _, _ => by simp at hl
theorem list_pf {α : Type} {q : α → Prop} {B : α → List Int} (hB : Pf q B) : Pf (fun l : List α => ∀ x ∈ l, q x) (fun l => cnt l.length ++ l.flatMap B) := fun l m s t hl hm h => by
  simp only [List.append_assoc] at h
  obtain ⟨a1, h⟩ := cnt_pf _ _ _ _ h
  exact flat_pf hB l m s t a1 hl hm h
theorem prog_pf : Pf Prog.wf progB := list_pf ins_pf
theorem progs_pf : Pf (fun l : List Prog => ∀ p ∈ l, p.wf) progsB := list_pf prog_pf
theorem stt_pf : Pf Stt.wf sttB := fun x y s t hx hy h => by
  simp only [sttB, List.cons_append, List.nil_append, List.cons.injEq] at h
  obtain ⟨a1, a2, a3, a4, a5, a6, a7, a8, a9, a10, a11, a12, a13, a14, a15, h⟩ := h
  obtain ⟨_, ⟨p1, p2⟩, ⟨p3, p4⟩, ⟨p5, p6⟩, p7, p8⟩ := hx
  obtain ⟨_, ⟨q1, q2⟩, ⟨q3, q4⟩, ⟨q5, q6⟩, q7, q8⟩ := hy
  have hw : x.write = y.write := by
    cases hx1 : x.write <;> cases hy1 : y.write <;> first | rfl | (rw [hx1, hy1] at a2; simp at a2)
  refine ⟨?_, h⟩
  cases x; cases y
  simp only [Stt.mk.injEq] at *
  exact ⟨a1, hw, a3, a4, a5, a6, a7, a8, a9, a10, a11, by omega, by omega, by omega, by omega⟩
structure DrwG (d : Drw) : Prop where
  st : d.st.wf
  k : 0 ≤ d.kind ∧ d.kind < 3
  c : d.clears = true → 0 ≤ d.cdepth ∧ d.cdepth ≤ 65535 ∧ d.vertex = 0 ∧ d.fragment = 0 ∧ d.kind = 0 ∧ d.indices = []
  v : d.clears = false → d.c0 = 0 ∧ d.c1 = 0 ∧ d.c2 = 0 ∧ d.c3 = 0 ∧ d.cdepth = 0 ∧ d.cstencil = 0 ∧ d.wanted = 0 ∧ (0 ≤ d.vertex ∧ d.vertex ≤ 1000) ∧ (0 ≤ d.fragment ∧ d.fragment ≤ 1000) ∧ ∀ n ∈ d.indices, 0 ≤ n ∧ n ≤ 1000
  b : (0 ≤ d.c0 ∧ d.c0 ≤ 255) ∧ (0 ≤ d.c1 ∧ d.c1 ≤ 255) ∧ (0 ≤ d.c2 ∧ d.c2 ≤ 255) ∧ (0 ≤ d.c3 ∧ d.c3 ≤ 255) ∧ (0 ≤ d.cstencil ∧ d.cstencil ≤ 255) ∧ (0 ≤ d.wanted ∧ d.wanted ≤ 255)
theorem drw_pf : Pf DrwG drwB := fun x y s t hx hy h => by
  simp only [drwB, List.append_assoc] at h
  obtain ⟨a1, h⟩ := stt_pf _ _ _ _ hx.st hy.st h
  cases hcx : x.clears with
  | true =>
    cases hcy : y.clears with
    | true =>
      simp only [hcx, hcy, if_true, List.cons_append, List.nil_append, List.cons.injEq, true_and] at h
      obtain ⟨b1, b2, b3, b4, b5, b6, h⟩ := h
      obtain ⟨x1, x2, x3, x4, x5, x6⟩ := hx.c hcx
      obtain ⟨y1, y2, y3, y4, y5, y6⟩ := hy.c hcy
      obtain ⟨b7, h⟩ := cntI_pf _ _ _ _ ⟨x1, by omega⟩ ⟨y1, by omega⟩ h
      refine ⟨?_, h⟩
      cases x; cases y
      simp only [Drw.mk.injEq] at *
      exact ⟨a1, by rw [hcx, hcy], b1, b2, b3, b4, b7, b5, b6, by omega, by omega, by omega, by rw [x6, y6]⟩
    | false =>
      simp only [hcx, hcy, if_true, Bool.false_eq_true, if_false, List.cons_append, List.nil_append, List.cons.injEq] at h
      have := hy.k; omega
  | false =>
    cases hcy : y.clears with
    | true =>
      simp only [hcx, hcy, if_true, Bool.false_eq_true, if_false, List.cons_append, List.nil_append, List.cons.injEq] at h
      have := hx.k; omega
    | false =>
      simp only [hcx, hcy, Bool.false_eq_true, if_false, List.cons_append, List.nil_append, List.cons.injEq, List.append_assoc] at h
      obtain ⟨b1, h⟩ := h
      obtain ⟨x1, x2, x3, x4, x5, x6, x7, x8, x9, x10⟩ := hx.v hcx
      obtain ⟨y1, y2, y3, y4, y5, y6, y7, y8, y9, y10⟩ := hy.v hcy
      obtain ⟨b2, h⟩ := cntI_pf _ _ _ _ ⟨x8.1, by omega⟩ ⟨y8.1, by omega⟩ h
      obtain ⟨b3, h⟩ := cntI_pf _ _ _ _ ⟨x9.1, by omega⟩ ⟨y9.1, by omega⟩ h
      obtain ⟨b4, h⟩ := cnt_pf _ _ _ _ h
      obtain ⟨b5, h⟩ := flat_pf cntI_pf _ _ _ _ b4 (fun n hn => ⟨(x10 n hn).1, by have := (x10 n hn).2; omega⟩) (fun n hn => ⟨(y10 n hn).1, by have := (y10 n hn).2; omega⟩) h
      refine ⟨?_, h⟩
      cases x; cases y
      simp only [Drw.mk.injEq] at *
      exact ⟨a1, by rw [hcx, hcy], by omega, by omega, by omega, by omega, by omega, by omega, by omega, b2, b3, b1, b5⟩
structure ScrG (x : Scr) : Prop where
  w : 0 ≤ x.w ∧ x.w ≤ 1000
  h : 0 ≤ x.h ∧ x.h ≤ 1000
  m0 : x.m0.wf
  m1 : x.m1.wf
  m2 : x.m2.wf
  m3 : x.m3.wf
  vs : ∀ v ∈ x.vs, VtxG v
  ss : ∀ p ∈ x.ss, Prog.wf p
  ps : ∀ p ∈ x.ps, Prog.wf p
  ds : ∀ d ∈ x.ds, DrwG d
theorem scr_inj {x y : Scr} (hx : ScrG x) (hy : ScrG y) (h : scrB x = scrB y) : x = y := by
  simp only [scrB, List.cons_append, List.nil_append, List.cons.injEq, true_and] at h
  have hw1 := hx.w; have hw2 := hy.w; have hh1 := hx.h; have hh2 := hy.h
  obtain ⟨a1, h⟩ := cntI_pf _ _ _ _ ⟨hw1.1, by omega⟩ ⟨hw2.1, by omega⟩ h
  obtain ⟨a2, h⟩ := cntI_pf _ _ _ _ ⟨hh1.1, by omega⟩ ⟨hh2.1, by omega⟩ h
  obtain ⟨a3, h⟩ := num_pf _ _ _ _ hx.m0 hy.m0 h
  obtain ⟨a4, h⟩ := num_pf _ _ _ _ hx.m1 hy.m1 h
  obtain ⟨a5, h⟩ := num_pf _ _ _ _ hx.m2 hy.m2 h
  obtain ⟨a6, h⟩ := num_pf _ _ _ _ hx.m3 hy.m3 h
  obtain ⟨b1, h⟩ := cnt_pf _ _ _ _ h
  obtain ⟨a7, h⟩ := flat_pf vtx_pf _ _ _ _ b1 hx.vs hy.vs h
  obtain ⟨a8, h⟩ := progs_pf _ _ _ _ hx.ss hy.ss h
  obtain ⟨a9, h⟩ := progs_pf _ _ _ _ hx.ps hy.ps h
  obtain ⟨b2, h⟩ := cnt_pf _ _ _ _ h
  obtain ⟨a10, _⟩ := flat_pf drw_pf x.ds y.ds [] [] b2 hx.ds hy.ds (by simpa using h)
  cases x; cases y
  simp only [Scr.mk.injEq] at *
  exact ⟨a1, a2, a3, a4, a5, a6, a7, a8, a9, a10⟩

/-! its bytes are bytes -/
def B8 (l : List Int) : Prop := ∀ x ∈ l, 0 ≤ x ∧ x < 256
theorem B8.app {l m : List Int} (h : B8 l) (k : B8 m) : B8 (l ++ m) := fun x hx => by
  rcases List.mem_append.1 hx with e | e
  · exact h x e
  · exact k x e
theorem B8.cns {x : Int} {l : List Int} (h : 0 ≤ x ∧ x < 256) (k : B8 l) : B8 (x :: l) := fun y hy => by
  rcases List.mem_cons.1 hy with e | e
  · rw [e]; exact h
  · exact k y e
theorem B8.nil : B8 [] := fun _ h => nomatch h
theorem B8.flat {α : Type} {B : α → List Int} {l : List α} (h : ∀ x ∈ l, B8 (B x)) : B8 (l.flatMap B) := fun y hy => by
  obtain ⟨x, hx, hy⟩ := List.mem_flatMap.1 hy
  exact h x hx y hy
theorem cnt_b8 : ∀ n : Nat, B8 (cnt n) := by
  intro n
  induction n using Nat.strongRecOn with
  | _ n ih =>
    by_cases h : n < 128
    · rw [cnt_lt h]; exact B8.cns (by omega) B8.nil
    · rw [cnt_ge h]; exact B8.cns (by omega) (ih _ (by omega))
theorem cntI_b8 (n : Int) : B8 (cntI n) := cnt_b8 _
theorem intB_b8 (n : Int) : B8 (intB n) := cnt_b8 _
theorem numB_b8 (v : V4) : B8 (numB v) := (intB_b8 _).app ((intB_b8 _).app ((intB_b8 _).app (intB_b8 _)))
theorem vtxB_b8 (v : Vtx) : B8 (vtxB v) := (numB_b8 _).app (numB_b8 _)
theorem insB_b8 {x : Ins} (h : x.wf) : B8 (insB x) := by
  obtain ⟨h1, h2, h3, h4, _⟩ := h
  exact B8.app (B8.cns (by omega) (B8.cns (by omega) (B8.cns (by omega) (B8.cns (by omega) B8.nil)))) (intB_b8 _)
theorem progB_b8 {p : Prog} (h : p.wf) : B8 (progB p) := (cnt_b8 _).app (B8.flat fun x hx => insB_b8 (h x hx))
theorem progsB_b8 {l : List Prog} (h : ∀ p ∈ l, Prog.wf p) : B8 (progsB l) := (cnt_b8 _).app (B8.flat fun x hx => progB_b8 (h x hx))
theorem sttB_b8 {s : Stt} (h : s.wf) : B8 (sttB s) := by
  obtain ⟨⟨h1, h2, h3, h4, h5, h6, h7, h8, h9, h10⟩, _⟩ := h
  unfold sttB
  refine B8.cns (by omega) (B8.cns (by split <;> omega) (B8.cns (by omega) (B8.cns (by omega) (B8.cns (by omega) (B8.cns (by omega) (B8.cns (by omega) (B8.cns (by omega) (B8.cns (by omega) (B8.cns (by omega) (B8.cns (by omega) (B8.cns (by omega) (B8.cns (by omega) (B8.cns (by omega) (B8.cns (by omega) B8.nil))))))))))))))
theorem drwB_b8 {d : Drw} (h : DrwG d) : B8 (drwB d) := by
  obtain ⟨b1, b2, b3, b4, b5, b6⟩ := h.b
  have hk := h.k
  refine (sttB_b8 h.st).app ?_
  split
  · exact B8.app (B8.cns (by omega) (B8.cns (by omega) (B8.cns (by omega) (B8.cns (by omega) (B8.cns (by omega) (B8.cns (by omega) (B8.cns (by omega) B8.nil))))))) (cntI_b8 _)
  · exact B8.app (B8.cns (by omega) B8.nil) ((cntI_b8 _).app ((cntI_b8 _).app ((cnt_b8 _).app (B8.flat fun x _ => cntI_b8 x))))
theorem scrB_b8 {x : Scr} (h : ScrG x) : B8 (scrB x) :=
  B8.app (B8.cns (by omega) (B8.cns (by omega) B8.nil)) ((cntI_b8 _).app ((cntI_b8 _).app ((numB_b8 _).app ((numB_b8 _).app ((numB_b8 _).app ((numB_b8 _).app ((cnt_b8 _).app ((B8.flat fun v _ => vtxB_b8 v).app ((progsB_b8 h.ss).app ((progsB_b8 h.ps).app ((cnt_b8 _).app (B8.flat fun d hd => drwB_b8 (h.ds d hd)))))))))))))

/-! the law's scripts -/
theorem within_4 {v : SVtx} (h : v.wf) : VtxG (vtxOf v) ∧ (0 ≤ (vtxOf v).colour.b ∧ (vtxOf v).colour.b ≤ 65535) := by
  obtain ⟨⟨⟨x1, x2⟩, ⟨y1, y2⟩, ⟨z1, z2⟩, ⟨w1, w2⟩⟩, ⟨a1, a2⟩, ⟨b1, b2⟩, ⟨c1, c2⟩, ⟨d1, d2⟩⟩ := h
  have hw : -9223372036854775808 ≤ (if v.far then v.w * 4 else 65536 + v.w) ∧ (if v.far then v.w * 4 else 65536 + v.w) ≤ 9223372036854775807 := by split <;> omega
  refine ⟨⟨⟨?_, ?_, ?_, hw⟩, ?_, ?_, ?_, ?_⟩, ?_⟩ <;> simp only [vtxOf] <;> omega
theorem standIn_ok {n : Nat} : VtxG (standIn n) ∧ (0 ≤ (standIn n).colour.b ∧ (standIn n).colour.b ≤ 65535) := by
  refine within_4 ?_
  simp only [SVtx.wf]
  split <;> (try split) <;> omega
theorem fillV_all {q : Vtx → Prop} (hs : ∀ n, q (standIn n)) : ∀ {n : Nat} {l : List Vtx}, (∀ v ∈ l, q v) → ∀ v ∈ fillV n l, q v
  | 0, _, h => h
  | n + 1, l, h => by
    unfold fillV
    split
    · exact fillV_all hs (fun v hv => by
        rcases List.mem_append.1 hv with e | e
        · exact h v e
        · rw [List.mem_singleton.1 e]; exact hs _)
    · exact h
theorem fillV_len : ∀ {n : Nat} {l : List Vtx}, 3 ≤ n + l.length → 3 ≤ (fillV n l).length ∧ (fillV n l).length ≤ max 3 l.length
  | 0, l, h => ⟨by simpa [fillV] using h, by simp only [fillV]; omega⟩
  | n + 1, l, h => by
    unfold fillV
    split
    · have := fillV_len (n := n) (l := l ++ [standIn l.length]) (by simp; omega)
      simp at this
      omega
    · omega
theorem vtxs_all {s : Sml} (h : s.wf) : ∀ v ∈ s.vtxs, VtxG v ∧ (0 ≤ v.colour.b ∧ v.colour.b ≤ 65535) :=
  fillV_all (fun _ => standIn_ok) (fun v hv => by
    obtain ⟨x, hx, rfl⟩ := List.mem_map.1 hv
    exact within_4 (h.2.2.2.1 x (List.mem_of_mem_take hx)))
theorem vtxs_len (s : Sml) : 3 ≤ s.vtxs.length ∧ s.vtxs.length ≤ 12 := by
  have := fillV_len (n := 3) (l := (s.vs.take 12).map vtxOf) (by omega)
  have h2 : ((s.vs.take 12).map vtxOf).length ≤ 12 := by simp; omega
  exact ⟨this.1, by have h3 := this.2; show (fillV 3 ((s.vs.take 12).map vtxOf)).length ≤ 12; omega⟩
theorem insOf_wf' {x : SIns} (h : x.wf) : (insOf x).wf := by
  obtain ⟨h1, h2, h3, h4, h5⟩ := h
  unfold insOf
  split <;> (simp only [Ins.wf]; omega)
theorem fixGo_wf {d : Bool} : ∀ {n : Nat} {p : Prog}, p.wf → (fixGo d n p).wf ∧ (fixGo d n p).length = p.length
  | 0, _, h => ⟨h, rfl⟩
  | n + 1, p, h => by
    unfold fixGo
    split
    · exact ⟨h, rfl⟩
    · have := fixGo_wf (d := d) (n := n) (p := p.set (badOf p d).toNat mov) (fun y hy => by
        rcases List.mem_or_eq_of_mem_set hy with h1 | h1
        · exact h y h1
        · subst h1; simp [Ins.wf, mov])
      exact ⟨this.1, by rw [this.2]; simp⟩
theorem progOf_wf {l : List SIns} (h : ∀ x ∈ l, x.wf) (d : Bool) : (progOf l d).wf ∧ (progOf l d).length ≤ 20 := by
  have := fixGo_wf (d := d) (n := 60) (p := (l.take 20).map insOf) (fun y hy => by
    obtain ⟨x, hx, rfl⟩ := List.mem_map.1 hy
    exact insOf_wf' (h x (List.mem_of_mem_take hx)))
  exact ⟨this.1, by show (fixGo d 60 ((l.take 20).map insOf)).length ≤ 20; rw [this.2]; simp; omega⟩
theorem progsOf_wf {l : List (List SIns)} (h : ∀ p ∈ l, ∀ x ∈ p, x.wf) (d : Bool) : ∀ p ∈ progsOf l d, Prog.wf p ∧ p.length ≤ 20 := fun p hp => by
  rcases List.mem_cons.1 hp with e | e
  · subst e; exact ⟨(fun _ h => nomatch h), Nat.zero_le _⟩
  · obtain ⟨q, hq, rfl⟩ := List.mem_map.1 e
    exact progOf_wf (h q (List.mem_of_mem_take hq)) d
theorem progsOf_len (l : List (List SIns)) (d : Bool) : 1 ≤ (progsOf l d).length ∧ (progsOf l d).length ≤ 4 := by
  unfold progsOf; simp; omega
theorem sttOf_wf {s : SStt} (h : s.wf) : (sttOf s).wf := by
  obtain ⟨⟨h1, h2, h3, h4, h5, h6, h7, h8, h9, h10⟩, b0, b1, b2, b3⟩ := h
  unfold sttOf Stt.wf
  refine ⟨⟨?_, ?_, ?_, ?_, ?_, ?_, ?_, ?_, ?_, ?_⟩, ?_, ?_, ?_, ?_⟩ <;> simp only [] <;> (try split) <;> omega
theorem drwOf_g {d : SDrw} (h : d.wf) {nv ns np : Nat} (hv : 0 < nv ∧ nv ≤ 1000) (hs : 0 < ns ∧ ns ≤ 1000) (hp : 0 < np ∧ np ≤ 1000) : DrwG (drwOf d nv ns np) := by
  obtain ⟨hst, ⟨⟨k1, k2⟩, ⟨v1, v2⟩, ⟨f1, f2⟩⟩, hix, ⟨⟨a1, a2⟩, ⟨b1, b2⟩, ⟨c1, c2⟩, ⟨d1, d2⟩⟩, ⟨e1, e2⟩⟩ := h
  have hvv : 0 ≤ (if d.plain then (0 : Int) else d.vertex % ns) ∧ (if d.plain then (0 : Int) else d.vertex % ns) ≤ 1000 := by
    split
    · omega
    · have := Int.emod_nonneg d.vertex (b := ns) (by omega)
      have := Int.emod_lt_of_pos d.vertex (b := ns) (by omega)
      omega
  have hff : 0 ≤ (if d.plain then (0 : Int) else d.fragment % np) ∧ (if d.plain then (0 : Int) else d.fragment % np) ≤ 1000 := by
    split
    · omega
    · have := Int.emod_nonneg d.fragment (b := np) (by omega)
      have := Int.emod_lt_of_pos d.fragment (b := np) (by omega)
      omega
  unfold drwOf
  split
  · exact ⟨sttOf_wf hst, by simp only []; omega, fun _ => ⟨e1, e2, rfl, rfl, rfl, rfl⟩, (fun h => by cases h), by simp only []; omega⟩
  · refine ⟨sttOf_wf hst, by simp only []; omega, (fun h => by cases h), fun _ => ⟨rfl, rfl, rfl, rfl, rfl, rfl, rfl, hvv, hff, fun n hn => ?_⟩, by simp only []; omega⟩
    obtain ⟨q, hq, rfl⟩ := List.mem_map.1 hn
    have := Int.emod_nonneg q (b := nv) (by omega)
    have := Int.emod_lt_of_pos q (b := nv) (by omega)
    omega
theorem takes_le (k : Int) (n : Nat) : takes k n ≤ 6 := by unfold takes; split <;> (try split) <;> omega
theorem drwOf_idx (d : SDrw) (nv ns np : Nat) : (drwOf d nv ns np).indices.length ≤ 6 := by
  unfold drwOf
  split
  · exact Nat.zero_le _
  · simp only [List.length_map, List.length_take]
    have := takes_le (d.kind % 5 % 3) d.indices.length
    omega
theorem sml_good {s : Sml} (h : s.wf) : ScrG s.scr := by
  have hl := vtxs_len s
  have hl1 := progsOf_len s.ss false
  have hl2 := progsOf_len s.ps true
  have ht := h.2.2.1
  refine ⟨by simp only [Sml.scr]; omega, by simp only [Sml.scr]; omega, ?_, ?_, ?_, ?_, fun v hv => (vtxs_all h v hv).1, fun p hp => (progsOf_wf h.2.2.2.2.1 false p hp).1, fun p hp => (progsOf_wf h.2.2.2.2.2.1 true p hp).1, fun d hd => ?_⟩
  · simp only [Sml.scr, V4.wf]; omega
  · simp only [Sml.scr, V4.wf]; omega
  · simp only [Sml.scr, V4.wf]; omega
  · simp only [Sml.scr, V4.wf]; omega
  · obtain ⟨q, hq, rfl⟩ := List.mem_map.1 hd
    exact drwOf_g (h.2.2.2.2.2.2 q (List.mem_of_mem_take hq)) ⟨by omega, by omega⟩ ⟨by omega, by omega⟩ ⟨by omega, by omega⟩
end Go.Az
