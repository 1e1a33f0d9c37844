/-
  PLAIN: what the functions reckon, in plain Lean: no Go here.
-/
namespace Go.Az
def within (n most : Int) : Int := max (min n most) (-most)
def maxQ : Int := 2147483647
def clamp (n : Int) : Int := within n 2147483647
structure V4 where
  a : Int
  b : Int
  c : Int
  d : Int
  deriving DecidableEq
def V4.map (g : Int → Int) (v : V4) : V4 := ⟨g v.a, g v.b, g v.c, g v.d⟩
def V4.within (v : V4) (m : Int) : V4 := v.map (Az.within · m)
def V4.wf (v : V4) : Prop := (-9223372036854775808 ≤ v.a ∧ v.a ≤ 9223372036854775807) ∧ (-9223372036854775808 ≤ v.b ∧ v.b ≤ 9223372036854775807) ∧ (-9223372036854775808 ≤ v.c ∧ v.c ≤ 9223372036854775807) ∧ (-9223372036854775808 ≤ v.d ∧ v.d ≤ 9223372036854775807)
def fixOf (n : Int) : Int := clamp (Az.within n 65536 * 65536)

/-! numbers as bytes -/
def cnt (n : Nat) : List Int := if n < 128 then [(n : Int)] else ((n % 128 + 128 : Nat) : Int) :: cnt (n / 128)
termination_by n
decreasing_by omega
theorem cnt_lt {n : Nat} (h : n < 128) : cnt n = [(n : Int)] := by rw [cnt, if_pos h]
theorem cnt_ge {n : Nat} (h : ¬ n < 128) : cnt n = ((n % 128 + 128 : Nat) : Int) :: cnt (n / 128) := by rw [cnt, if_neg h]
theorem cnt_len (k : Nat) : ∀ n : Nat, n < 128 ^ (k + 1) → (cnt n).length ≤ k + 1 := by
  induction k with
  | zero => intro n h; rw [cnt_lt (by simpa using h)]; simp
  | succ k ih =>
    intro n h
    by_cases h1 : n < 128
    · rw [cnt_lt h1]; simp
    · rw [cnt_ge h1]
      have := ih (n / 128) (by rw [Nat.div_lt_iff_lt_mul (by decide)]; rw [← Nat.pow_succ]; exact h)
      simp; omega
theorem cnt_len10 {n : Nat} (h : n < 18446744073709551616) : (cnt n).length ≤ 10 := cnt_len 9 n (Nat.lt_trans h (by decide))
def cntI (n : Int) : List Int := cnt (n % 18446744073709551616).toNat
def zigN (n : Int) : Int := if n < 0 then -(n + 1) * 2 + 1 else n * 2
def intB (n : Int) : List Int := cnt (zigN n).toNat
theorem intB_len {n : Int} (h1 : -9223372036854775808 ≤ n) (h2 : n ≤ 9223372036854775807) : (intB n).length ≤ 10 := cnt_len10 (by unfold zigN; split <;> omega)
theorem cntI_len (n : Int) : (cntI n).length ≤ 10 := cnt_len10 (by omega)
def numB (v : V4) : List Int := intB v.a ++ (intB v.b ++ (intB v.c ++ intB v.d))

/-! programs -/
structure Ins where
  op : Int
  dst : Int
  a : Int
  b : Int
  imm : Int
  deriving DecidableEq
def Ins.wf (x : Ins) : Prop := (0 ≤ x.op ∧ x.op ≤ 255) ∧ (0 ≤ x.dst ∧ x.dst ≤ 255) ∧ (0 ≤ x.a ∧ x.a ≤ 255) ∧ (0 ≤ x.b ∧ x.b ≤ 255) ∧ (-32768 ≤ x.imm ∧ x.imm ≤ 32767)
abbrev Prog := List Ins
def mov : Ins := ⟨1, 0, 0, 0, 0⟩
def Prog.wf (p : Prog) : Prop := ∀ x ∈ p, x.wf
def insAt (p : Prog) (i : Nat) : Ins := p.getD i mov
def body (p : Prog) (i : Int) : Int × Int × Bool :=
  if i < 0 ∨ i ≥ p.length ∨ (insAt p i.toNat).op ≠ 12 then (0, 0, false) else (i + 1, i + 1 + (insAt p i.toNat).b, true)
def loopGo (p : Prog) (i : Int) : Nat → Nat → Int × Int × Bool
  | 0, _ => (0, 0, false)
  | n + 1, k => if (body p k).2.2 = true ∧ (body p k).1 ≤ i ∧ i < (body p k).2.1 then ((body p k).1, (body p k).2.1, true) else loopGo p i n (k + 1)
def loopOf (p : Prog) (i : Int) : Int × Int × Bool := loopGo p i p.length 0
def insCheck (p : Prog) (i : Int) (x : Ins) (d : Bool) : Int :=
  if x.op ≥ 15 ∨ (x.op = 13 ∧ d = false) then 5 else
  if x.dst ≥ 12 ∨ x.a ≥ 12 ∨ (x.op ≠ 12 ∧ x.b ≥ 12) ∨ (x.op = 14 ∧ x.a > 8) then 2 else
  if x.op = 12 ∧ ((loopOf p i).2.2 = true ∨ x.b < 1 ∨ x.b > p.length - i - 1 ∨ x.imm < 1 ∨ x.imm > 8) then 12 else
  if x.op ≠ 11 then 0 else
  if x.imm < 1 ∨ i + 1 + x.imm > p.length ∨ ((loopOf p i).2.2 = true ∧ i + 1 + x.imm > (loopOf p i).2.1) then 12 else
  if (loopOf p (i + 1 + x.imm)).2.2 = true ∧ ¬ ((loopOf p i).2.2 = true ∧ (loopOf p (i + 1 + x.imm)).1 = (loopOf p i).1) then 12 else 0
def fuelGo : Prog → Int → Int
  | [], n => n
  | x :: r, n => fuelGo r (if x.op = 12 then n + x.b * (max x.imm 1 - 1) else n)
def fuel (p : Prog) : Int := fuelGo p p.length
def checkGo (p : Prog) (d : Bool) : Nat → Nat → Int
  | 0, _ => if fuel p > 200 then 6 else 0
  | n + 1, k => if insCheck p k (insAt p k) d ≠ 0 then insCheck p k (insAt p k) d else checkGo p d n (k + 1)
def progCheck (p : Prog) (d : Bool) : Int := if p.length > 24 then 7 else checkGo p d p.length 0
def insB (x : Ins) : List Int := [x.op, x.dst, x.a, x.b] ++ intB x.imm
def progB (p : Prog) : List Int := cnt p.length ++ p.flatMap insB
def progsB (l : List Prog) : List Int := cnt l.length ++ l.flatMap progB

/-! states, draws, scripts -/
structure Stt where
  depth : Int
  write : Bool
  stencil : Int
  ref : Int
  mask : Int
  fail : Int
  hidden : Int
  pass : Int
  blend : Int
  channels : Int
  cull : Int
  x0 : Int
  y0 : Int
  x1 : Int
  y1 : Int
  deriving DecidableEq
def Stt.wf (s : Stt) : Prop := ((0 ≤ s.depth ∧ s.depth ≤ 255) ∧ (0 ≤ s.stencil ∧ s.stencil ≤ 255) ∧ (0 ≤ s.ref ∧ s.ref ≤ 255) ∧ (0 ≤ s.mask ∧ s.mask ≤ 255) ∧ (0 ≤ s.fail ∧ s.fail ≤ 255) ∧ (0 ≤ s.hidden ∧ s.hidden ≤ 255) ∧ (0 ≤ s.pass ∧ s.pass ≤ 255) ∧
  (0 ≤ s.blend ∧ s.blend ≤ 255) ∧ (0 ≤ s.channels ∧ s.channels ≤ 255) ∧ (0 ≤ s.cull ∧ s.cull ≤ 255)) ∧ (0 ≤ s.x0 ∧ s.x0 ≤ 255) ∧ (0 ≤ s.y0 ∧ s.y0 ≤ 255) ∧ (0 ≤ s.x1 ∧ s.x1 ≤ 255) ∧ (0 ≤ s.y1 ∧ s.y1 ≤ 255)
def sttB (s : Stt) : List Int := [s.depth, if s.write then 1 else 0, s.stencil, s.ref, s.mask, s.fail, s.hidden, s.pass, s.blend, s.channels, s.cull, s.x0 % 256, s.y0 % 256, s.x1 % 256, s.y1 % 256]
structure Drw where
  st : Stt
  clears : Bool
  c0 : Int
  c1 : Int
  c2 : Int
  c3 : Int
  cdepth : Int
  cstencil : Int
  wanted : Int
  vertex : Int
  fragment : Int
  kind : Int
  indices : List Int
  deriving DecidableEq
def drwB (d : Drw) : List Int := sttB d.st ++ (if d.clears then [3, d.c0, d.c1, d.c2, d.c3, d.cstencil, d.wanted] ++ cntI d.cdepth
  else [d.kind] ++ (cntI d.vertex ++ (cntI d.fragment ++ (cnt d.indices.length ++ d.indices.flatMap cntI))))
structure Vtx where
  place : V4
  colour : V4
  deriving DecidableEq
def vtxB (v : Vtx) : List Int := numB v.place ++ numB v.colour
structure Scr where
  w : Int
  h : Int
  m0 : V4
  m1 : V4
  m2 : V4
  m3 : V4
  vs : List Vtx
  ss : List Prog
  ps : List Prog
  ds : List Drw
  deriving DecidableEq
def scrB (x : Scr) : List Int :=
  [65, 90] ++ (cntI x.w ++ (cntI x.h ++ (numB x.m0 ++ (numB x.m1 ++ (numB x.m2 ++ (numB x.m3 ++ (cnt x.vs.length ++ (x.vs.flatMap vtxB ++ (progsB x.ss ++ (progsB x.ps ++ (cnt x.ds.length ++ x.ds.flatMap drwB)))))))))))

/-! what the law's small numbers stand for -/
structure SIns where
  op : Int
  dst : Int
  a : Int
  b : Int
  imm : Int
  raw : Bool
def SIns.wf (x : SIns) : Prop := (0 ≤ x.op ∧ x.op ≤ 255) ∧ (0 ≤ x.dst ∧ x.dst ≤ 255) ∧ (0 ≤ x.a ∧ x.a ≤ 255) ∧ (0 ≤ x.b ∧ x.b ≤ 255) ∧ (-32768 ≤ x.imm ∧ x.imm ≤ 32767)
def insOf (s : SIns) : Ins :=
  if s.op % 15 = 12 ∨ s.op % 15 = 11 then ⟨s.op % 15, s.dst % 12, s.a % 9, 1 + s.b % 4, 1 + s.imm % 4⟩ else ⟨s.op % 15, s.dst % 12, s.a % 9, s.b % 12, s.imm⟩
/-- the first that may not be, and becomes a Mov -/
def isBad (p : Prog) (d : Bool) (i : Nat) : Bool :=
  progCheck p d != 0 && (progCheck (p.set i mov) d == 0 || (insAt p i).op == 12 || (insAt p i).op == 11 || ((insAt p i).op == 13 && !d))
def badGo (p : Prog) (d : Bool) : Nat → Nat → Int → Int
  | 0, _, r => r
  | n + 1, k, r => badGo p d n (k + 1) (if r < 0 ∧ isBad p d k = true then (k : Int) else r)
def badOf (p : Prog) (d : Bool) : Int := badGo p d p.length 0 (-1)
def fixGo (d : Bool) : Nat → Prog → Prog
  | 0, p => p
  | n + 1, p => if badOf p d < 0 then p else fixGo d n (p.set (badOf p d).toNat mov)
def progOf (l : List SIns) (d : Bool) : Prog := fixGo d 60 ((l.take 20).map insOf)
structure SStt where
  depth : Int
  stencil : Int
  ref : Int
  mask : Int
  fail : Int
  hidden : Int
  pass : Int
  blend : Int
  channels : Int
  cull : Int
  write : Bool
  easy : Bool
  b0 : Int
  b1 : Int
  b2 : Int
  b3 : Int
def SStt.wf (s : SStt) : Prop := ((0 ≤ s.depth ∧ s.depth ≤ 255) ∧ (0 ≤ s.stencil ∧ s.stencil ≤ 255) ∧ (0 ≤ s.ref ∧ s.ref ≤ 255) ∧ (0 ≤ s.mask ∧ s.mask ≤ 255) ∧ (0 ≤ s.fail ∧ s.fail ≤ 255) ∧ (0 ≤ s.hidden ∧ s.hidden ≤ 255) ∧ (0 ≤ s.pass ∧ s.pass ≤ 255) ∧
  (0 ≤ s.blend ∧ s.blend ≤ 255) ∧ (0 ≤ s.channels ∧ s.channels ≤ 255) ∧ (0 ≤ s.cull ∧ s.cull ≤ 255)) ∧ (0 ≤ s.b0 ∧ s.b0 ≤ 255) ∧ (0 ≤ s.b1 ∧ s.b1 ≤ 255) ∧ (0 ≤ s.b2 ∧ s.b2 ≤ 255) ∧ (0 ≤ s.b3 ∧ s.b3 ≤ 255)
def sttOf (s : SStt) : Stt :=
  { depth := s.depth % 8, write := s.write, stencil := if s.easy then 7 else s.stencil % 8, ref := s.ref, mask := s.mask, fail := s.fail % 6, hidden := if s.easy then 0 else s.hidden % 6, pass := if s.easy then 0 else s.pass % 6,
    blend := if s.easy then 0 else s.blend % 4, channels := if s.easy then 15 else s.channels % 16, cull := s.cull % 3,
    x0 := if s.b0 % 3 = 0 then s.b0 / 3 % 30 else 0, y0 := if s.b0 % 3 = 0 then s.b1 % 30 else 0, x1 := if s.b0 % 3 = 0 then s.b0 / 3 % 30 + s.b2 % 30 else 64, y1 := if s.b0 % 3 = 0 then s.b1 % 30 + s.b3 % 30 else 64 }
structure SVtx where
  x : Int
  y : Int
  z : Int
  w : Int
  c0 : Int
  c1 : Int
  c2 : Int
  c3 : Int
  far : Bool
def SVtx.wf (s : SVtx) : Prop := ((-32768 ≤ s.x ∧ s.x ≤ 32767) ∧ (-32768 ≤ s.y ∧ s.y ≤ 32767) ∧ (-32768 ≤ s.z ∧ s.z ≤ 32767) ∧ (-32768 ≤ s.w ∧ s.w ≤ 32767)) ∧ (0 ≤ s.c0 ∧ s.c0 ≤ 255) ∧ (0 ≤ s.c1 ∧ s.c1 ≤ 255) ∧ (0 ≤ s.c2 ∧ s.c2 ≤ 255) ∧ (0 ≤ s.c3 ∧ s.c3 ≤ 255)
def vtxOf (s : SVtx) : Vtx := ⟨⟨s.x * 3, s.y * 3, max (s.z * 2) (-9000), if s.far then s.w * 4 else 65536 + s.w⟩, ⟨s.c0 * 257, s.c1 * 257, s.c2 * 257, s.c3 * 257⟩⟩
structure SDrw where
  st : SStt
  kind : Int
  vertex : Int
  fragment : Int
  indices : List Int
  c0 : Int
  c1 : Int
  c2 : Int
  c3 : Int
  depth : Int
  plain : Bool
def SDrw.wf (s : SDrw) : Prop := s.st.wf ∧ ((0 ≤ s.kind ∧ s.kind ≤ 255) ∧ (0 ≤ s.vertex ∧ s.vertex ≤ 255) ∧ (0 ≤ s.fragment ∧ s.fragment ≤ 255)) ∧ (∀ x ∈ s.indices, 0 ≤ x ∧ x ≤ 255) ∧ ((0 ≤ s.c0 ∧ s.c0 ≤ 255) ∧ (0 ≤ s.c1 ∧ s.c1 ≤ 255) ∧ (0 ≤ s.c2 ∧ s.c2 ≤ 255) ∧ (0 ≤ s.c3 ∧ s.c3 ≤ 255)) ∧ (0 ≤ s.depth ∧ s.depth ≤ 65535)
/-- how many of a draw's numbers are taken -/
def takes (kind : Int) (len : Nat) : Nat := if kind = 0 then min len 6 / 3 * 3 else if min len 6 < 3 then 0 else min len 6
def drwOf (s : SDrw) (nv ns np : Nat) : Drw :=
  if s.kind % 5 = 4 then ⟨sttOf s.st, true, s.c0, s.c1, s.c2, s.c3, s.depth, s.vertex, s.fragment % 8, 0, 0, 0, []⟩
  else ⟨sttOf s.st, false, 0, 0, 0, 0, 0, 0, 0, if s.plain then 0 else s.vertex % ns, if s.plain then 0 else s.fragment % np, s.kind % 5 % 3, (s.indices.take (takes (s.kind % 5 % 3) s.indices.length)).map (· % (nv : Int))⟩
structure Sml where
  w : Int
  h : Int
  t0 : Int
  t1 : Int
  t2 : Int
  t3 : Int
  vs : List SVtx
  ss : List (List SIns)
  ps : List (List SIns)
  ds : List SDrw
def Sml.wf (s : Sml) : Prop := (0 ≤ s.w ∧ s.w ≤ 255) ∧ (0 ≤ s.h ∧ s.h ≤ 255) ∧ ((-32768 ≤ s.t0 ∧ s.t0 ≤ 32767) ∧ (-32768 ≤ s.t1 ∧ s.t1 ≤ 32767) ∧ (-32768 ≤ s.t2 ∧ s.t2 ≤ 32767) ∧ (-32768 ≤ s.t3 ∧ s.t3 ≤ 32767)) ∧
  (∀ x ∈ s.vs, x.wf) ∧ (∀ l ∈ s.ss, ∀ x ∈ l, x.wf) ∧ (∀ l ∈ s.ps, ∀ x ∈ l, x.wf) ∧ (∀ x ∈ s.ds, x.wf)
def Sml.light (s : Sml) : Bool := s.ss.all (·.length ≤ 30) && s.ps.all (·.length ≤ 30) && s.ds.all (·.indices.length ≤ 60) && decide (s.vs.length ≤ 40) && decide (s.ss.length ≤ 6) && decide (s.ps.length ≤ 6) && decide (s.ds.length ≤ 20)
def progsOf (l : List (List SIns)) (d : Bool) : List Prog := [] :: (l.take 3).map (progOf · d)
/-- the vertices that stand in for missing ones -/
def standIn (n : Nat) : Vtx := vtxOf ⟨if n = 0 then -20000 else if n = 1 then 0 else 20000, if n = 1 then 15000 else 0, 9000, 3000, 200, 90, if n = 0 then 0 else if n = 1 then 100 else 200, 255, false⟩
def fillV : Nat → List Vtx → List Vtx
  | 0, l => l
  | n + 1, l => if l.length < 3 then fillV n (l ++ [standIn l.length]) else l
def Sml.vtxs (s : Sml) : List Vtx := fillV 3 ((s.vs.take 12).map vtxOf)
def Sml.scr (s : Sml) : Scr :=
  { w := 1 + s.w % 24, h := 1 + s.h % 24, m0 := ⟨65536, s.t0, 0, 0⟩, m1 := ⟨0, 65536, s.t1, 0⟩, m2 := ⟨0, 0, 65536, s.t2⟩, m3 := ⟨s.t3, 0, 0, 65536⟩,
    vs := s.vtxs, ss := progsOf s.ss false, ps := progsOf s.ps true,
    ds := (s.ds.take 5).map fun d => drwOf d s.vtxs.length (progsOf s.ss false).length (progsOf s.ps true).length }
end Go.Az
