/-
  FRAMEWORK 2: what single operations come to.
-/
import Derived.Test.YtcjnniigonaapaaF1
import Derived.Laws.IdiomCopy
namespace Go.Az
open Go

def Sz (P : Program) (t : TypeId) (n : Nat) : Prop := (P.info? t).map (·.size) = some n
def Zr (P : Program) (t : TypeId) (z : Value) : Prop := (P.info? t).map (·.zero) = some (some z)
def By (P : Program) (t : TypeId) (n : Nat) : Prop := (P.info? t).map (·.bytes) = some n
def isAggD : TypeDesc → Bool
  | .struct _ | .array _ _ => true
  | _ => false

section
variable {P : Program} {w : World} {t : TypeId}
theorem run_sizeOf {n : Nat} (h : Sz P t n) : (sizeOf t).run P w = .ok n w := by
  unfold Sz at h
  cases e : P.info? t with
  | none => simp [e] at h
  | some i => simp [e] at h; simp [sizeOf, typeInfo, e, h]
theorem run_zero {z : Value} (h : Zr P t z) : (zeroValue t).run P w = .ok z w := by
  unfold Zr at h
  cases e : P.info? t with
  | none => simp [e] at h
  | some i => simp [e] at h; simp [zeroValue, typeInfo, e, h]
theorem run_isAgg {D : TypeDesc} (h : P.underlying t = some D) : (isAgg t).run P w = .ok (isAggD D) w := by
  simp only [isAgg, Sem.run_bind, run_underlying h, Result.andThen_ok]
  cases D <;> rfl
theorem run_loadVar1 {D : TypeDesc} (h : P.underlying t = some D) (ha : isAggD D = false) {a : Addr} {v : Value} (hc : w.cell? a = some v) : (loadVar t a).run P w = .ok v w := by
  simp [loadVar, run_isAgg h, ha, hc]
theorem run_loadVarN {D : TypeDesc} (h : P.underlying t = some D) (ha : isAggD D = true) {n : Nat} (hs : Sz P t n) {b o : Nat} {cs : List Value} (hn : cs.length = n)
    (hc : ∀ j v, cs[j]? = some v → w.cell? ⟨b, o + j, none⟩ = some v) : (loadVar t ⟨b, o, none⟩).run P w = .ok (.agg cs.toArray) w := by
  subst hn
  have hl := run_loadCells_list (P := P) w ⟨b, o, none⟩ cs (fun j v hj => by
    have : (⟨b, o, none⟩ : Addr).add j = ⟨b, o + j, none⟩ := by unfold Addr.add; split <;> simp_all
    rw [this]; exact hc j v hj)
  simp [loadVar, run_isAgg h, ha, run_sizeOf hs, hl]
end

/-- Go's numbers, where they fit. -/
theorem w64 {x : Int} (h1 : -9223372036854775808 ≤ x) (h2 : x ≤ 9223372036854775807) : IntKind.i64.wrap x = x := by rw [IntKind.wrap_i64]; omega
theorem w8 {x : Int} (h1 : 0 ≤ x) (h2 : x ≤ 255) : IntKind.u8.wrap x = x := by rw [IntKind.wrap_u8]; omega
theorem w16 {x : Int} (h1 : -32768 ≤ x) (h2 : x ≤ 32767) : IntKind.i16.wrap x = x := by simp [IntKind.wrap, IntKind.bits, IntKind.signed]; omega
theorem wu64 {x : Int} (h1 : 0 ≤ x) (h2 : x ≤ 18446744073709551615) : IntKind.u64.wrap x = x := by rw [IntKind.wrap_u64]; omega
theorem wu32 {x : Int} (h1 : 0 ≤ x) (h2 : x ≤ 4294967295) : IntKind.u32.wrap x = x := by rw [IntKind.wrap_u32]; omega
theorem wu16 {x : Int} (h1 : 0 ≤ x) (h2 : x ≤ 65535) : IntKind.u16.wrap x = x := by rw [IntKind.wrap_u16]; omega

section
variable {P : Program} {N : Nat} {f : Nat → Value} {w : World} {d : Option Nat} {ty : TypeId} {pos : String} {af : Array Edge} {gd : Option (Nat × Bool)}

theorem r_move {x : Operand} {v : Value} (hx : ev N f x = v) : (execOp (ev N f) ⟨d, .move x, ty, pos, af, gd⟩).run P w = .ok (.value v) w := by subst hx; rfl
theorem r_assign {x : Operand} {v : Value} (hx : ev N f x = v) : (execOp (ev N f) ⟨d, .assign x, ty, pos, af, gd⟩).run P w = .ok (.value v) w := by subst hx; rfl
theorem r_pick {c x y : Operand} {b : Bool} {v : Value} (hc : ev N f c = .bool b) (hv : (if b then ev N f x else ev N f y) = v) :
    (execOp (ev N f) ⟨d, .pick c x y, ty, pos, af, gd⟩).run P w = .ok (.value v) w := by
  subst hv; cases b <;> simp [execOp, hc, asBool]
theorem r_nil {x : Operand} {a : Addr} (hx : ev N f x = .pointer (some a)) : (execOp (ev N f) ⟨d, .nilCheck x, ty, pos, af, gd⟩).run P w = .ok (.value (.pointer (some a))) w := by
  simp [execOp, hx]
theorem r_nilf {x : Operand} {g : FuncId} {A B : Array Value} (hx : ev N f x = .func (.func g) A B) : (execOp (ev N f) ⟨d, .nilCheck x, ty, pos, af, gd⟩).run P w = .ok (.value (.func (.func g) A B)) w := by
  simp [execOp, hx]

/-! numbers -/
section
variable {xT yT : TypeId} {x y : Operand} {k k' : IntKind} {i j n : Int}
theorem r_add (hx : ev N f x = .int k i) (hy : ev N f y = .int k j) (hn : k.wrap (i + j) = n) : (execOp (ev N f) ⟨d, .binOp .add xT x y yT, ty, pos, af, gd⟩).run P w = .ok (.value (.int k n)) w := by
  subst hn; simp [execOp, hx, hy, eqGuard, binOp, Op.intArith]
theorem r_sub (hx : ev N f x = .int k i) (hy : ev N f y = .int k j) (hn : k.wrap (i - j) = n) : (execOp (ev N f) ⟨d, .binOp .sub xT x y yT, ty, pos, af, gd⟩).run P w = .ok (.value (.int k n)) w := by
  subst hn; simp [execOp, hx, hy, eqGuard, binOp, Op.intArith]
theorem r_mul (hx : ev N f x = .int k i) (hy : ev N f y = .int k j) (hn : k.wrap (i * j) = n) : (execOp (ev N f) ⟨d, .binOp .mul xT x y yT, ty, pos, af, gd⟩).run P w = .ok (.value (.int k n)) w := by
  subst hn; simp [execOp, hx, hy, eqGuard, binOp, Op.intArith]
theorem r_quo (hx : ev N f x = .int k i) (hy : ev N f y = .int k j) (h0 : j ≠ 0) (hn : k.wrap (i.tdiv j) = n) : (execOp (ev N f) ⟨d, .binOp .quo xT x y yT, ty, pos, af, gd⟩).run P w = .ok (.value (.int k n)) w := by
  subst hn; simp [execOp, hx, hy, eqGuard, binOp, Op.intDiv, h0]
theorem r_rem (hx : ev N f x = .int k i) (hy : ev N f y = .int k j) (h0 : j ≠ 0) (hn : i.tmod j = n) : (execOp (ev N f) ⟨d, .binOp .rem xT x y yT, ty, pos, af, gd⟩).run P w = .ok (.value (.int k n)) w := by
  subst hn; simp [execOp, hx, hy, eqGuard, binOp, Op.intDiv, h0]
def bAnd (k : IntKind) (i j : Int) : Int := k.wrap ((BitVec.ofInt k.bits i &&& BitVec.ofInt k.bits j).toNat : Int)
def bOr (k : IntKind) (i j : Int) : Int := k.wrap ((BitVec.ofInt k.bits i ||| BitVec.ofInt k.bits j).toNat : Int)
def bXor (k : IntKind) (i j : Int) : Int := k.wrap ((BitVec.ofInt k.bits i ^^^ BitVec.ofInt k.bits j).toNat : Int)
theorem r_and (hx : ev N f x = .int k i) (hy : ev N f y = .int k j) (hn : bAnd k i j = n) : (execOp (ev N f) ⟨d, .binOp .and xT x y yT, ty, pos, af, gd⟩).run P w = .ok (.value (.int k n)) w := by
  subst hn; simp [execOp, hx, hy, eqGuard, binOp, Op.intBits, bAnd]
theorem r_or (hx : ev N f x = .int k i) (hy : ev N f y = .int k j) (hn : bOr k i j = n) : (execOp (ev N f) ⟨d, .binOp .or xT x y yT, ty, pos, af, gd⟩).run P w = .ok (.value (.int k n)) w := by
  subst hn; simp [execOp, hx, hy, eqGuard, binOp, Op.intBits, bOr]
theorem r_xor (hx : ev N f x = .int k i) (hy : ev N f y = .int k j) (hn : bXor k i j = n) : (execOp (ev N f) ⟨d, .binOp .xor xT x y yT, ty, pos, af, gd⟩).run P w = .ok (.value (.int k n)) w := by
  subst hn; simp [execOp, hx, hy, eqGuard, binOp, Op.intBits, bXor]
theorem r_shl (hx : ev N f x = .int k i) (hy : ev N f y = .int k' j) (h0 : 0 ≤ j) (hn : k.wrap (i * 2 ^ (min j.toNat k.bits)) = n) : (execOp (ev N f) ⟨d, .binOp .shl xT x y yT, ty, pos, af, gd⟩).run P w = .ok (.value (.int k n)) w := by
  subst hn
  have : ¬ j < 0 := by omega
  simp [execOp, hx, hy, eqGuard, binOp, Op.shift, this]
theorem r_shr (hx : ev N f x = .int k i) (hy : ev N f y = .int k' j) (h0 : 0 ≤ j) (hn : i.fdiv (2 ^ (min j.toNat k.bits)) = n) : (execOp (ev N f) ⟨d, .binOp .shr xT x y yT, ty, pos, af, gd⟩).run P w = .ok (.value (.int k n)) w := by
  subst hn
  have : ¬ j < 0 := by omega
  simp [execOp, hx, hy, eqGuard, binOp, Op.shift, this]
theorem r_lss (hx : ev N f x = .int k i) (hy : ev N f y = .int k j) : (execOp (ev N f) ⟨d, .binOp .lss xT x y yT, ty, pos, af, gd⟩).run P w = .ok (.value (.bool (decide (i < j)))) w := by
  simp [execOp, hx, hy, eqGuard, binOp, Op.intCmp]
theorem r_leq (hx : ev N f x = .int k i) (hy : ev N f y = .int k j) : (execOp (ev N f) ⟨d, .binOp .leq xT x y yT, ty, pos, af, gd⟩).run P w = .ok (.value (.bool (decide (i ≤ j)))) w := by
  simp [execOp, hx, hy, eqGuard, binOp, Op.intCmp]
theorem r_gtr (hx : ev N f x = .int k i) (hy : ev N f y = .int k j) : (execOp (ev N f) ⟨d, .binOp .gtr xT x y yT, ty, pos, af, gd⟩).run P w = .ok (.value (.bool (decide (i > j)))) w := by
  simp [execOp, hx, hy, eqGuard, binOp, Op.intCmp]
theorem r_geq (hx : ev N f x = .int k i) (hy : ev N f y = .int k j) : (execOp (ev N f) ⟨d, .binOp .geq xT x y yT, ty, pos, af, gd⟩).run P w = .ok (.value (.bool (decide (i ≥ j)))) w := by
  simp [execOp, hx, hy, eqGuard, binOp, Op.intCmp]
theorem r_eql (hx : ev N f x = .int k i) (hy : ev N f y = .int k j) : (execOp (ev N f) ⟨d, .binOp .eql xT x y yT, ty, pos, af, gd⟩).run P w = .ok (.value (.bool (decide (i = j)))) w := by
  simp [execOp, hx, hy, eqGuard, binOp, Op.intCmp]
  by_cases e : i = j <;> simp [e]
theorem r_neq (hx : ev N f x = .int k i) (hy : ev N f y = .int k j) : (execOp (ev N f) ⟨d, .binOp .neq xT x y yT, ty, pos, af, gd⟩).run P w = .ok (.value (.bool (decide (i ≠ j)))) w := by
  simp [execOp, hx, hy, eqGuard, binOp, Op.intCmp]
  by_cases e : i = j <;> simp [e]
theorem r_neg (hx : ev N f x = .int k i) (hn : k.wrap (0 - i) = n) : (execOp (ev N f) ⟨d, .unOp .neg xT x, ty, pos, af, gd⟩).run P w = .ok (.value (.int k n)) w := by
  subst hn; simp [execOp, hx, Op.unary, Op.intArith]
theorem r_compl (hx : ev N f x = .int k i) (hn : bXor k (if k.signed then -1 else k.max) i = n) : (execOp (ev N f) ⟨d, .unOp .xor xT x, ty, pos, af, gd⟩).run P w = .ok (.value (.int k n)) w := by
  subst hn; simp [execOp, hx, Op.unary, Op.intBits, bXor]
theorem r_not {b : Bool} (hx : ev N f x = .bool b) : (execOp (ev N f) ⟨d, .unOp .not xT x, ty, pos, af, gd⟩).run P w = .ok (.value (.bool !b)) w := by
  simp [execOp, hx, Op.unary]
theorem r_conv {src dst : TypeId} {S : TypeDesc} (hs : P.underlying src = some S) (hd : P.underlying dst = some (.int k')) (hx : ev N f x = .int k i) (hn : k'.wrap i = n) :
    (execOp (ev N f) ⟨d, .convert src dst x, ty, pos, af, gd⟩).run P w = .ok (.value (.int k' n)) w := by
  subst hn; simp [execOp, hx, convert, run_underlying hs, run_underlying hd, Conv.intToInt]
end
theorem min_if (i j : Int) : (if j < i then j else i) = min i j := by omega
theorem max_if (i j : Int) : (if i < j then j else i) = max i j := by omega
theorem r_min2 {x y : Operand} {k : IntKind} {i j : Int} {A : Array TypeId} (hx : ev N f x = .int k i) (hy : ev N f y = .int k j) :
    (execOp (ev N f) ⟨d, .call { callee := .builtin .min, args := #[x, y], argTypes := A }, ty, pos, af, gd⟩).run P w = .ok (.value (.int k (min i j))) w := by
  rw [← min_if]; simp [execOp, hx, hy, resolve, invoke, builtin, Builtin.min_, Builtin.min2]
theorem r_max2 {x y : Operand} {k : IntKind} {i j : Int} {A : Array TypeId} (hx : ev N f x = .int k i) (hy : ev N f y = .int k j) :
    (execOp (ev N f) ⟨d, .call { callee := .builtin .max, args := #[x, y], argTypes := A }, ty, pos, af, gd⟩).run P w = .ok (.value (.int k (max i j))) w := by
  rw [← max_if]; simp [execOp, hx, hy, resolve, invoke, builtin, Builtin.max_, Builtin.max2]
theorem r_min3 {x y z : Operand} {k : IntKind} {i j l : Int} {A : Array TypeId} (hx : ev N f x = .int k i) (hy : ev N f y = .int k j) (hz : ev N f z = .int k l) :
    (execOp (ev N f) ⟨d, .call { callee := .builtin .min, args := #[x, y, z], argTypes := A }, ty, pos, af, gd⟩).run P w = .ok (.value (.int k (min (min i j) l))) w := by
  rw [← min_if (min i j) l, ← min_if i j]; simp [execOp, hx, hy, hz, resolve, invoke, builtin, Builtin.min_, Builtin.min2]
theorem r_max3 {x y z : Operand} {k : IntKind} {i j l : Int} {A : Array TypeId} (hx : ev N f x = .int k i) (hy : ev N f y = .int k j) (hz : ev N f z = .int k l) :
    (execOp (ev N f) ⟨d, .call { callee := .builtin .max, args := #[x, y, z], argTypes := A }, ty, pos, af, gd⟩).run P w = .ok (.value (.int k (max (max i j) l))) w := by
  rw [← max_if (max i j) l, ← max_if i j]; simp [execOp, hx, hy, hz, resolve, invoke, builtin, Builtin.max_, Builtin.max2]
theorem r_len {x : Operand} {T E : TypeId} (hu : P.underlying T = some (.slice E)) {a : Option Addr} {n c : Nat} (hx : ev N f x = .slice a n c) :
    (execOp (ev N f) ⟨d, .call { callee := .builtin .len, args := #[x], argTypes := #[T] }, ty, pos, af, gd⟩).run P w = .ok (.value (.int .i64 n)) w := by
  simp [execOp, hx, resolve, invoke, builtin, Builtin.len_, run_underlying hu, goInt]
theorem r_lens {x : Operand} {T : TypeId} (hu : P.underlying T = some .string) {s : ByteArray} (hx : ev N f x = .string s) :
    (execOp (ev N f) ⟨d, .call { callee := .builtin .len, args := #[x], argTypes := #[T] }, ty, pos, af, gd⟩).run P w = .ok (.value (.int .i64 s.size)) w := by
  simp [execOp, hx, resolve, invoke, builtin, Builtin.len_, run_underlying hu, goInt]

/-! == by types -/
theorem run_equal_of {T : TypeId} {x y : Value} {b : Bool} (h : ∀ n, (Op.equalIn (n + 1) T x y).run P w = .ok b w) : (Op.equal T x y).run P w = .ok b w := h 9999
def plainEq : Value → Value → Bool
  | .int _ _, .int _ _ => false
  | .nilIface, .nilIface => false
  | .agg _, .agg _ => false
  | .bool _, .bool _ => true
  | .pointer _, .pointer _ => true
  | .slice _ _ _, .slice _ _ _ => true
  | .map _, .map _ => true
  | _, _ => false
theorem r_eqlv {xT yT : TypeId} {x y : Operand} {u v : Value} {b : Bool} (hx : ev N f x = u) (hy : ev N f y = v) (hp : plainEq u v = true) (h : ∀ n, (Op.equalIn (n + 1) xT u v).run P w = .ok b w) :
    (execOp (ev N f) ⟨d, .binOp .eql xT x y yT, ty, pos, af, gd⟩).run P w = .ok (.value (.bool b)) w := by
  have he := run_equal_of h
  cases u <;> cases v <;> simp only [plainEq, Bool.false_eq_true] at hp <;> simp [execOp, hx, hy, eqGuard, binOp, he]
theorem r_neqv {xT yT : TypeId} {x y : Operand} {u v : Value} {b : Bool} (hx : ev N f x = u) (hy : ev N f y = v) (hp : plainEq u v = true) (h : ∀ n, (Op.equalIn (n + 1) xT u v).run P w = .ok b w) :
    (execOp (ev N f) ⟨d, .binOp .neq xT x y yT, ty, pos, af, gd⟩).run P w = .ok (.value (.bool (!b))) w := by
  have he := run_equal_of h
  cases u <;> cases v <;> simp only [plainEq, Bool.false_eq_true] at hp <;> simp [execOp, hx, hy, eqGuard, binOp, he]
theorem r_eqlb {xT yT : TypeId} {x y : Operand} {a b : Bool} (hu : P.underlying xT = some .bool) (hx : ev N f x = .bool a) (hy : ev N f y = .bool b) :
    (execOp (ev N f) ⟨d, .binOp .eql xT x y yT, ty, pos, af, gd⟩).run P w = .ok (.value (.bool (a == b))) w :=
  r_eqlv hx hy rfl fun n => by simp [Op.equalIn, run_underlying hu]
theorem r_neqb {xT yT : TypeId} {x y : Operand} {a b : Bool} (hu : P.underlying xT = some .bool) (hx : ev N f x = .bool a) (hy : ev N f y = .bool b) :
    (execOp (ev N f) ⟨d, .binOp .neq xT x y yT, ty, pos, af, gd⟩).run P w = .ok (.value (.bool (!(a == b)))) w :=
  r_neqv hx hy rfl fun n => by simp [Op.equalIn, run_underlying hu]

/-! pointers against nil -/
theorem r_eqlnil {xT yT e : TypeId} {x y : Operand} {a : Addr} (hu : P.underlying xT = some (.pointer e)) (hx : ev N f x = .pointer (some a)) (hy : ev N f y = .pointer none) :
    (execOp (ev N f) ⟨d, .binOp .eql xT x y yT, ty, pos, af, gd⟩).run P w = .ok (.value (.bool false)) w :=
  r_eqlv hx hy rfl fun n => by simp [Op.equalIn, run_underlying hu]
theorem r_neqnil {xT yT e : TypeId} {x y : Operand} {a : Addr} (hu : P.underlying xT = some (.pointer e)) (hx : ev N f x = .pointer (some a)) (hy : ev N f y = .pointer none) :
    (execOp (ev N f) ⟨d, .binOp .neq xT x y yT, ty, pos, af, gd⟩).run P w = .ok (.value (.bool true)) w :=
  r_neqv (b := false) hx hy rfl fun n => by simp [Op.equalIn, run_underlying hu]
theorem r_eqlnilnil {xT yT e : TypeId} {x y : Operand} (hu : P.underlying xT = some (.pointer e)) (hx : ev N f x = .pointer none) (hy : ev N f y = .pointer none) :
    (execOp (ev N f) ⟨d, .binOp .eql xT x y yT, ty, pos, af, gd⟩).run P w = .ok (.value (.bool true)) w :=
  r_eqlv hx hy rfl fun n => by simp [Op.equalIn, run_underlying hu]
theorem r_neqnilnil {xT yT e : TypeId} {x y : Operand} (hu : P.underlying xT = some (.pointer e)) (hx : ev N f x = .pointer none) (hy : ev N f y = .pointer none) :
    (execOp (ev N f) ⟨d, .binOp .neq xT x y yT, ty, pos, af, gd⟩).run P w = .ok (.value (.bool false)) w :=
  r_neqv (b := true) hx hy rfl fun n => by simp [Op.equalIn, run_underlying hu]

/-! addresses -/
theorem add_lit (b o n : Nat) : (⟨b, o, none⟩ : Addr).add n = ⟨b, o + n, none⟩ := by unfold Addr.add; split <;> simp_all
def fieldB (P : Program) (s k : Nat) : Option (Nat × Nat × Nat) :=
  match P.underlying s with
  | some (.struct fs) => match fs[k]? with
    | some fl => (P.info? fl.type).map fun i => (fl.offset, fl.type, i.size)
    | none => none
  | _ => none
theorem fieldB_some {s k off ft n : Nat} (h : fieldB P s k = some (off, ft, n)) : ∃ fs fl, P.underlying s = some (.struct fs) ∧ fs[k]? = some fl ∧ fl.offset = off ∧ fl.type = ft ∧ Sz P ft n := by
  unfold fieldB at h
  split at h
  · rename_i fs hu
    split at h
    · rename_i fl hf
      obtain ⟨i, hi, h⟩ := Option.map_eq_some_iff.1 h
      simp only [Prod.mk.injEq] at h
      obtain ⟨h1, h2, h3⟩ := h
      subst h2
      exact ⟨fs, fl, hu, hf, h1, rfl, by simp [Sz, hi, h3]⟩
    · cases h
  · cases h
theorem r_fieldAddr {s k off ft n : Nat} {x : Operand} {b o o' : Nat} (h : fieldB P s k = some (off, ft, n)) (hn : n ≠ 0) (hx : ev N f x = .pointer (some ⟨b, o, none⟩)) (ho : o + off = o') :
    (execOp (ev N f) ⟨d, .fieldAddr s x k, ty, pos, af, gd⟩).run P w = .ok (.value (.pointer (some ⟨b, o', none⟩))) w := by
  obtain ⟨fs, fl, hu, hf, h1, h2, h3⟩ := fieldB_some h
  subst h1; subst h2; subst ho
  simp [execOp, hx, Instr.fieldAt, Instr.sureAddr, run_underlying hu, hf, fieldPlace, run_sizeOf h3, hn, add_lit]
theorem run_part1 {t : TypeId} {D : TypeDesc} (hu : P.underlying t = some D) (ha : isAggD D = false) {cs : Array Value} {o : Nat} {v : Value} (hc : cs[o]? = some v) : (part t cs o).run P w = .ok v w := by
  simp [part, run_isAgg hu, ha, hc]
theorem run_partN {t : TypeId} {D : TypeDesc} (hu : P.underlying t = some D) (ha : isAggD D = true) {n : Nat} (hs : Sz P t n) {cs : List Value} {o : Nat} :
    (part t cs.toArray o).run P w = .ok (.agg ((cs.drop o).take n).toArray) w := by
  simp [part, run_isAgg hu, ha, run_sizeOf hs]
theorem r_field1 {s k off ft n : Nat} {x : Operand} {cs : List Value} {v : Value} (h : fieldB P s k = some (off, ft, n)) {D : TypeDesc} (hu : P.underlying ft = some D) (ha : isAggD D = false)
    (hx : ev N f x = .agg cs.toArray) (hv : cs[off]? = some v) : (execOp (ev N f) ⟨d, .field s x k, ty, pos, af, gd⟩).run P w = .ok (.value v) w := by
  obtain ⟨fs, fl, hu', hf, h1, h2, h3⟩ := fieldB_some h
  subst h1; subst h2
  have hv' : cs.toArray[fl.offset]? = some v := by simpa using hv
  simp [execOp, hx, Instr.field, run_underlying hu', hf, asAgg, run_part1 hu ha hv']
theorem r_fieldN {s k off ft n : Nat} {x : Operand} {cs vs : List Value} (h : fieldB P s k = some (off, ft, n)) {D : TypeDesc} (hu : P.underlying ft = some D) (ha : isAggD D = true)
    (hx : ev N f x = .agg cs.toArray) (hv : (cs.drop off).take n = vs) : (execOp (ev N f) ⟨d, .field s x k, ty, pos, af, gd⟩).run P w = .ok (.value (.agg vs.toArray)) w := by
  obtain ⟨fs, fl, hu', hf, h1, h2, h3⟩ := fieldB_some h
  subst h1; subst h2; subst hv
  simp [execOp, hx, Instr.field, run_underlying hu', hf, asAgg, run_partN hu ha h3]
theorem r_index1 {T E len : Nat} {x y : Operand} {cs : List Value} {k : IntKind} {i : Int} {v : Value} (hT : P.underlying T = some (.array len E)) {D : TypeDesc} (hu : P.underlying E = some D) (ha : isAggD D = false) (hs : Sz P E 1)
    (hx : ev N f x = .agg cs.toArray) (hy : ev N f y = .int k i) (h0 : 0 ≤ i) (h1 : i < len) (hv : cs[i.toNat]? = some v) : (execOp (ev N f) ⟨d, .index T x y, ty, pos, af, gd⟩).run P w = .ok (.value v) w := by
  have hv' : cs.toArray[i.toNat]? = some v := by simpa using hv
  simp [execOp, hx, hy, Instr.index, asIntOf, run_underlying hT, h0, h1, run_sizeOf hs, run_part1 hu ha hv']
theorem r_indexN {T E len n : Nat} {x y : Operand} {cs vs : List Value} {k : IntKind} {i : Int} (hT : P.underlying T = some (.array len E)) {D : TypeDesc} (hu : P.underlying E = some D) (ha : isAggD D = true) (hs : Sz P E n)
    (hx : ev N f x = .agg cs.toArray) (hy : ev N f y = .int k i) (h0 : 0 ≤ i) (h1 : i < len) (hv : (cs.drop (i.toNat * n)).take n = vs) : (execOp (ev N f) ⟨d, .index T x y, ty, pos, af, gd⟩).run P w = .ok (.value (.agg vs.toArray)) w := by
  subst hv
  simp [execOp, hx, hy, Instr.index, asIntOf, run_underlying hT, h0, h1, run_sizeOf hs, run_partN hu ha hs]
/-- an element's address, of an array in memory -/
theorem r_indexAddrA {T E len n : Nat} {x y : Operand} {k : IntKind} {i : Int} {b o o' : Nat} (hT : P.underlying T = some (.array len E)) (hs : Sz P E n)
    (hx : ev N f x = .pointer (some ⟨b, o, none⟩)) (hy : ev N f y = .int k i) (h0 : 0 ≤ i) (h1 : i < len) (ho : o + i.toNat * n = o') :
    (execOp (ev N f) ⟨d, .indexAddr T x y, ty, pos, af, gd⟩).run P w = .ok (.value (.pointer (some ⟨b, o', none⟩))) w := by
  subst ho
  simp [execOp, hx, hy, Instr.indexAt, asIntOf, run_underlying hT, Instr.sureAddr, h0, h1, run_sizeOf hs, add_lit]
/-- of a slice -/
theorem r_indexAddr {T E n : Nat} {x y : Operand} {k : IntKind} {i : Int} {b o o' len cap : Nat} (hT : P.underlying T = some (.slice E)) (hs : Sz P E n)
    (hx : ev N f x = .slice (some ⟨b, o, none⟩) len cap) (hy : ev N f y = .int k i) (h0 : 0 ≤ i) (h1 : i < len) (ho : o + i.toNat * n = o') :
    (execOp (ev N f) ⟨d, .indexAddr T x y, ty, pos, af, gd⟩).run P w = .ok (.value (.pointer (some ⟨b, o', none⟩))) w := by
  subst ho
  simp [execOp, hx, hy, Instr.indexAt, asIntOf, run_underlying hT, h0, h1, run_sizeOf hs, add_lit]

/-! memory -/
theorem r_load1 {T : TypeId} {x : Operand} {D : TypeDesc} (hu : P.underlying T = some D) (ha : isAggD D = false) {a : Addr} {v : Value} (hx : ev N f x = .pointer (some a)) (hc : w.cell? a = some v) :
    (execOp (ev N f) ⟨d, .load T x, ty, pos, af, gd⟩).run P w = .ok (.value v) w := by
  simp [execOp, hx, Instr.loadAt, Instr.sureAddr, run_loadVar1 hu ha hc]
theorem r_loadN {T : TypeId} {x : Operand} {D : TypeDesc} (hu : P.underlying T = some D) (ha : isAggD D = true) {n : Nat} (hs : Sz P T n) {b o : Nat} {cs : List Value} (hx : ev N f x = .pointer (some ⟨b, o, none⟩)) (hn : cs.length = n)
    (hc : ∀ j v, cs[j]? = some v → w.cell? ⟨b, o + j, none⟩ = some v) : (execOp (ev N f) ⟨d, .load T x, ty, pos, af, gd⟩).run P w = .ok (.value (.agg cs.toArray)) w := by
  simp [execOp, hx, Instr.loadAt, Instr.sureAddr, run_loadVarN hu ha hs hn hc]
theorem r_alloc {T : TypeId} {z : Value} (hz : Zr P T z) : (execOp (ev N f) ⟨d, .alloc T, ty, pos, af, gd⟩).run P w = .ok (.value (.pointer (some ⟨w.heap.size, 0, none⟩))) (w.alloc (.cells z.cells T)) := by
  simp [execOp, Instr.alloc, run_zero hz, newVar, newRow]
theorem r_box {T : TypeId} {x : Operand} {v : Value} (hx : ev N f x = v) : (execOp (ev N f) ⟨d, .box T x, ty, pos, af, gd⟩).run P w = .ok (.value (.pointer (some ⟨w.heap.size, 0, none⟩))) (w.alloc (.cells v.cells T)) := by
  subst hx; simp [execOp, Instr.box, newVar, newRow]
def cellsOf (v : Value) : List Value := v.cells.toList
theorem cells_agg {l : List Value} : cellsOf (.agg l.toArray) = l := by simp [cellsOf, Value.cells]
def spl (cs : List Value) (o : Nat) (vs : List Value) : List Value := cs.take o ++ vs ++ cs.drop (o + vs.length)
def oneAll (vs : List Value) : Bool := vs.all (·.oneCell')
theorem r_store {T : TypeId} {x y : Operand} {n : Nat} (hs : Sz P T n) {b o : Nat} {v : Value} {cs vs : List Value} {U : TypeId} (hx : ev N f x = .pointer (some ⟨b, o, none⟩)) (hy : ev N f y = v) (hv : cellsOf v = vs) (hn : vs.length = n)
    (h1 : oneAll vs = true) (hb : w.heap[b]? = some (.cells cs.toArray U (0, 0))) (hf : o + vs.length ≤ cs.length) :
    (execOp (ev N f) ⟨none, .store T x y, ty, pos, af, gd⟩).run P w = .ok .skip (w.setRow b (spl cs o vs).toArray) := by
  subst hy
  have hvc : (ev N f y).cells = vs.toArray := by
    have : (ev N f y).cells.toList = vs := hv
    rw [← this]
  have hlen : vs.length = n := hn
  have hst := run_storeCells_at P b o U vs 0 cs.toArray w hb (by simpa using hf) (by simpa [oneAll] using h1)
  simp [execOp, hx, Instr.storeAt, Instr.sureAddr, storeVar, run_sizeOf hs, hvc, hlen, hst, spl]
theorem r_extract {x : Operand} {vs : Array Value} {k : Nat} {v : Value} (hx : ev N f x = .tuple vs) (hv : vs[k]? = some v) : (execOp (ev N f) ⟨d, .extract x k, ty, pos, af, gd⟩).run P w = .ok (.value v) w := by
  simp [execOp, hx, Instr.extract, hv]
theorem r_makeFunc {g : Fn} {A B : Array Operand} {C D : Array Value} (hA : A.map (ev N f) = C) (hB : B.map (ev N f) = D) : (execOp (ev N f) ⟨d, .makeFunc g A B, ty, pos, af, gd⟩).run P w = .ok (.value (.func g C D)) w := by
  subst hA; subst hB; simp [execOp, Instr.makeFunc]
/-- the call of a named function -/
theorem r_call {g : FuncId} {fn : Func} {c : Code} {A : Array Operand} {B : Array TypeId} {l : List Value} (hf : P.funcs[g]? = some fn) (hb : fn.body = some c) (hname : fn.name ≠ "runtime.NumGoroutine") (hl : A.toList.map (ev N f) = l) :
    (execOp (ev N f) ⟨d, .call { callee := .value (.func g), args := A, argTypes := B }, ty, pos, af, gd⟩).run P w = .ok (.enter g l.toArray) w := by
  subst hl
  have h1 : A.map (ev N f) = (A.toList.map (ev N f)).toArray := by apply Array.ext'; simp
  simp only [execOp, resolve, ev, Deferred.ofValue, Sem.run_bind, h1]
  simp [invoke, callFunc, hf, hb, hname]
end
end Go.Az
