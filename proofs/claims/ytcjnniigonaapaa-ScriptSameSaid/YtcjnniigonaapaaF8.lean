/-
  FRAMEWORK 8: segments parted and joined; bits; slices cut; bytes and strings; == of structs; values called.
-/
import Derived.Test.YtcjnniigonaapaaF7
import Derived.Laws.StructEq
import Derived.Laws.BytesArg
namespace Go.Az
open Go

section
variable {ks S0 : List Nat} {w0 w : World} {L L' : List Seg} {G G' : List (World → Prop)}
theorem St.flat (M : St ks S0 w0 w L G) (h : L'.flatten = L.flatten) : St ks S0 w0 w L' G := M.sub (h ▸ List.Sublist.refl _) (fun _ h => h)
theorem St.nf (M : St ks S0 w0 w L G) (h : L = L') : St ks S0 w0 w L' G := h ▸ M
theorem St.pad (M : St ks S0 w0 w L G) : St ks S0 w0 w (L ++ [[]]) G := M.flat (by simp)
def SubF : List (World → Prop) → List (World → Prop) → Prop
  | [], _ => True
  | a :: A, b :: B => a = b ∧ SubF A B
  | _ :: _, [] => False
theorem SubF.mem : ∀ {A B : List (World → Prop)}, SubF A B → ∀ F ∈ A, F ∈ B
  | [], _, _, F, h => by cases h
  | a :: A, b :: B, h, F, hF => by
    rcases List.mem_cons.1 hF with e | hF
    · subst e; rw [h.1]; exact List.mem_cons_self ..
    · exact List.mem_cons_of_mem _ (h.2.mem F hF)
  | _ :: _, [], h, _, _ => h.elim
theorem St.only (M : St ks S0 w0 w L G) (hL : SubL L' L) (hG : SubF G' G) : St ks S0 w0 w L' G' := M.sub hL.flat hG.mem
theorem St.pick (M : St ks S0 w0 w L G) (hL : SubL L' L) (hG : ∀ F ∈ G', F ∈ G) : St ks S0 w0 w L' G' := M.sub hL.flat hG
theorem St.lone (M : St ks S0 w0 w L G) (hL : SubL L' L) : St ks S0 w0 w L' [] := M.sub hL.flat nofun
theorem flatten_set_nil : ∀ (L : List Seg) (k : Nat), (L.set k []).flatten = (L.eraseIdx k).flatten
  | [], _ => by simp
  | x :: L, 0 => by simp
  | x :: L, k + 1 => by simp [flatten_set_nil L k]
/-- a segment no longer written: a fact -/
theorem St.frz (M : St ks S0 w0 w L G) {k : Nat} {s : Seg} (hk : L[k]? = some s) (F : World → Prop) (hF : ∀ w', (∀ p ∈ s, w'.heap[p.1]? = some p.2) → F w') : St ks S0 w0 w (L.set k []) (G ++ [F]) := by
  have M1 := M.freeze (perm_at hk)
  have M2 := M1.addFact (F := F) (fun w' ha => hF w' (by
    have := M1.facts _ (List.mem_append_right _ (List.mem_singleton.2 rfl)) w' ha
    simpa using this))
  refine M2.sub ?_ (fun F' h => ?_)
  · rw [flatten_set_nil]; exact List.Sublist.refl _
  · rcases List.mem_append.1 h with h | h
    · exact List.mem_append_left _ (List.mem_append_left _ h)
    · exact List.mem_append_right _ h
theorem Own.slF' {E sz : Nat} {s : Sl} {n : Nat} {cs : List Value} {sg : Seg} (h : Own E sz s n cs sg) (hsz : 0 < sz) {w : World} (hw : ∀ p ∈ sg, w.heap[p.1]? = some p.2) : SlF s n sz cs w := by
  refine ⟨h.1, ?_, ?_, fun hn => ?_⟩
  · rcases h.2 with ⟨rfl, rfl, _⟩ | ⟨_, _, _, _, _, h1, _⟩
    · exact Nat.le_refl _
    · exact h1
  · rcases h.2 with ⟨rfl, rfl, _⟩ | ⟨_, _, _, _, _, h1, h2, _⟩
    · exact Nat.zero_le _
    · simp only [maxLen] at h2; omega
  · rcases h.2 with ⟨_, h0, _⟩ | ⟨b, cur, ha, hsg, hl, hle, hm, ht⟩
    · omega
    · refine ⟨b, 0, ha, fun i x hx => ?_⟩
      rw [Nat.zero_add]
      subst hsg
      refine cell_of (hw _ (List.mem_singleton.2 rfl)) ?_
      rw [← ht, List.getElem?_take] at hx
      split at hx
      · exact hx
      · cases hx
theorem Own.lsF {α : Type} {enc : α → List Value} {E sz : Nat} {s : Sl} {xs : List α} {sg : Seg} (h : Own E sz s xs.length (xs.flatMap enc) sg) (hsz : 0 < sz) (he : ∀ x ∈ xs, (enc x).length = sz) {w : World} (hw : ∀ p ∈ sg, w.heap[p.1]? = some p.2) : LsF enc sz s xs w :=
  ⟨h.slF' hsz hw, he⟩
theorem slF_new {b n sz U : Nat} {cs : List Value} {w : World} (hw : ∀ p ∈ [(b, C cs U)], w.heap[p.1]? = some p.2) (hl : cs.length = n * sz) (hm : Nat.ble n 9223372036854775807 = true) : SlF ⟨some ⟨b, 0, none⟩, n⟩ n sz cs w :=
  ⟨hl, Nat.le_refl _, Nat.le_of_ble_eq_true hm, fun _ => ⟨b, 0, rfl, fun i x hx => by rw [Nat.zero_add]; exact cell_of (hw _ (List.mem_singleton.2 rfl)) hx⟩⟩
/-- a row just built, as a slice of the call's own -/
theorem own_lit {E sz b n : Nat} {cs : List Value} (hl : cs.length = n * sz) (hm : n ≤ maxLen) : Own E sz ⟨some ⟨b, 0, none⟩, n⟩ n cs [(b, C cs E)] :=
  ⟨hl, .inr ⟨b, cs, rfl, rfl, hl, Nat.le_refl _, hm, by rw [← hl, List.take_length]⟩⟩
theorem Own.src {P : Program} {tx E E' sz : Nat} {s : Sl} {n : Nat} {cs : List Value} {sg : Seg} (hk : P.underlying tx = some (.slice E)) (h1 : oneAll cs = true) (hsz : 0 < sz) (M : St ks S0 w0 w L G) {k : Nat} (hl : L[k]? = some sg) (h : Own E' sz s n cs sg) : Src P sz tx (s.v n) n cs w :=
  (h.slF M hl hsz).src hk h1
theorem LsF.addr {α : Type} {enc : α → List Value} {sz : Nat} {s : Sl} {xs : List α} (h : LsF enc sz s xs w) (hi : 0 < xs.length) : ∃ b o, s.a = some ⟨b, o, none⟩ := by
  obtain ⟨b, o, ha, _⟩ := h.sl.at_ hi
  exact ⟨b, o, ha⟩
theorem LsF.cell {α : Type} {enc : α → List Value} {sz : Nat} {s : Sl} {xs : List α} (h : LsF enc sz s xs w) {b o i : Nat} {x : α} (ha : s.a = some ⟨b, o, none⟩) (hi : xs[i]? = some x) {j : Nat} {v : Value} (hv : (enc x)[j]? = some v) :
    w.cell? ⟨b, o + i * sz + j, none⟩ = some v := by
  obtain ⟨b', o', ha', hc⟩ := h.at_ hi
  rw [ha] at ha'
  simp only [Option.some.injEq, Addr.mk.injEq, and_true] at ha'
  obtain ⟨rfl, rfl⟩ := ha'
  exact hc j v hv
theorem LsF.cell0 {α : Type} {enc : α → List Value} {s : Sl} {xs : List α} (h : LsF enc 1 s xs w) {b o i : Nat} {x : α} (ha : s.a = some ⟨b, o, none⟩) (hi : xs[i]? = some x) {v : Value} (hv : (enc x)[0]? = some v) :
    w.cell? ⟨b, o + i * 1, none⟩ = some v := h.cell ha hi hv
end

section
variable {P : Program} {N : Nat} {l : List Oper} {ks S0 : List Nat} {w0 : World} {Cq : World → Prop} {Qf : (Nat → Value) → World → Prop} {σ : List (Kd × Nat)} {f : Nat → Value} {L L' : List Seg} {G : List (World → Prop)}
theorem w_nf (h : L = L') (hr : RW P N l ks S0 w0 Cq Qf σ f L' G) : RW P N l ks S0 w0 Cq Qf σ f L G := h ▸ hr
end
/-! ### bits -/
theorem sl64 {i c n : Int} {j : Nat} (hp : (2 : Int) ^ (min j IntKind.i64.bits) = c) (h1 : -9223372036854775808 ≤ i * c) (h2 : i * c ≤ 9223372036854775807) (hn : i * c = n) : IntKind.i64.wrap (i * 2 ^ (min j IntKind.i64.bits)) = n := by
  rw [hp, hn]; rw [hn] at h1 h2; exact w64 h1 h2
theorem sr {i c : Int} {m : Nat} (hp : (2 : Int) ^ m = c) (hc : 0 < c) : i.fdiv (2 ^ m) = i / c := by
  rw [hp, Int.fdiv_eq_ediv_of_nonneg _ (by omega)]
theorem qu64 {i j : Int} (h0 : 0 ≤ i) (h1 : i ≤ 18446744073709551615) (hj : 0 < j) : IntKind.u64.wrap (i.tdiv j) = i / j := by
  rw [Int.tdiv_eq_ediv_of_nonneg h0]
  have h2 : 0 ≤ i / j := Int.ediv_nonneg h0 (by omega)
  have h3 : i / j ≤ i := Int.ediv_le_self _ h0
  exact wu64 (by omega) (by omega)
theorem q8 {i j : Int} (h0 : 0 ≤ i) (h1 : i ≤ 255) (hj : 0 < j) : IntKind.u8.wrap (i.tdiv j) = i / j := by
  rw [Int.tdiv_eq_ediv_of_nonneg h0]
  have h2 : 0 ≤ i / j := Int.ediv_nonneg h0 (by omega)
  have h3 : i / j ≤ i := Int.ediv_le_self _ h0
  exact w8 (by omega) (by omega)
theorem wrU64 {x : Int} : IntKind.u64.wrap x = x % 18446744073709551616 := by rw [IntKind.wrap_u64]
theorem wr8 {x : Int} : IntKind.u8.wrap x = x % 256 := by rw [IntKind.wrap_u8]
theorem i64succ (k : Nat) : Value.int .i64 ((k : Int) + 1) = .int .i64 ((k + 1 : Nat) : Int) := by simp
theorem toNat_ofInt (n : Nat) (i : Int) : ((BitVec.ofInt n i).toNat : Int) = i % (2 ^ n : Nat) := by
  rw [BitVec.toNat_ofInt]
  have : 0 ≤ i % ((2 ^ n : Nat) : Int) := Int.emod_nonneg _ (by have := Nat.two_pow_pos n; omega)
  omega
theorem and_mask (n : Nat) (i : Int) (s : Nat) (hs : s ≤ n) : (BitVec.ofInt n i &&& BitVec.ofNat n (2 ^ s - 1)).toNat = (BitVec.ofInt n i).toNat % 2 ^ s := by
  rw [BitVec.toNat_and, BitVec.toNat_ofNat]
  have h1 : 2 ^ s ≤ 2 ^ n := Nat.pow_le_pow_right (by decide) hs
  have h2 := Nat.two_pow_pos s
  rw [Nat.mod_eq_of_lt (by omega), Nat.and_two_pow_sub_one_eq_mod]
theorem and127 {i : Int} : bAnd .u8 i 127 = i % 128 := by
  have h : (BitVec.ofInt 8 i &&& BitVec.ofInt 8 127).toNat = (BitVec.ofInt 8 i).toNat % 128 := and_mask 8 i 7 (by decide)
  have h2 := toNat_ofInt 8 i
  show IntKind.u8.wrap ((BitVec.ofInt 8 i &&& BitVec.ofInt 8 127).toNat : Int) = _
  rw [h]
  rw [w8 (by omega) (by omega)]
  omega
theorem and1 {i : Int} : bAnd .u64 i 1 = i % 2 := by
  have h : (BitVec.ofInt 64 i &&& BitVec.ofInt 64 1).toNat = (BitVec.ofInt 64 i).toNat % 2 := and_mask 64 i 1 (by decide)
  have h2 := toNat_ofInt 64 i
  show IntKind.u64.wrap ((BitVec.ofInt 64 i &&& BitVec.ofInt 64 1).toNat : Int) = _
  rw [h]
  rw [wu64 (by omega) (by omega)]
  omega
theorem and3 {i : Int} : bAnd .i16 i 3 = i % 4 := by
  have h : (BitVec.ofInt 16 i &&& BitVec.ofInt 16 3).toNat = (BitVec.ofInt 16 i).toNat % 4 := and_mask 16 i 2 (by decide)
  have h2 := toNat_ofInt 16 i
  show IntKind.i16.wrap ((BitVec.ofInt 16 i &&& BitVec.ofInt 16 3).toNat : Int) = _
  rw [h]
  rw [w16 (by omega) (by omega)]
  omega
theorem or128 {i : Int} : bOr .u8 i 128 = i % 128 + 128 := by
  have h2 := toNat_ofInt 8 i
  have h3 : (BitVec.ofInt 8 i ||| BitVec.ofInt 8 128).toNat = (BitVec.ofInt 8 i).toNat % 128 + 128 := by
    rw [BitVec.toNat_or]
    have h4 : (BitVec.ofInt 8 128).toNat = 2 ^ 7 * 1 := by decide
    have h5 : (BitVec.ofInt 8 i).toNat = 2 ^ 7 * ((BitVec.ofInt 8 i).toNat / 128) + (BitVec.ofInt 8 i).toNat % 128 := by omega
    have hlt : (BitVec.ofInt 8 i).toNat / 128 < 2 := by have := (BitVec.ofInt 8 i).isLt; omega
    generalize (BitVec.ofInt 8 i).toNat = m at *
    rw [h4]
    have h6 : m % 128 < 2 ^ 7 := by omega
    rcases (by omega : m / 128 = 0 ∨ m / 128 = 1) with e | e
    · have : m % 128 = m := by omega
      rw [this, Nat.or_comm, ← Nat.two_pow_add_eq_or_of_lt (by omega)]; omega
    · have h8 := Nat.two_pow_add_eq_or_of_lt h6 1
      have : m = 2 ^ 7 * 1 ||| m % 128 := by rw [← h8]; omega
      rw [this, Nat.or_assoc, Nat.or_comm (m % 128), ← Nat.or_assoc, Nat.or_self, ← h8]
      omega
  show IntKind.u8.wrap ((BitVec.ofInt 8 i ||| BitVec.ofInt 8 128).toNat : Int) = _
  rw [h3]
  rw [w8 (by omega) (by omega)]
  omega
/-- n |= c << s -/
theorem orShl {a c : Int} {s : Nat} (ha : 0 ≤ a) (hl : a < 2 ^ s) (hs : s < 64) (hc : 0 ≤ c) (hb : c * 2 ^ s < 18446744073709551616) : bOr .u64 a (c * 2 ^ s) = a + c * 2 ^ s := by
  obtain ⟨m, rfl⟩ := Int.eq_ofNat_of_zero_le ha
  obtain ⟨k, rfl⟩ := Int.eq_ofNat_of_zero_le hc
  have hl' : m < 2 ^ s := by exact_mod_cast hl
  have h64' : (2 : Nat) ^ 64 = 18446744073709551616 := by decide
  have hb' : k * 2 ^ s < 18446744073709551616 := by
    have h : ((k * 2 ^ s : Nat) : Int) < ((18446744073709551616 : Nat) : Int) := by rw [Int.natCast_mul, Int.natCast_pow]; exact hb
    exact Int.ofNat_lt.1 h
  have hm : m < 18446744073709551616 := by
    have : 2 ^ s ≤ 2 ^ 63 := Nat.pow_le_pow_right (by decide) (by omega)
    omega
  have e1 : (BitVec.ofInt 64 (m : Int)).toNat = m := by rw [BitVec.ofInt_natCast, BitVec.toNat_ofNat]; omega
  have e2 : (BitVec.ofInt 64 ((k : Int) * 2 ^ s)).toNat = 2 ^ s * k := by
    have : ((k : Int) * 2 ^ s) = ((k * 2 ^ s : Nat) : Int) := by push_cast; rfl
    rw [this, BitVec.ofInt_natCast, BitVec.toNat_ofNat, Nat.mul_comm (2 ^ s)]; omega
  show IntKind.u64.wrap ((BitVec.ofInt 64 (m : Int) ||| BitVec.ofInt 64 ((k : Int) * 2 ^ s)).toNat : Int) = _
  rw [BitVec.toNat_or, e1, e2, Nat.or_comm, ← Nat.two_pow_add_eq_or_of_lt hl']
  have e3 : ((2 ^ s * k + m : Nat) : Int) = (m : Int) + (k : Int) * 2 ^ s := by push_cast; rw [Int.mul_comm]; omega
  have hsum : 2 ^ s * k + m < 18446744073709551616 := by
    have hk : 2 ^ s * k + m < 2 ^ s * (k + 1) := by rw [Nat.mul_add]; omega
    have hd : k + 1 ≤ 2 ^ (64 - s) := by
      have h64 : (18446744073709551616 : Nat) = 2 ^ (64 - s) * 2 ^ s := by rw [← Nat.pow_add, show 64 - s + s = 64 by omega]
      rw [h64] at hb'
      exact Nat.lt_of_mul_lt_mul_right hb'
    calc 2 ^ s * k + m < 2 ^ s * (k + 1) := hk
      _ ≤ 2 ^ s * 2 ^ (64 - s) := Nat.mul_le_mul_left _ hd
      _ = 18446744073709551616 := by rw [← Nat.pow_add, show s + (64 - s) = 64 by omega]
  rw [wu64 (by omega) (by omega), e3]
/-- 0, -1, 1, -2 as 0, 1, 2, 3 -/
def zig (n : Int) : Int := if n < 0 then -(n + 1) * 2 + 1 else n * 2
theorem zigxor {n a b : Int} (h1 : -9223372036854775808 ≤ n) (h2 : n ≤ 9223372036854775807) (ha : a = (n % 18446744073709551616) * 2 % 18446744073709551616) (hb : b = (n / 9223372036854775808) % 18446744073709551616) : bXor .u64 a b = zig n := by
  unfold zig
  show IntKind.u64.wrap ((BitVec.ofInt 64 a ^^^ BitVec.ofInt 64 b).toNat : Int) = _
  split
  · rename_i hn
    have hb1 : b = 18446744073709551615 := by omega
    subst hb1
    have e : BitVec.ofInt 64 (18446744073709551615) = BitVec.allOnes 64 := by decide
    rw [e, BitVec.xor_allOnes, BitVec.toNat_not]
    have h3 := toNat_ofInt 64 a
    rw [wu64 (by omega) (by omega)]
    omega
  · rename_i hn
    have hb0 : b = 0 := by omega
    subst hb0
    have e : BitVec.ofInt 64 0 = 0#64 := by decide
    rw [e, BitVec.xor_zero]
    have h3 := toNat_ofInt 64 a
    rw [wu64 (by omega) (by omega)]
    omega
def zag (u : Int) : Int := if u % 2 = 0 then u / 2 else -(u / 2) - 1
theorem zagxor {u a b : Int} (h1 : 0 ≤ u) (h2 : u < 18446744073709551616) (ha : a = u / 2) (hb : b = -(u % 2)) : bXor .i64 a b = zag u := by
  unfold zag
  show IntKind.i64.wrap ((BitVec.ofInt 64 a ^^^ BitVec.ofInt 64 b).toNat : Int) = _
  split
  · rename_i hn
    have hb0 : b = 0 := by omega
    subst hb0
    have e : BitVec.ofInt 64 0 = 0#64 := by decide
    rw [e, BitVec.xor_zero]
    have h3 := toNat_ofInt 64 a
    rw [w64 (by omega) (by omega)]
    omega
  · rename_i hn
    have hb1 : b = -1 := by omega
    subst hb1
    have e : BitVec.ofInt 64 (-1) = BitVec.allOnes 64 := by decide
    rw [e, BitVec.xor_allOnes, BitVec.toNat_not]
    have h3 := toNat_ofInt 64 a
    rw [IntKind.wrap_i64]
    omega
theorem zag_zig {n : Int} : zag (zig n) = n := by unfold zag zig; split <;> omega
theorem zig_lt {n : Int} (h1 : -9223372036854775808 ≤ n) (h2 : n ≤ 9223372036854775807) : 0 ≤ zig n ∧ zig n < 18446744073709551616 := by unfold zig; split <;> omega

/-! ### bytes -/
def bv (l : List Int) : List Value := l.map (Value.int .u8)
@[simp] theorem bv_length (l : List Int) : (bv l).length = l.length := by simp [bv]
theorem bv_append (l m : List Int) : bv (l ++ m) = bv l ++ bv m := by simp [bv]
theorem bv_one (l : List Int) : oneAll (bv l) = true := by simp [oneAll, bv, Value.oneCell']
def By8 (l : List Int) : Prop := ∀ x ∈ l, 0 ≤ x ∧ x < 256
theorem By8.append {l m : List Int} (h : By8 l) (k : By8 m) : By8 (l ++ m) := fun x hx => by
  rcases List.mem_append.1 hx with h1 | h1
  · exact h x h1
  · exact k x h1
theorem By8.nil : By8 [] := fun _ h => by cases h
theorem By8.cons {x : Int} {l : List Int} (h0 : 0 ≤ x) (h1 : x < 256) (h : By8 l) : By8 (x :: l) := fun y hy => by
  rcases List.mem_cons.1 hy with e | e
  · subst e; exact ⟨h0, h1⟩
  · exact h y e
theorem strOf_inj {l m : List Int} (hl : By8 l) (hm : By8 m) (h : (strOfNums l).toList = (strOfNums m).toList) : l = m := by
  have e : ∀ l : List Int, (strOfNums l).toList = l.map fun n => UInt8.ofNat n.toNat := fun l => by
    rw [ByteArray.toList_eq]; simp [strOfNums]
  rw [e, e] at h
  clear e
  induction l generalizing m with
  | nil => cases m with
    | nil => rfl
    | cons _ _ => simp at h
  | cons x l ih => cases m with
    | nil => simp at h
    | cons y m =>
      simp only [List.map_cons, List.cons.injEq] at h
      have hx := hl x (List.mem_cons_self ..)
      have hy := hm y (List.mem_cons_self ..)
      have e1 := congrArg UInt8.toNat h.1
      rw [UInt8.toNat_ofNat', UInt8.toNat_ofNat'] at e1
      have : x = y := by omega
      rw [this, ih (fun z hz => hl z (List.mem_cons_of_mem _ hz)) (fun z hz => hm z (List.mem_cons_of_mem _ hz)) h.2]

section
variable {P : Program} {N : Nat} {f : Nat → Value} {w : World} {d : Option Nat} {ty : TypeId} {pos : String} {af : Array Edge} {gd : Option (Nat × Bool)}
theorem r_bytesStr {src dst e : TypeId} {x : Operand} {s : Sl} {n : Nat} {l : List Int} (hs : P.underlying src = some (.slice e)) (he : P.underlying e = some (.int .u8)) (hd : P.underlying dst = some .string) (hx : ev N f x = s.v n) (h : SlF s n 1 (bv l) w) :
    (execOp (ev N f) ⟨d, .convert src dst x, ty, pos, af, gd⟩).run P w = .ok (.value (.string (strOfNums l))) w := by
  have hn : l.length = n := by have := h.len; simpa using this
  obtain ⟨a, c⟩ := s
  by_cases h0 : 0 < n
  · obtain ⟨b, o, ha, hc⟩ := h.at_ h0
    simp only at ha
    subst ha
    have := run_convert_bytes_arg (P := P) w src e hs he b o n c l hn (fun i hi => hc i _ (by
      simp [bv, List.getD_eq_getElem?_getD, List.getElem?_eq_getElem (by omega : i < l.length)])) dst hd
    simp [execOp, hx, this]
  · have hl : l = [] := List.eq_nil_of_length_eq_zero (by omega)
    obtain rfl : n = 0 := by omega
    subst hl
    cases a with
    | none =>
      have := run_convert_bytes_nil (P := P) w src e hs he 0 c dst hd
      simp [execOp, hx, this]
      rfl
    | some a =>
      obtain ⟨b, o, v⟩ := a
      rw [show (execOp (ev N f) ⟨d, .convert src dst x, ty, pos, af, gd⟩) = (do pure (.value (← convert src dst (ev N f x)))) from rfl, hx]
      have h1 := run_convert_bytes_string (P := P) w src dst e (some ⟨b, o, v⟩) 0 c hs he hd
      have h2 := run_bytesToString (P := P) w ⟨b, o, v⟩ 0 c [] (by simpa using run_loadCells_list (P := P) w ⟨b, o, v⟩ [] (by simp))
      rw [h2] at h1
      simp [h1]
      rfl
theorem r_eqls {xT yT : TypeId} {x y : Operand} {u v : ByteArray} (hx : ev N f x = .string u) (hy : ev N f y = .string v) :
    (execOp (ev N f) ⟨d, .binOp .eql xT x y yT, ty, pos, af, gd⟩).run P w = .ok (.value (.bool (u.toList == v.toList))) w := by
  simp [execOp, hx, hy, eqGuard, binOp, Op.stringOp]
theorem r_neqs {xT yT : TypeId} {x y : Operand} {u v : ByteArray} (hx : ev N f x = .string u) (hy : ev N f y = .string v) :
    (execOp (ev N f) ⟨d, .binOp .neq xT x y yT, ty, pos, af, gd⟩).run P w = .ok (.value (.bool (!(u.toList == v.toList)))) w := by
  simp [execOp, hx, hy, eqGuard, binOp, Op.stringOp]

/-! slices cut -/
theorem add0 (a : Addr) : a.add 0 = a := by unfold Addr.add; split <;> simp_all
theorem r_sliceHi {T E n : Nat} {x y : Operand} {s : Sl} {m : Nat} {k : IntKind} {i : Int} (hT : P.underlying T = some (.slice E)) (hs : Sz P E n) (hx : ev N f x = s.v m) (hy : ev N f y = .int k i) (h0 : 0 ≤ i) (h1 : i ≤ s.c) :
    (execOp (ev N f) ⟨d, .slice T x none (some y) none, ty, pos, af, gd⟩).run P w = .ok (.value (s.v i.toNat)) w := by
  obtain ⟨a, c⟩ := s
  simp only at h1
  simp [execOp, hx, hy, Instr.sliceAt, Instr.slice, Instr.sliceBounds, Instr.sliceBound, asIntOf, run_underlying hT, run_sizeOf hs, h0, h1, add0]
theorem r_sliceLH {T E n : Nat} {x y z : Operand} {a : Option Addr} {m c : Nat} {k k' : IntKind} {i j : Int} (hT : P.underlying T = some (.slice E)) (hs : Sz P E n) (hx : ev N f x = .slice a m c) (hy : ev N f y = .int k i) (hz : ev N f z = .int k' j) (h0 : 0 ≤ i) (h1 : i ≤ j) (h2 : j ≤ c) :
    (execOp (ev N f) ⟨d, .slice T x (some y) (some z) none, ty, pos, af, gd⟩).run P w = .ok (.value (.slice (if c = i.toNat then a else a.map (·.add (i.toNat * n))) (j.toNat - i.toNat) (c - i.toNat))) w := by
  have h3 : 0 ≤ j := by omega
  have h4 : i ≤ (j.toNat : Int) := by omega
  simp [execOp, hx, hy, hz, Instr.sliceAt, Instr.slice, Instr.sliceBounds, Instr.sliceBound, asIntOf, run_underlying hT, run_sizeOf hs, h0, h2, h3, h4]
  intro hh; omega
theorem r_sliceArr {T E n len : Nat} {x : Operand} {b o : Nat} (hT : P.underlying T = some (.array len E)) (hs : Sz P E n) (hx : ev N f x = .pointer (some ⟨b, o, none⟩)) :
    (execOp (ev N f) ⟨d, .slice T x none none none, ty, pos, af, gd⟩).run P w = .ok (.value (.slice (some ⟨b, o, none⟩) len len)) w := by
  simp [execOp, hx, Instr.sliceAt, Instr.slice, Instr.sliceBounds, Instr.sureAddr, run_underlying hT, run_sizeOf hs, add0]

/-! values called -/
theorem r_callv {g : FuncId} {fn : Func} {c : Code} {x : Operand} {A : Array Operand} {B : Array TypeId} {l cap : List Value} (hf : P.funcs[g]? = some fn) (hb : fn.body = some c) (hname : fn.name ≠ "runtime.NumGoroutine")
    (hx : ev N f x = .func (.func g) #[] cap.toArray) (hl : A.toList.map (ev N f) = l) :
    (execOp (ev N f) ⟨d, .call { callee := .value x, args := A, argTypes := B }, ty, pos, af, gd⟩).run P w = .ok (.enter g (l ++ cap).toArray) w := by
  subst hl
  have h1 : A.map (ev N f) = (A.toList.map (ev N f)).toArray := by apply Array.ext'; simp
  simp only [execOp, resolve, hx, Deferred.ofValue, Sem.run_bind, h1]
  simp [invoke, callFunc, hf, hb, hname]
end

/-! ### == of structs -/
/-- leaves: numbers of a kind; bools -/
def Fit : List (Option IntKind) → List Value → Prop
  | [], [] => True
  | some k :: ks, .int k' _ :: vs => k = k' ∧ Fit ks vs
  | none :: ks, .bool _ :: vs => Fit ks vs
  | _, _ => False
def kindB : IntKind → IntKind → Bool := fun a b => decide (a = b)
def fitb : List (Option IntKind) → List Value → Bool
  | [], [] => true
  | some k :: ks, .int k' _ :: vs => kindB k k' && fitb ks vs
  | none :: ks, .bool _ :: vs => fitb ks vs
  | _, _ => false
theorem fit_of : ∀ {ks : List (Option IntKind)} {vs : List Value}, fitb ks vs = true → Fit ks vs
  | [], [], _ => trivial
  | some k :: ks, .int k' _ :: vs, h => by
    have h' : (kindB k k' && fitb ks vs) = true := h
    rw [Bool.and_eq_true] at h'
    exact ⟨of_decide_eq_true h'.1, fit_of h'.2⟩
  | none :: ks, .bool _ :: vs, h => (fit_of h : Fit ks vs)
def eqL : List Value → List Value → Bool
  | [], [] => true
  | .int _ a :: xs, .int _ b :: ys => (a == b) && eqL xs ys
  | .bool a :: xs, .bool b :: ys => (a == b) && eqL xs ys
  | _, _ => false
noncomputable def eqv (xs ys : List Value) : Bool := @decide (xs = ys) (Classical.propDecidable _)
theorem eqv_true {xs ys : List Value} : eqv xs ys = true ↔ xs = ys := @decide_eq_true_iff _ (Classical.propDecidable _)
theorem eqv_false {xs ys : List Value} : eqv xs ys = false ↔ ¬ xs = ys := @decide_eq_false_iff_not _ (Classical.propDecidable _)
theorem eqL_eqv : ∀ {ks : List (Option IntKind)} {xs ys : List Value}, Fit ks xs → Fit ks ys → eqL xs ys = eqv xs ys := by
  have key : ∀ {ks : List (Option IntKind)} {xs ys : List Value}, Fit ks xs → Fit ks ys → (eqL xs ys = true ↔ xs = ys) := by
    intro ks
    induction ks with
    | nil =>
      intro xs ys hx hy
      match xs, ys, hx, hy with
      | [], [], _, _ => simp [eqL]
    | cons k ks ih =>
      intro xs ys hx hy
      cases k with
      | none =>
        match xs, ys, hx, hy with
        | .bool a :: xs, .bool b :: ys, hx, hy =>
          have h1 : Fit ks xs := hx
          have h2 : Fit ks ys := hy
          simp [eqL, ih h1 h2]
      | some k =>
        match xs, ys, hx, hy with
        | .int k1 a :: xs, .int k2 b :: ys, hx, hy =>
          obtain ⟨rfl, h1⟩ := hx
          obtain ⟨rfl, h2⟩ := hy
          simp [eqL, ih h1 h2]
  intro ks xs ys hx hy
  have h := key hx hy
  cases e : eqL xs ys with
  | true => exact (eqv_true.2 (h.1 e)).symm
  | false => exact (eqv_false.2 fun he => by rw [h.2 he] at e; cases e).symm
theorem Fit.len : ∀ {ks : List (Option IntKind)} {vs : List Value}, Fit ks vs → vs.length = ks.length
  | [], [], _ => rfl
  | some k :: ks, .int k' _ :: vs, h => by simp [h.2.len]
  | none :: ks, .bool _ :: vs, h => by have : Fit ks vs := h; simp [this.len]
  | [], _ :: _, h => h.elim
  | _ :: _, [], h => by cases ‹Option IntKind› <;> exact h.elim
theorem Fit.split : ∀ {ks ks' : List (Option IntKind)} {vs : List Value}, Fit (ks ++ ks') vs → Fit ks (vs.take ks.length) ∧ Fit ks' (vs.drop ks.length)
  | [], ks', vs, h => ⟨by simp [Fit], by simpa using h⟩
  | some k :: ks, ks', .int k' _ :: vs, h => by
    have h' : k = k' ∧ Fit (ks ++ ks') vs := h
    exact ⟨⟨h'.1, h'.2.split.1⟩, h'.2.split.2⟩
  | none :: ks, ks', .bool _ :: vs, h => by
    have h' : Fit (ks ++ ks') vs := h
    exact ⟨h'.split.1, h'.split.2⟩
theorem eqL_append : ∀ {ks : List (Option IntKind)} {xs ys xs' ys' : List Value}, Fit ks xs → Fit ks ys → eqL (xs ++ xs') (ys ++ ys') = (eqL xs ys && eqL xs' ys')
  | [], [], [], _, _, _, _ => by simp [eqL]
  | some k :: ks, .int _ a :: xs, .int _ b :: ys, xs', ys', h, k' => by
    simp only [List.cons_append, eqL, eqL_append h.2 k'.2, Bool.and_assoc]
  | none :: ks, .bool a :: xs, .bool b :: ys, xs', ys', h, k' => by
    have h1 : Fit ks xs := h
    have h2 : Fit ks ys := k'
    simp only [List.cons_append, eqL, eqL_append h1 h2, Bool.and_assoc]
def asV (agg : Bool) (xs : List Value) : Value := if agg then .agg xs.toArray else xs.headD undef
/-- t: values of these leaves; == holds them leaf by leaf -/
structure FE (P : Program) (t : TypeId) (agg : Bool) (ks : List (Option IntKind)) (c : Nat) : Prop where
  desc : ∃ D, P.underlying t = some D ∧ isAggD D = agg
  size : Sz P t ks.length
  one : agg = false → ks.length = 1
  eq : ∀ d xs ys (w : World), c ≤ d → Fit ks xs → Fit ks ys → (Op.equalIn d t (asV agg xs) (asV agg ys)).run P w = .ok (eqL xs ys) w
theorem FE.up {P : Program} {t : TypeId} {agg : Bool} {ks : List (Option IntKind)} {c c' : Nat} (h : FE P t agg ks c) (hc : Nat.ble c c' = true) : FE P t agg ks c' :=
  ⟨h.desc, h.size, h.one, fun d xs ys w hd => h.eq d xs ys w (Nat.le_trans (Nat.le_of_ble_eq_true hc) hd)⟩
section
variable {P : Program} {t E : TypeId} {k : IntKind}
theorem FE.int (hu : P.underlying t = some (.int k)) (hs : Sz P t 1) : FE P t false [some k] 1 :=
  ⟨⟨_, hu, rfl⟩, hs, fun _ => rfl, fun d xs ys w hd hx hy => by
    obtain ⟨d, rfl⟩ : ∃ e, d = e + 1 := ⟨d - 1, by omega⟩
    match xs, ys, hx, hy with
    | [.int k1 a], [.int k2 b], hx, hy =>
      obtain ⟨rfl, _⟩ := hx
      obtain ⟨rfl, _⟩ := hy
      simp [asV, eqL, run_equalIn_int w d t k k a b hu]⟩
theorem FE.bool (hu : P.underlying t = some .bool) (hs : Sz P t 1) : FE P t false [none] 1 :=
  ⟨⟨_, hu, rfl⟩, hs, fun _ => rfl, fun d xs ys w hd hx hy => by
    obtain ⟨d, rfl⟩ : ∃ e, d = e + 1 := ⟨d - 1, by omega⟩
    match xs, ys, hx, hy with
    | [.bool a], [.bool b], _, _ => simp [asV, eqL, run_equalIn_bool' w d t a b hu]⟩
theorem FE.part {agg : Bool} {ks : List (Option IntKind)} {c : Nat} (h : FE P t agg ks c) {cs : List Value} {o : Nat} {w : World} (ho : o + ks.length ≤ cs.length) : (part t cs.toArray o).run P w = .ok (asV agg ((cs.drop o).take ks.length)) w := by
  obtain ⟨D, hu, ha⟩ := h.desc
  cases agg with
  | true => simp [run_partN hu ha h.size, asV]
  | false =>
    have h1 := h.one rfl
    rw [h1]
    have hlt : o < cs.length := by omega
    have hv : cs.toArray[o]? = some cs[o] := by simp [hlt]
    rw [run_part1 hu ha hv]
    simp only [asV, Bool.false_eq_true, if_false]
    rw [List.drop_eq_getElem_cons hlt]; rfl
/-- fields from o on -/
inductive FEs (P : Program) (c : Nat) : Nat → List Field → List (Option IntKind) → Prop
  | nil (o : Nat) : FEs P c o [] []
  | cons {o : Nat} {f : Field} {fs : List Field} {agg : Bool} {ks ks' : List (Option IntKind)} (hn : f.name ≠ "_") (ho : f.offset = o) (h : FE P f.type agg ks c) (hs : FEs P c (o + ks.length) fs ks') : FEs P c o (f :: fs) (ks ++ ks')
theorem FEs.run {c : Nat} {o : Nat} {fs : List Field} {ks : List (Option IntKind)} (h : FEs P c o fs ks) : ∀ {d : Nat} {xs ys : List Value} {w : World}, c ≤ d → Fit ks (xs.drop o) → Fit ks (ys.drop o) → o ≤ xs.length → o ≤ ys.length →
    (Op.eqFields d xs.toArray ys.toArray fs).run P w = .ok (eqL (xs.drop o) (ys.drop o)) w := by
  induction h with
  | nil o =>
    intro d xs ys w _ hx hy _ _
    have e1 : xs.drop o = [] := List.eq_nil_of_length_eq_zero hx.len
    have e2 : ys.drop o = [] := List.eq_nil_of_length_eq_zero hy.len
    simp [Op.eqFields, e1, e2, eqL]
  | @cons o f fs agg ks ks' hn ho h hs ih =>
    intro d xs ys w hd hx hy hlx hly
    have l1 := hx.len
    have l2 := hy.len
    simp only [List.length_drop, List.length_append] at l1 l2
    have s1 := hx.split
    have s2 := hy.split
    rw [List.drop_drop] at s1 s2
    have e1 : xs.drop o = (xs.drop o).take ks.length ++ xs.drop (o + ks.length) := by rw [← List.drop_drop, List.take_append_drop]
    have e2 : ys.drop o = (ys.drop o).take ks.length ++ ys.drop (o + ks.length) := by rw [← List.drop_drop, List.take_append_drop]
    have hr := ih (d := d) (w := w) hd s1.2 s2.2 (by omega) (by omega)
    rw [e1, e2, eqL_append s1.1 s2.1]
    subst ho
    simp only [Op.eqFields, hn, ne_eq, not_false_eq_true, if_true, Sem.run_bind, h.part (by omega : f.offset + ks.length ≤ xs.length), h.part (by omega : f.offset + ks.length ≤ ys.length), Result.andThen_ok, h.eq d _ _ w hd s1.1 s2.1]
    cases eqL ((xs.drop f.offset).take ks.length) ((ys.drop f.offset).take ks.length) with
    | true => simpa using hr
    | false => simp
theorem FE.struct {c : Nat} {ks : List (Option IntKind)} {fs : List Field} (hu : P.underlying t = some (.struct fs.toArray)) (h : FEs P c 0 fs ks) (hp : P.stoodInHeld t = false) (hs : Sz P t ks.length) : FE P t true ks (c + 1) :=
  ⟨⟨_, hu, rfl⟩, hs, nofun, fun d xs ys w hd hx hy => by
    obtain ⟨d, rfl⟩ : ∃ e, d = e + 1 := ⟨d - 1, by omega⟩
    have hf : P.fieldsOf t = fs.toArray := by simp [Program.fieldsOf, hu]
    have := run_equalIn_agg (P := P) w d t xs.toArray ys.toArray (by rw [hf]; exact hu) hp
    simp only [asV, if_true]
    rw [this, hf]
    simpa using h.run (d := d) (w := w) (xs := xs) (ys := ys) (by omega) (by simpa using hx) (by simpa using hy) (Nat.zero_le _) (Nat.zero_le _)⟩
def rep : Nat → List (Option IntKind) → List (Option IntKind)
  | 0, _ => []
  | n + 1, ks => ks ++ rep n ks
theorem rep_length (n : Nat) (ks : List (Option IntKind)) : (rep n ks).length = n * ks.length := by
  induction n with
  | zero => simp [rep]
  | succ n ih => simp [rep, ih, Nat.succ_mul]; omega
theorem FE.array {agg : Bool} {c len : Nat} {ks : List (Option IntKind)} (hu : P.underlying t = some (.array len E)) (h : FE P E agg ks c) (hs : Sz P t (rep len ks).length) : FE P t true (rep len ks) (c + 1) :=
  ⟨⟨_, hu, rfl⟩, hs, nofun, fun d xs ys w hd hx hy => by
    obtain ⟨d, rfl⟩ : ∃ e, d = e + 1 := ⟨d - 1, by omega⟩
    have key : ∀ (m o : Nat) (w : World), m + o = len → Fit (rep m ks) (xs.drop (o * ks.length)) → Fit (rep m ks) (ys.drop (o * ks.length)) → o * ks.length ≤ xs.length → o * ks.length ≤ ys.length →
        (do
          let r ← forIn (List.range' o m) ((none, ()) : Option Bool × Unit) fun i _ => do
            if (!(← Op.equalIn d E (← Go.part E xs.toArray (i * ks.length)) (← Go.part E ys.toArray (i * ks.length)))) = true then pure (ForInStep.done (some false, ())) else pure (ForInStep.yield (none, ()))
          match r.fst with
          | some a => pure a
          | none => pure true : Sem Bool).run P w = .ok (eqL (xs.drop (o * ks.length)) (ys.drop (o * ks.length))) w := by
      intro m
      induction m with
      | zero =>
        intro o w _ hx hy _ _
        have e1 : xs.drop (o * ks.length) = [] := List.eq_nil_of_length_eq_zero hx.len
        have e2 : ys.drop (o * ks.length) = [] := List.eq_nil_of_length_eq_zero hy.len
        simp [e1, e2, eqL]
      | succ m ih =>
        intro o w hmo hx hy hlx hly
        have l1 := hx.len
        have l2 := hy.len
        simp only [rep, List.length_drop, List.length_append] at l1 l2
        have s1 := Fit.split (ks := ks) (ks' := rep m ks) hx
        have s2 := Fit.split (ks := ks) (ks' := rep m ks) hy
        rw [List.drop_drop] at s1 s2
        have hsm : o * ks.length + ks.length = (o + 1) * ks.length := by rw [Nat.succ_mul]
        rw [hsm] at s1 s2
        have e1 : xs.drop (o * ks.length) = (xs.drop (o * ks.length)).take ks.length ++ xs.drop ((o + 1) * ks.length) := by rw [← hsm, ← List.drop_drop, List.take_append_drop]
        have e2 : ys.drop (o * ks.length) = (ys.drop (o * ks.length)).take ks.length ++ ys.drop ((o + 1) * ks.length) := by rw [← hsm, ← List.drop_drop, List.take_append_drop]
        have hr := ih (o + 1) w (by omega) s1.2 s2.2 (by omega) (by omega)
        rw [e1, e2, eqL_append s1.1 s2.1]
        simp only [List.range'_succ, List.forIn_cons, Sem.run_bind, h.part (by omega : o * ks.length + ks.length ≤ xs.length), h.part (by omega : o * ks.length + ks.length ≤ ys.length), Result.andThen_ok, h.eq d _ _ w (by omega) s1.1 s2.1]
        simp only [Sem.run_bind] at hr
        cases eqL ((xs.drop (o * ks.length)).take ks.length) ((ys.drop (o * ks.length)).take ks.length) with
        | true => simpa using hr
        | false => simp
    have hk := key len 0 w (by omega) (by simpa using hx) (by simpa using hy) (by simp) (by simp)
    simp only [asV, if_true, Op.equalIn, Sem.run_bind, run_underlying hu, Result.andThen_ok, run_sizeOf h.size]
    simp only [Nat.zero_mul, List.drop_zero, Sem.run_bind] at hk
    simp [Std.Legacy.Range.forIn_eq_forIn_range', Std.Legacy.Range.size] at hk ⊢
    refine Eq.trans ?_ hk
    congr 1
    funext a w'
    obtain ⟨a, _⟩ := a
    cases a <;> rfl⟩
end
section
variable {P : Program} {N : Nat} {f : Nat → Value} {w : World} {d : Option Nat} {ty : TypeId} {pos : String} {af : Array Edge} {gd : Option (Nat × Bool)}
theorem r_eqlF {t yT : TypeId} {x y : Operand} {ks : List (Option IntKind)} {c : Nat} {xs ys : List Value} (h : FE P t true ks c) (hc : Nat.ble c 10000 = true) (hg : P.eqGuardType P.depth t = false) (hx : ev N f x = .agg xs.toArray) (hy : ev N f y = .agg ys.toArray) (h1' : fitb ks xs = true) (h2' : fitb ks ys = true) :
    (execOp (ev N f) ⟨d, .binOp .eql t x y yT, ty, pos, af, gd⟩).run P w = .ok (.value (.bool (eqv xs ys))) w := by
  have h1 := fit_of h1'
  have h2 := fit_of h2'
  have he := h.eq 10000 xs ys w (Nat.le_of_ble_eq_true hc) h1 h2
  rw [eqL_eqv h1 h2] at he
  simp only [asV, if_true] at he
  simp [execOp, hx, hy, run_eqGuard_agg (P := P) w .eql t x y xs.toArray ys.toArray hg, run_eql_struct, he]
theorem r_neqF {t yT : TypeId} {x y : Operand} {ks : List (Option IntKind)} {c : Nat} {xs ys : List Value} (h : FE P t true ks c) (hc : Nat.ble c 10000 = true) (hg : P.eqGuardType P.depth t = false) (hx : ev N f x = .agg xs.toArray) (hy : ev N f y = .agg ys.toArray) (h1' : fitb ks xs = true) (h2' : fitb ks ys = true) :
    (execOp (ev N f) ⟨d, .binOp .neq t x y yT, ty, pos, af, gd⟩).run P w = .ok (.value (.bool (!(eqv xs ys)))) w := by
  have h1 := fit_of h1'
  have h2 := fit_of h2'
  have he := h.eq 10000 xs ys w (Nat.le_of_ble_eq_true hc) h1 h2
  rw [eqL_eqv h1 h2] at he
  simp only [asV, if_true] at he
  simp [execOp, hx, hy, run_eqGuard_agg (P := P) w .neq t x y xs.toArray ys.toArray hg, run_neq_struct, he]
end

/-! a guard whose own operation was passed by -/
section
variable {P : Program} {Q : Exit → Act → World → Prop} {N : Nat} {f : Nat → Value} {w : World} {ops : Array Oper} {rest : List Oper}
theorem yield_U {l : List Oper} {j d : Nat} (ho : (l[j]?).bind (·.dst) = some d) (hv : ev N f (.tmp d) = undef) : yielded l.toArray (Fr N f).tmps j = none := by
  have hl : (l.toArray[j]?).bind (·.dst) = some d := by simpa using ho
  unfold yielded
  rw [hl, Option.bind_some]
  by_cases hd : d < N
  · have hn : Nat.blt d N = true := by rw [Nat.blt_eq]; exact hd
    have hv' : f d = undef := by simpa only [ev, hn, cond_true] using hv
    have ht : (Fr N f).tmps[d]? = some undef := by simp [Fr_eq, hd, hv']
    rw [ht]; rfl
  · have ht : (Fr N f).tmps[d]? = none := by simp [Fr_eq, hd]
    rw [ht]
theorem s_skipU {d : Nat} {op : Op} {ty : TypeId} {pos : String} {af : Array Edge} {j : Nat} {want : Bool}
    (hy : yielded ops (Fr N f).tmps j = none) (h : wpList P ops Q rest (Fr N (upd f d undef)) w) :
    wpList P ops Q (⟨some d, op, ty, pos, af, some (j, want)⟩ :: rest) (Fr N f) w := by
  refine wpList_skip ?_ (by rw [put_Fr]; exact h)
  simp only [Region.wanted, hy]
  rfl
theorem wt_U {l : List Oper} {dd : Option Nat} {op : Op} {ty : TypeId} {pos : String} {af : Array Edge} {j d : Nat} {want : Bool} (ho : (l[j]?).bind (·.dst) = some d) (hv : ev N f (.tmp d) = undef) : Wt N l f ⟨dd, op, ty, pos, af, some (j, want)⟩ = false := by
  have := yield_U (N := N) (f := f) ho hv
  simp only [Wt, Region.wanted, this]
  rfl
end
end Go.Az
