/-
  WALKS BB: the law's small scripts, as they come in.
-/
import Derived.Test.YtcjnniigonaapaaBA
import Derived.Test.YtcjnniigonaapaaG3
namespace Go.Proofs.Ytcjnniigonaapaa
open Go Go.Az Go.Proofs
abbrev oInsLay : List Lay := [.i .u8, .i .u8, .i .u8, .i .u8, .i .i16, .b]
theorem oIns {w : World} {cs : List Value} (h : OkR w oInsLay cs) : ∃ x : SIns, cs = sins x ∧ x.wf := by
  obtain ⟨v0, vs0, rfl, h0, t0⟩ := okR_cons h
  obtain ⟨n0, rfl, a0, b0⟩ := okV_u8 h0
  obtain ⟨v1, vs1, rfl, h1, t1⟩ := okR_cons t0
  obtain ⟨n1, rfl, a1, b1⟩ := okV_u8 h1
  obtain ⟨v2, vs2, rfl, h2, t2⟩ := okR_cons t1
  obtain ⟨n2, rfl, a2, b2⟩ := okV_u8 h2
  obtain ⟨v3, vs3, rfl, h3, t3⟩ := okR_cons t2
  obtain ⟨n3, rfl, a3, b3⟩ := okV_u8 h3
  obtain ⟨v4, vs4, rfl, h4, t4⟩ := okR_cons t3
  obtain ⟨n4, rfl, a4, b4⟩ := okV_i16 h4
  obtain ⟨v5, vs5, rfl, h5, t5⟩ := okR_cons t4
  obtain ⟨n5, rfl⟩ := okV_b h5
  obtain rfl := okR_nil t5
  exact ⟨⟨n0, n1, n2, n3, n4, n5⟩, rfl, by simp only [SIns.wf]; omega⟩
abbrev qIns (x : SIns) (_ : World) : Prop := x.wf
abbrev oInsLLay : List Lay := [.s oInsLay]
theorem oInsL {w : World} {cs : List Value} (h : OkR w oInsLLay cs) : ∃ x : Sl × List SIns, cs = encS x ∧ LsF sins 6 x.1 x.2 w ∧ ∀ z ∈ x.2, z.wf := by
  obtain ⟨v0, vs0, rfl, h0, t0⟩ := okR_cons h
  obtain ⟨s0, n0, rfl, l0, q0⟩ := okV_s (enc := sins) (q := fun x => qIns x w) h0 (by decide) (fun cs h => oIns h)
  obtain rfl := okR_nil t0
  exact ⟨(s0, n0), rfl, ⟨l0, q0⟩⟩
abbrev qInsL (x : Sl × List SIns) (w : World) : Prop := LsF sins 6 x.1 x.2 w ∧ ∀ z ∈ x.2, z.wf
abbrev oVtxLay : List Lay := [.i .i16, .i .i16, .i .i16, .i .i16, .i .u8, .i .u8, .i .u8, .i .u8, .b]
theorem oVtx {w : World} {cs : List Value} (h : OkR w oVtxLay cs) : ∃ x : SVtx, cs = svtx x ∧ x.wf := by
  obtain ⟨v0, vs0, rfl, h0, t0⟩ := okR_cons h
  obtain ⟨n0, rfl, a0, b0⟩ := okV_i16 h0
  obtain ⟨v1, vs1, rfl, h1, t1⟩ := okR_cons t0
  obtain ⟨n1, rfl, a1, b1⟩ := okV_i16 h1
  obtain ⟨v2, vs2, rfl, h2, t2⟩ := okR_cons t1
  obtain ⟨n2, rfl, a2, b2⟩ := okV_i16 h2
  obtain ⟨v3, vs3, rfl, h3, t3⟩ := okR_cons t2
  obtain ⟨n3, rfl, a3, b3⟩ := okV_i16 h3
  obtain ⟨v4, vs4, rfl, h4, t4⟩ := okR_cons t3
  obtain ⟨n4, rfl, a4, b4⟩ := okV_u8 h4
  obtain ⟨v5, vs5, rfl, h5, t5⟩ := okR_cons t4
  obtain ⟨n5, rfl, a5, b5⟩ := okV_u8 h5
  obtain ⟨v6, vs6, rfl, h6, t6⟩ := okR_cons t5
  obtain ⟨n6, rfl, a6, b6⟩ := okV_u8 h6
  obtain ⟨v7, vs7, rfl, h7, t7⟩ := okR_cons t6
  obtain ⟨n7, rfl, a7, b7⟩ := okV_u8 h7
  obtain ⟨v8, vs8, rfl, h8, t8⟩ := okR_cons t7
  obtain ⟨n8, rfl⟩ := okV_b h8
  obtain rfl := okR_nil t8
  exact ⟨⟨n0, n1, n2, n3, n4, n5, n6, n7, n8⟩, rfl, by simp only [SVtx.wf]; omega⟩
abbrev qVtx (x : SVtx) (_ : World) : Prop := x.wf
abbrev oByteLay : List Lay := [.i .u8]
theorem oByte {w : World} {cs : List Value} (h : OkR w oByteLay cs) : ∃ x : Int, cs = encB x ∧ 0 ≤ x ∧ x ≤ 255 := by
  obtain ⟨v0, vs0, rfl, h0, t0⟩ := okR_cons h
  obtain ⟨n0, rfl, a0, b0⟩ := okV_u8 h0
  obtain rfl := okR_nil t0
  exact ⟨n0, rfl, ⟨a0, b0⟩⟩
abbrev qByte (x : Int) (_ : World) : Prop := 0 ≤ x ∧ x ≤ 255
abbrev oDrwLay : List Lay := [.i .u8, .i .u8, .i .u8, .i .u8, .i .u8, .i .u8, .i .u8, .i .u8, .i .u8, .i .u8, .b, .b, .i .u8, .i .u8, .i .u8, .i .u8, .i .u8, .i .u8, .i .u8, .s oByteLay, .i .u8, .i .u8, .i .u8, .i .u8, .i .u16, .b]
theorem oDrw {w : World} {cs : List Value} (h : OkR w oDrwLay cs) : ∃ x : Sl × SDrw, cs = encSD x ∧ x.2.wf ∧ LsF encB 1 x.1 x.2.indices w := by
  obtain ⟨v0, vs0, rfl, h0, t0⟩ := okR_cons h
  obtain ⟨n0, rfl, a0, b0⟩ := okV_u8 h0
  obtain ⟨v1, vs1, rfl, h1, t1⟩ := okR_cons t0
  obtain ⟨n1, rfl, a1, b1⟩ := okV_u8 h1
  obtain ⟨v2, vs2, rfl, h2, t2⟩ := okR_cons t1
  obtain ⟨n2, rfl, a2, b2⟩ := okV_u8 h2
  obtain ⟨v3, vs3, rfl, h3, t3⟩ := okR_cons t2
  obtain ⟨n3, rfl, a3, b3⟩ := okV_u8 h3
  obtain ⟨v4, vs4, rfl, h4, t4⟩ := okR_cons t3
  obtain ⟨n4, rfl, a4, b4⟩ := okV_u8 h4
  obtain ⟨v5, vs5, rfl, h5, t5⟩ := okR_cons t4
  obtain ⟨n5, rfl, a5, b5⟩ := okV_u8 h5
  obtain ⟨v6, vs6, rfl, h6, t6⟩ := okR_cons t5
  obtain ⟨n6, rfl, a6, b6⟩ := okV_u8 h6
  obtain ⟨v7, vs7, rfl, h7, t7⟩ := okR_cons t6
  obtain ⟨n7, rfl, a7, b7⟩ := okV_u8 h7
  obtain ⟨v8, vs8, rfl, h8, t8⟩ := okR_cons t7
  obtain ⟨n8, rfl, a8, b8⟩ := okV_u8 h8
  obtain ⟨v9, vs9, rfl, h9, t9⟩ := okR_cons t8
  obtain ⟨n9, rfl, a9, b9⟩ := okV_u8 h9
  obtain ⟨v10, vs10, rfl, h10, t10⟩ := okR_cons t9
  obtain ⟨n10, rfl⟩ := okV_b h10
  obtain ⟨v11, vs11, rfl, h11, t11⟩ := okR_cons t10
  obtain ⟨n11, rfl⟩ := okV_b h11
  obtain ⟨v12, vs12, rfl, h12, t12⟩ := okR_cons t11
  obtain ⟨n12, rfl, a12, b12⟩ := okV_u8 h12
  obtain ⟨v13, vs13, rfl, h13, t13⟩ := okR_cons t12
  obtain ⟨n13, rfl, a13, b13⟩ := okV_u8 h13
  obtain ⟨v14, vs14, rfl, h14, t14⟩ := okR_cons t13
  obtain ⟨n14, rfl, a14, b14⟩ := okV_u8 h14
  obtain ⟨v15, vs15, rfl, h15, t15⟩ := okR_cons t14
  obtain ⟨n15, rfl, a15, b15⟩ := okV_u8 h15
  obtain ⟨v16, vs16, rfl, h16, t16⟩ := okR_cons t15
  obtain ⟨n16, rfl, a16, b16⟩ := okV_u8 h16
  obtain ⟨v17, vs17, rfl, h17, t17⟩ := okR_cons t16
  obtain ⟨n17, rfl, a17, b17⟩ := okV_u8 h17
  obtain ⟨v18, vs18, rfl, h18, t18⟩ := okR_cons t17
  obtain ⟨n18, rfl, a18, b18⟩ := okV_u8 h18
  obtain ⟨v19, vs19, rfl, h19, t19⟩ := okR_cons t18
  obtain ⟨s19, n19, rfl, l19, q19⟩ := okV_s (enc := encB) (q := fun x => qByte x w) h19 (by decide) (fun cs h => oByte h)
  obtain ⟨v20, vs20, rfl, h20, t20⟩ := okR_cons t19
  obtain ⟨n20, rfl, a20, b20⟩ := okV_u8 h20
  obtain ⟨v21, vs21, rfl, h21, t21⟩ := okR_cons t20
  obtain ⟨n21, rfl, a21, b21⟩ := okV_u8 h21
  obtain ⟨v22, vs22, rfl, h22, t22⟩ := okR_cons t21
  obtain ⟨n22, rfl, a22, b22⟩ := okV_u8 h22
  obtain ⟨v23, vs23, rfl, h23, t23⟩ := okR_cons t22
  obtain ⟨n23, rfl, a23, b23⟩ := okV_u8 h23
  obtain ⟨v24, vs24, rfl, h24, t24⟩ := okR_cons t23
  obtain ⟨n24, rfl, a24, b24⟩ := okV_u16 h24
  obtain ⟨v25, vs25, rfl, h25, t25⟩ := okR_cons t24
  obtain ⟨n25, rfl⟩ := okV_b h25
  obtain rfl := okR_nil t25
  exact ⟨(s19, ⟨⟨n0, n1, n2, n3, n4, n5, n6, n7, n8, n9, n10, n11, n12, n13, n14, n15⟩, n16, n17, n18, n19, n20, n21, n22, n23, n24, n25⟩), rfl, ⟨⟨by simp only [SStt.wf]; omega, ⟨⟨a16, b16⟩, ⟨a17, b17⟩, a18, b18⟩, q19, ⟨⟨a20, b20⟩, ⟨a21, b21⟩, ⟨a22, b22⟩, a23, b23⟩, a24, b24⟩, l19⟩⟩
abbrev qDrw (x : Sl × SDrw) (w : World) : Prop := x.2.wf ∧ LsF encB 1 x.1 x.2.indices w
abbrev oSmlLay : List Lay := [.i .u8, .i .u8, .i .i16, .i .i16, .i .i16, .i .i16, .s oVtxLay, .s oInsLLay, .s oInsLLay, .s oDrwLay]
theorem oSml {w : World} {cs : List Value} (h : OkR w oSmlLay cs) : ∃ x : SMV, cs = SMV.cells x ∧ SMF x w ∧ x.sml.wf := by
  obtain ⟨v0, vs0, rfl, h0, t0⟩ := okR_cons h
  obtain ⟨n0, rfl, a0, b0⟩ := okV_u8 h0
  obtain ⟨v1, vs1, rfl, h1, t1⟩ := okR_cons t0
  obtain ⟨n1, rfl, a1, b1⟩ := okV_u8 h1
  obtain ⟨v2, vs2, rfl, h2, t2⟩ := okR_cons t1
  obtain ⟨n2, rfl, a2, b2⟩ := okV_i16 h2
  obtain ⟨v3, vs3, rfl, h3, t3⟩ := okR_cons t2
  obtain ⟨n3, rfl, a3, b3⟩ := okV_i16 h3
  obtain ⟨v4, vs4, rfl, h4, t4⟩ := okR_cons t3
  obtain ⟨n4, rfl, a4, b4⟩ := okV_i16 h4
  obtain ⟨v5, vs5, rfl, h5, t5⟩ := okR_cons t4
  obtain ⟨n5, rfl, a5, b5⟩ := okV_i16 h5
  obtain ⟨v6, vs6, rfl, h6, t6⟩ := okR_cons t5
  obtain ⟨s6, n6, rfl, l6, q6⟩ := okV_s (enc := svtx) (q := fun x => qVtx x w) h6 (by decide) (fun cs h => oVtx h)
  obtain ⟨v7, vs7, rfl, h7, t7⟩ := okR_cons t6
  obtain ⟨s7, n7, rfl, l7, q7⟩ := okV_s (enc := encS) (q := fun x => qInsL x w) h7 (by decide) (fun cs h => oInsL h)
  obtain ⟨v8, vs8, rfl, h8, t8⟩ := okR_cons t7
  obtain ⟨s8, n8, rfl, l8, q8⟩ := okV_s (enc := encS) (q := fun x => qInsL x w) h8 (by decide) (fun cs h => oInsL h)
  obtain ⟨v9, vs9, rfl, h9, t9⟩ := okR_cons t8
  obtain ⟨s9, n9, rfl, l9, q9⟩ := okV_s (enc := encSD) (q := fun x => qDrw x w) h9 (by decide) (fun cs h => oDrw h)
  obtain rfl := okR_nil t9
  exact ⟨⟨n0, n1, n2, n3, n4, n5, s6, n6, s7, n7, s8, n8, s9, n9⟩, rfl, ⟨⟨l6, ⟨l7, fun y hy => (q7 y hy).1⟩, ⟨l8, fun y hy => (q8 y hy).1⟩, ⟨l9, fun y hy => (q9 y hy).2⟩⟩, ⟨⟨a0, b0⟩, ⟨a1, b1⟩, ⟨⟨a2, b2⟩, ⟨a3, b3⟩, ⟨a4, b4⟩, a5, b5⟩, q6, (fun l hl => by obtain ⟨y, hy, rfl⟩ := List.mem_map.1 hl; exact (q7 y hy).2), (fun l hl => by obtain ⟨y, hy, rfl⟩ := List.mem_map.1 hl; exact (q8 y hy).2), (fun d hd => by obtain ⟨y, hy, rfl⟩ := List.mem_map.1 hd; exact (q9 y hy).1)⟩⟩⟩
theorem laySml : layOf Try.prog 9 28 = some oSmlLay := by kernel_rfl
end Go.Proofs.Ytcjnniigonaapaa
