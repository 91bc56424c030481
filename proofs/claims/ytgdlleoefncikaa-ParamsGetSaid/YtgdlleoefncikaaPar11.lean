/- Params: a video's bits and bytes, by the reference. -/
import Derived.Test.YtgdlleoefncikaaPar10
import Derived.Test.YtgdlleoefncikaaRef1b
namespace Go.Proofs.Ytgdlleoefncikaa
open Go.RowKit Go.Sort
set_option linter.unusedVariables false
set_option linter.unusedSimpArgs false
theorem rcode_b (v : Int) (w : World) : Calls Try.prog 43 #[.int .i64 v] w fun e w' => e = .returned (.string (bstr (codeB v))) ∧ Below w.heap.size w w' :=
  (rcode_c v w).mono fun e w' ⟨h1, h2⟩ => ⟨h1, h2 ▸ Below.refl _ _⟩
theorem bcode_size (v : Int) : (bstr (codeB v)).size ≤ 63 := by rw [bstr_size]; exact codeB_len v
set_option maxRecDepth 100000 in
set_option maxHeartbeats 6400000 in
theorem rby_000 (v : Vd) (k : Nat) (w : World) (hk : k < 5) (hW : (v.W == (baseV k).W) = true) (hH : (v.H == (baseV k).H) = true) (hC : (v.C == (baseV k).C) = true) (hBB : (v.B == (baseV k).B) = true) : Calls Try.prog 28 #[vdV v, .int .i64 k] w fun e w' => e = .returned (.string (bstr (byB v k))) ∧ Below w.heap.size w w' := by
  have HB := Lib.hid (Below.refl w.heap.size w)
  obtain ⟨b, hb⟩ : ∃ b, b = baseV k := ⟨_, rfl⟩
  rw [← hb] at hW hH hC hBB
  have HBK := Lib.hid hb
  unfold byB
  rw [← hb]
  have o1 : oth1 v b = false := by unfold oth1 bne; rw [hW, hH]; rfl
  have o2 : oth2 v b = false := by unfold oth2 bne; rw [hC]; rfl
  have o3 : oth3 v b = false := by unfold oth3 bne; rw [hBB]; rfl
  rw [o1, o2, o3]
  clear o1 o2 o3 hb
  have hcc := fun w => rcode_b 1 w
  have hss := bcode_size 1
  obtain ⟨c1, hc1⟩ : ∃ c, c = bstr (codeB 1) := ⟨_, rfl⟩
  rw [← hc1] at hcc hss
  have K1 := Lib.hid hcc
  have s1 := hss
  clear hcc hss
  have E1 := Lib.hid hc1.symm
  clear hc1
  have hcc := fun w => rcode_b (k : Int) w
  have hss := bcode_size (k : Int)
  obtain ⟨ck, hck⟩ : ∃ c, c = bstr (codeB (k : Int)) := ⟨_, rfl⟩
  rw [← hck] at hcc hss
  have Kk := Lib.hid hcc
  have sk := hss
  clear hcc hss
  have Ek := Lib.hid hck.symm
  clear hck
  have hcc := fun w => rcode_b v.W w
  have hss := bcode_size v.W
  obtain ⟨cW, hcW⟩ : ∃ c, c = bstr (codeB v.W) := ⟨_, rfl⟩
  rw [← hcW] at hcc hss
  have KW := Lib.hid hcc
  have sW := hss
  clear hcc hss
  have EW := Lib.hid hcW.symm
  clear hcW
  have hcc := fun w => rcode_b v.H w
  have hss := bcode_size v.H
  obtain ⟨cH, hcH⟩ : ∃ c, c = bstr (codeB v.H) := ⟨_, rfl⟩
  rw [← hcH] at hcc hss
  have KH := Lib.hid hcc
  have sH := hss
  clear hcc hss
  have EH := Lib.hid hcH.symm
  clear hcH
  have hcc := fun w => rcode_b v.C w
  have hss := bcode_size v.C
  obtain ⟨cC, hcC⟩ : ∃ c, c = bstr (codeB v.C) := ⟨_, rfl⟩
  rw [← hcC] at hcc hss
  have KC := Lib.hid hcc
  have sC := hss
  clear hcc hss
  have EC := Lib.hid hcC.symm
  clear hcC
  have hcc := fun w => rcode_b v.B w
  have hss := bcode_size v.B
  obtain ⟨cB, hcB⟩ : ∃ c, c = bstr (codeB v.B) := ⟨_, rfl⟩
  rw [← hcB] at hcc hss
  have KB := Lib.hid hcc
  have sB := hss
  clear hcc hss
  have EB := Lib.hid hcB.symm
  clear hcB
  have hres : bstr (codeB 1 ++ codeB (k : Int) ++ grpB false [v.W, v.H] ++ grpB false [v.C] ++ grpB false [v.B]) = c1 ++ ck ++ ⟨#[48]⟩ ++ ⟨#[48]⟩ ++ ⟨#[48]⟩ := by
    rw [← E1.out, ← Ek.out]
    rw [show (⟨#[48]⟩ : ByteArray) = bstr [false] from rfl]
    skip
    simp only [bstr_app]
    simp [grpB]
  rw [hres]
  clear hres E1 Ek EW EH EC EB
  have i0 : (0 : Int) ≤ (k : Int) := by omega
  have i5 : (k : Int) < 5 := by omega
  go_enter Try.func28, Try.ntmps28
  go_wp2_with fail
  have HB := Lib.hid (below_alloc_ (HB.out) (.cells #[.int .i64 v.W, .int .i64 v.H, .int .i64 v.C, .int .i64 v.B] 23))
  have hzw : (w.alloc (.cells #[.int .i64 v.W, .int .i64 v.H, .int .i64 v.C, .int .i64 v.B] 23)).heap.size = w.heap.size + 1 := by simp only [World.size_alloc]
  have B1 := Blk.new (w) 23 #[.int .i64 v.W, .int .i64 v.H, .int .i64 v.C, .int .i64 v.B]
  skip
  have B1 := Lib.hid B1
  generalize w.alloc (.cells #[.int .i64 v.W, .int .i64 v.H, .int .i64 v.C, .int .i64 v.B] 23) = w1 at *
  clear hzw
  refine (rbases_c _).mono ?_
  rintro e w2 ⟨g, rfl, hge, htb, hb'⟩
  have HB := Lib.hid ((HB.out).trans (hb'.mono (HB.out).size))
  have B1 := Lib.hid ((B1.out).below hb' (B1.out).lt)
  obtain ⟨y0, y1, y2, y3⟩ := tab_cells htb hk
  rw [← HBK.out] at y0 y1 y2 y3
  clear htb hge hb'
  go_upto_region 2 with fail
  clear y0 y1 y2 y3 i0 i5
  have HB := Lib.hid (below_alloc_ (HB.out) (.cells #[.int .i64 b.W, .int .i64 b.H, .int .i64 b.C, .int .i64 b.B] 23))
  have B1 := Lib.hid ((B1.out).alloc (.cells #[.int .i64 b.W, .int .i64 b.H, .int .i64 b.C, .int .i64 b.B] 23))
  have hzw : (w2.alloc (.cells #[.int .i64 b.W, .int .i64 b.H, .int .i64 b.C, .int .i64 b.B] 23)).heap.size = w2.heap.size + 1 := by simp only [World.size_alloc]
  have B2 := Blk.new (w2) 23 #[.int .i64 b.W, .int .i64 b.H, .int .i64 b.C, .int .i64 b.B]
  skip
  have B2 := Lib.hid B2
  generalize w2.alloc (.cells #[.int .i64 b.W, .int .i64 b.H, .int .i64 b.C, .int .i64 b.B] 23) = w3 at *
  clear hzw
  obtain ⟨zB10, zB11, zB12, zB13⟩ := (B1.out).cells4
  obtain ⟨zB20, zB21, zB22, zB23⟩ := (B2.out).cells4
  go_wp2_with fail
  clear zB10 zB11 zB12 zB13
  clear zB20 zB21 zB22 zB23
  refine (K1.out _).mono ?_
  rintro e w4 ⟨rfl, hb'⟩
  have HB := Lib.hid ((HB.out).trans (hb'.mono (HB.out).size))
  have B1 := Lib.hid ((B1.out).below hb' (B1.out).lt)
  have B2 := Lib.hid ((B2.out).below hb' (B2.out).lt)
  clear hb'
  obtain ⟨zB10, zB11, zB12, zB13⟩ := (B1.out).cells4
  obtain ⟨zB20, zB21, zB22, zB23⟩ := (B2.out).cells4
  go_wp2_with fail
  clear zB10 zB11 zB12 zB13
  clear zB20 zB21 zB22 zB23
  refine (Kk.out _).mono ?_
  rintro e w5 ⟨rfl, hb'⟩
  have HB := Lib.hid ((HB.out).trans (hb'.mono (HB.out).size))
  have B1 := Lib.hid ((B1.out).below hb' (B1.out).lt)
  have B2 := Lib.hid ((B2.out).below hb' (B2.out).lt)
  clear hb'
  obtain ⟨zB10, zB11, zB12, zB13⟩ := (B1.out).cells4
  obtain ⟨zB20, zB21, zB22, zB23⟩ := (B2.out).cells4
  go_wp2_with fail
  clear zB10 zB11 zB12 zB13
  clear zB20 zB21 zB22 zB23
  go_ret
  exact ⟨rfl, HB.out⟩
set_option maxRecDepth 100000 in
set_option maxHeartbeats 6400000 in
theorem rby_001 (v : Vd) (k : Nat) (w : World) (hk : k < 5) (hW : (v.W == (baseV k).W) = true) (hH : (v.H == (baseV k).H) = true) (hC : (v.C == (baseV k).C) = true) (hBB : (v.B == (baseV k).B) = false) : Calls Try.prog 28 #[vdV v, .int .i64 k] w fun e w' => e = .returned (.string (bstr (byB v k))) ∧ Below w.heap.size w w' := by
  have HB := Lib.hid (Below.refl w.heap.size w)
  obtain ⟨b, hb⟩ : ∃ b, b = baseV k := ⟨_, rfl⟩
  rw [← hb] at hW hH hC hBB
  have HBK := Lib.hid hb
  unfold byB
  rw [← hb]
  have o1 : oth1 v b = false := by unfold oth1 bne; rw [hW, hH]; rfl
  have o2 : oth2 v b = false := by unfold oth2 bne; rw [hC]; rfl
  have o3 : oth3 v b = true := by unfold oth3 bne; rw [hBB]; rfl
  rw [o1, o2, o3]
  clear o1 o2 o3 hb
  have hcc := fun w => rcode_b 1 w
  have hss := bcode_size 1
  obtain ⟨c1, hc1⟩ : ∃ c, c = bstr (codeB 1) := ⟨_, rfl⟩
  rw [← hc1] at hcc hss
  have K1 := Lib.hid hcc
  have s1 := hss
  clear hcc hss
  have E1 := Lib.hid hc1.symm
  clear hc1
  have hcc := fun w => rcode_b (k : Int) w
  have hss := bcode_size (k : Int)
  obtain ⟨ck, hck⟩ : ∃ c, c = bstr (codeB (k : Int)) := ⟨_, rfl⟩
  rw [← hck] at hcc hss
  have Kk := Lib.hid hcc
  have sk := hss
  clear hcc hss
  have Ek := Lib.hid hck.symm
  clear hck
  have hcc := fun w => rcode_b v.W w
  have hss := bcode_size v.W
  obtain ⟨cW, hcW⟩ : ∃ c, c = bstr (codeB v.W) := ⟨_, rfl⟩
  rw [← hcW] at hcc hss
  have KW := Lib.hid hcc
  have sW := hss
  clear hcc hss
  have EW := Lib.hid hcW.symm
  clear hcW
  have hcc := fun w => rcode_b v.H w
  have hss := bcode_size v.H
  obtain ⟨cH, hcH⟩ : ∃ c, c = bstr (codeB v.H) := ⟨_, rfl⟩
  rw [← hcH] at hcc hss
  have KH := Lib.hid hcc
  have sH := hss
  clear hcc hss
  have EH := Lib.hid hcH.symm
  clear hcH
  have hcc := fun w => rcode_b v.C w
  have hss := bcode_size v.C
  obtain ⟨cC, hcC⟩ : ∃ c, c = bstr (codeB v.C) := ⟨_, rfl⟩
  rw [← hcC] at hcc hss
  have KC := Lib.hid hcc
  have sC := hss
  clear hcc hss
  have EC := Lib.hid hcC.symm
  clear hcC
  have hcc := fun w => rcode_b v.B w
  have hss := bcode_size v.B
  obtain ⟨cB, hcB⟩ : ∃ c, c = bstr (codeB v.B) := ⟨_, rfl⟩
  rw [← hcB] at hcc hss
  have KB := Lib.hid hcc
  have sB := hss
  clear hcc hss
  have EB := Lib.hid hcB.symm
  clear hcB
  have hres : bstr (codeB 1 ++ codeB (k : Int) ++ grpB false [v.W, v.H] ++ grpB false [v.C] ++ grpB true [v.B]) = c1 ++ ck ++ ⟨#[48]⟩ ++ ⟨#[48]⟩ ++ ⟨#[49]⟩ ++ cB := by
    rw [← E1.out, ← Ek.out, ← EB.out]
    rw [show (⟨#[48]⟩ : ByteArray) = bstr [false] from rfl]
    rw [show (⟨#[49]⟩ : ByteArray) = bstr [true] from rfl]
    simp only [bstr_app]
    simp [grpB]
  rw [hres]
  clear hres E1 Ek EW EH EC EB
  have i0 : (0 : Int) ≤ (k : Int) := by omega
  have i5 : (k : Int) < 5 := by omega
  go_enter Try.func28, Try.ntmps28
  go_wp2_with fail
  have HB := Lib.hid (below_alloc_ (HB.out) (.cells #[.int .i64 v.W, .int .i64 v.H, .int .i64 v.C, .int .i64 v.B] 23))
  have hzw : (w.alloc (.cells #[.int .i64 v.W, .int .i64 v.H, .int .i64 v.C, .int .i64 v.B] 23)).heap.size = w.heap.size + 1 := by simp only [World.size_alloc]
  have B1 := Blk.new (w) 23 #[.int .i64 v.W, .int .i64 v.H, .int .i64 v.C, .int .i64 v.B]
  skip
  have B1 := Lib.hid B1
  generalize w.alloc (.cells #[.int .i64 v.W, .int .i64 v.H, .int .i64 v.C, .int .i64 v.B] 23) = w1 at *
  clear hzw
  refine (rbases_c _).mono ?_
  rintro e w2 ⟨g, rfl, hge, htb, hb'⟩
  have HB := Lib.hid ((HB.out).trans (hb'.mono (HB.out).size))
  have B1 := Lib.hid ((B1.out).below hb' (B1.out).lt)
  obtain ⟨y0, y1, y2, y3⟩ := tab_cells htb hk
  rw [← HBK.out] at y0 y1 y2 y3
  clear htb hge hb'
  go_upto_region 2 with fail
  clear y0 y1 y2 y3 i0 i5
  have HB := Lib.hid (below_alloc_ (HB.out) (.cells #[.int .i64 b.W, .int .i64 b.H, .int .i64 b.C, .int .i64 b.B] 23))
  have B1 := Lib.hid ((B1.out).alloc (.cells #[.int .i64 b.W, .int .i64 b.H, .int .i64 b.C, .int .i64 b.B] 23))
  have hzw : (w2.alloc (.cells #[.int .i64 b.W, .int .i64 b.H, .int .i64 b.C, .int .i64 b.B] 23)).heap.size = w2.heap.size + 1 := by simp only [World.size_alloc]
  have B2 := Blk.new (w2) 23 #[.int .i64 b.W, .int .i64 b.H, .int .i64 b.C, .int .i64 b.B]
  skip
  have B2 := Lib.hid B2
  generalize w2.alloc (.cells #[.int .i64 b.W, .int .i64 b.H, .int .i64 b.C, .int .i64 b.B] 23) = w3 at *
  clear hzw
  obtain ⟨zB10, zB11, zB12, zB13⟩ := (B1.out).cells4
  obtain ⟨zB20, zB21, zB22, zB23⟩ := (B2.out).cells4
  go_wp2_with fail
  clear zB10 zB11 zB12 zB13
  clear zB20 zB21 zB22 zB23
  refine (K1.out _).mono ?_
  rintro e w4 ⟨rfl, hb'⟩
  have HB := Lib.hid ((HB.out).trans (hb'.mono (HB.out).size))
  have B1 := Lib.hid ((B1.out).below hb' (B1.out).lt)
  have B2 := Lib.hid ((B2.out).below hb' (B2.out).lt)
  clear hb'
  obtain ⟨zB10, zB11, zB12, zB13⟩ := (B1.out).cells4
  obtain ⟨zB20, zB21, zB22, zB23⟩ := (B2.out).cells4
  go_wp2_with fail
  clear zB10 zB11 zB12 zB13
  clear zB20 zB21 zB22 zB23
  refine (Kk.out _).mono ?_
  rintro e w5 ⟨rfl, hb'⟩
  have HB := Lib.hid ((HB.out).trans (hb'.mono (HB.out).size))
  have B1 := Lib.hid ((B1.out).below hb' (B1.out).lt)
  have B2 := Lib.hid ((B2.out).below hb' (B2.out).lt)
  clear hb'
  obtain ⟨zB10, zB11, zB12, zB13⟩ := (B1.out).cells4
  obtain ⟨zB20, zB21, zB22, zB23⟩ := (B2.out).cells4
  go_upto_region 11 with fail
  clear zB10 zB11 zB12 zB13
  clear zB20 zB21 zB22 zB23
  obtain ⟨zB10, zB11, zB12, zB13⟩ := (B1.out).cells4
  obtain ⟨zB20, zB21, zB22, zB23⟩ := (B2.out).cells4
  go_wp2_with fail
  clear zB10 zB11 zB12 zB13
  clear zB20 zB21 zB22 zB23
  refine (KB.out _).mono ?_
  rintro e w6 ⟨rfl, hb'⟩
  have HB := Lib.hid ((HB.out).trans (hb'.mono (HB.out).size))
  have B1 := Lib.hid ((B1.out).below hb' (B1.out).lt)
  have B2 := Lib.hid ((B2.out).below hb' (B2.out).lt)
  clear hb'
  obtain ⟨zB10, zB11, zB12, zB13⟩ := (B1.out).cells4
  obtain ⟨zB20, zB21, zB22, zB23⟩ := (B2.out).cells4
  go_wp2_with fail
  clear zB10 zB11 zB12 zB13
  clear zB20 zB21 zB22 zB23
  go_ret
  exact ⟨rfl, HB.out⟩
set_option maxRecDepth 100000 in
set_option maxHeartbeats 6400000 in
theorem rby_010 (v : Vd) (k : Nat) (w : World) (hk : k < 5) (hW : (v.W == (baseV k).W) = true) (hH : (v.H == (baseV k).H) = true) (hC : (v.C == (baseV k).C) = false) (hBB : (v.B == (baseV k).B) = true) : Calls Try.prog 28 #[vdV v, .int .i64 k] w fun e w' => e = .returned (.string (bstr (byB v k))) ∧ Below w.heap.size w w' := by
  have HB := Lib.hid (Below.refl w.heap.size w)
  obtain ⟨b, hb⟩ : ∃ b, b = baseV k := ⟨_, rfl⟩
  rw [← hb] at hW hH hC hBB
  have HBK := Lib.hid hb
  unfold byB
  rw [← hb]
  have o1 : oth1 v b = false := by unfold oth1 bne; rw [hW, hH]; rfl
  have o2 : oth2 v b = true := by unfold oth2 bne; rw [hC]; rfl
  have o3 : oth3 v b = false := by unfold oth3 bne; rw [hBB]; rfl
  rw [o1, o2, o3]
  clear o1 o2 o3 hb
  have hcc := fun w => rcode_b 1 w
  have hss := bcode_size 1
  obtain ⟨c1, hc1⟩ : ∃ c, c = bstr (codeB 1) := ⟨_, rfl⟩
  rw [← hc1] at hcc hss
  have K1 := Lib.hid hcc
  have s1 := hss
  clear hcc hss
  have E1 := Lib.hid hc1.symm
  clear hc1
  have hcc := fun w => rcode_b (k : Int) w
  have hss := bcode_size (k : Int)
  obtain ⟨ck, hck⟩ : ∃ c, c = bstr (codeB (k : Int)) := ⟨_, rfl⟩
  rw [← hck] at hcc hss
  have Kk := Lib.hid hcc
  have sk := hss
  clear hcc hss
  have Ek := Lib.hid hck.symm
  clear hck
  have hcc := fun w => rcode_b v.W w
  have hss := bcode_size v.W
  obtain ⟨cW, hcW⟩ : ∃ c, c = bstr (codeB v.W) := ⟨_, rfl⟩
  rw [← hcW] at hcc hss
  have KW := Lib.hid hcc
  have sW := hss
  clear hcc hss
  have EW := Lib.hid hcW.symm
  clear hcW
  have hcc := fun w => rcode_b v.H w
  have hss := bcode_size v.H
  obtain ⟨cH, hcH⟩ : ∃ c, c = bstr (codeB v.H) := ⟨_, rfl⟩
  rw [← hcH] at hcc hss
  have KH := Lib.hid hcc
  have sH := hss
  clear hcc hss
  have EH := Lib.hid hcH.symm
  clear hcH
  have hcc := fun w => rcode_b v.C w
  have hss := bcode_size v.C
  obtain ⟨cC, hcC⟩ : ∃ c, c = bstr (codeB v.C) := ⟨_, rfl⟩
  rw [← hcC] at hcc hss
  have KC := Lib.hid hcc
  have sC := hss
  clear hcc hss
  have EC := Lib.hid hcC.symm
  clear hcC
  have hcc := fun w => rcode_b v.B w
  have hss := bcode_size v.B
  obtain ⟨cB, hcB⟩ : ∃ c, c = bstr (codeB v.B) := ⟨_, rfl⟩
  rw [← hcB] at hcc hss
  have KB := Lib.hid hcc
  have sB := hss
  clear hcc hss
  have EB := Lib.hid hcB.symm
  clear hcB
  have hres : bstr (codeB 1 ++ codeB (k : Int) ++ grpB false [v.W, v.H] ++ grpB true [v.C] ++ grpB false [v.B]) = c1 ++ ck ++ ⟨#[48]⟩ ++ (⟨#[49]⟩ ++ cC) ++ ⟨#[48]⟩ := by
    rw [← E1.out, ← Ek.out, ← EC.out]
    rw [show (⟨#[48]⟩ : ByteArray) = bstr [false] from rfl]
    rw [show (⟨#[49]⟩ : ByteArray) = bstr [true] from rfl]
    simp only [bstr_app]
    simp [grpB]
  rw [hres]
  clear hres E1 Ek EW EH EC EB
  have i0 : (0 : Int) ≤ (k : Int) := by omega
  have i5 : (k : Int) < 5 := by omega
  go_enter Try.func28, Try.ntmps28
  go_wp2_with fail
  have HB := Lib.hid (below_alloc_ (HB.out) (.cells #[.int .i64 v.W, .int .i64 v.H, .int .i64 v.C, .int .i64 v.B] 23))
  have hzw : (w.alloc (.cells #[.int .i64 v.W, .int .i64 v.H, .int .i64 v.C, .int .i64 v.B] 23)).heap.size = w.heap.size + 1 := by simp only [World.size_alloc]
  have B1 := Blk.new (w) 23 #[.int .i64 v.W, .int .i64 v.H, .int .i64 v.C, .int .i64 v.B]
  skip
  have B1 := Lib.hid B1
  generalize w.alloc (.cells #[.int .i64 v.W, .int .i64 v.H, .int .i64 v.C, .int .i64 v.B] 23) = w1 at *
  clear hzw
  refine (rbases_c _).mono ?_
  rintro e w2 ⟨g, rfl, hge, htb, hb'⟩
  have HB := Lib.hid ((HB.out).trans (hb'.mono (HB.out).size))
  have B1 := Lib.hid ((B1.out).below hb' (B1.out).lt)
  obtain ⟨y0, y1, y2, y3⟩ := tab_cells htb hk
  rw [← HBK.out] at y0 y1 y2 y3
  clear htb hge hb'
  go_upto_region 2 with fail
  clear y0 y1 y2 y3 i0 i5
  have HB := Lib.hid (below_alloc_ (HB.out) (.cells #[.int .i64 b.W, .int .i64 b.H, .int .i64 b.C, .int .i64 b.B] 23))
  have B1 := Lib.hid ((B1.out).alloc (.cells #[.int .i64 b.W, .int .i64 b.H, .int .i64 b.C, .int .i64 b.B] 23))
  have hzw : (w2.alloc (.cells #[.int .i64 b.W, .int .i64 b.H, .int .i64 b.C, .int .i64 b.B] 23)).heap.size = w2.heap.size + 1 := by simp only [World.size_alloc]
  have B2 := Blk.new (w2) 23 #[.int .i64 b.W, .int .i64 b.H, .int .i64 b.C, .int .i64 b.B]
  skip
  have B2 := Lib.hid B2
  generalize w2.alloc (.cells #[.int .i64 b.W, .int .i64 b.H, .int .i64 b.C, .int .i64 b.B] 23) = w3 at *
  clear hzw
  obtain ⟨zB10, zB11, zB12, zB13⟩ := (B1.out).cells4
  obtain ⟨zB20, zB21, zB22, zB23⟩ := (B2.out).cells4
  go_wp2_with fail
  clear zB10 zB11 zB12 zB13
  clear zB20 zB21 zB22 zB23
  refine (K1.out _).mono ?_
  rintro e w4 ⟨rfl, hb'⟩
  have HB := Lib.hid ((HB.out).trans (hb'.mono (HB.out).size))
  have B1 := Lib.hid ((B1.out).below hb' (B1.out).lt)
  have B2 := Lib.hid ((B2.out).below hb' (B2.out).lt)
  clear hb'
  obtain ⟨zB10, zB11, zB12, zB13⟩ := (B1.out).cells4
  obtain ⟨zB20, zB21, zB22, zB23⟩ := (B2.out).cells4
  go_wp2_with fail
  clear zB10 zB11 zB12 zB13
  clear zB20 zB21 zB22 zB23
  refine (Kk.out _).mono ?_
  rintro e w5 ⟨rfl, hb'⟩
  have HB := Lib.hid ((HB.out).trans (hb'.mono (HB.out).size))
  have B1 := Lib.hid ((B1.out).below hb' (B1.out).lt)
  have B2 := Lib.hid ((B2.out).below hb' (B2.out).lt)
  clear hb'
  obtain ⟨zB10, zB11, zB12, zB13⟩ := (B1.out).cells4
  obtain ⟨zB20, zB21, zB22, zB23⟩ := (B2.out).cells4
  go_upto_region 8 with fail
  clear zB10 zB11 zB12 zB13
  clear zB20 zB21 zB22 zB23
  obtain ⟨zB10, zB11, zB12, zB13⟩ := (B1.out).cells4
  obtain ⟨zB20, zB21, zB22, zB23⟩ := (B2.out).cells4
  go_wp2_with fail
  clear zB10 zB11 zB12 zB13
  clear zB20 zB21 zB22 zB23
  refine (KC.out _).mono ?_
  rintro e w6 ⟨rfl, hb'⟩
  have HB := Lib.hid ((HB.out).trans (hb'.mono (HB.out).size))
  have B1 := Lib.hid ((B1.out).below hb' (B1.out).lt)
  have B2 := Lib.hid ((B2.out).below hb' (B2.out).lt)
  clear hb'
  obtain ⟨zB10, zB11, zB12, zB13⟩ := (B1.out).cells4
  obtain ⟨zB20, zB21, zB22, zB23⟩ := (B2.out).cells4
  go_wp2_with fail
  clear zB10 zB11 zB12 zB13
  clear zB20 zB21 zB22 zB23
  go_ret
  exact ⟨rfl, HB.out⟩
set_option maxRecDepth 100000 in
set_option maxHeartbeats 6400000 in
theorem rby_011 (v : Vd) (k : Nat) (w : World) (hk : k < 5) (hW : (v.W == (baseV k).W) = true) (hH : (v.H == (baseV k).H) = true) (hC : (v.C == (baseV k).C) = false) (hBB : (v.B == (baseV k).B) = false) : Calls Try.prog 28 #[vdV v, .int .i64 k] w fun e w' => e = .returned (.string (bstr (byB v k))) ∧ Below w.heap.size w w' := by
  have HB := Lib.hid (Below.refl w.heap.size w)
  obtain ⟨b, hb⟩ : ∃ b, b = baseV k := ⟨_, rfl⟩
  rw [← hb] at hW hH hC hBB
  have HBK := Lib.hid hb
  unfold byB
  rw [← hb]
  have o1 : oth1 v b = false := by unfold oth1 bne; rw [hW, hH]; rfl
  have o2 : oth2 v b = true := by unfold oth2 bne; rw [hC]; rfl
  have o3 : oth3 v b = true := by unfold oth3 bne; rw [hBB]; rfl
  rw [o1, o2, o3]
  clear o1 o2 o3 hb
  have hcc := fun w => rcode_b 1 w
  have hss := bcode_size 1
  obtain ⟨c1, hc1⟩ : ∃ c, c = bstr (codeB 1) := ⟨_, rfl⟩
  rw [← hc1] at hcc hss
  have K1 := Lib.hid hcc
  have s1 := hss
  clear hcc hss
  have E1 := Lib.hid hc1.symm
  clear hc1
  have hcc := fun w => rcode_b (k : Int) w
  have hss := bcode_size (k : Int)
  obtain ⟨ck, hck⟩ : ∃ c, c = bstr (codeB (k : Int)) := ⟨_, rfl⟩
  rw [← hck] at hcc hss
  have Kk := Lib.hid hcc
  have sk := hss
  clear hcc hss
  have Ek := Lib.hid hck.symm
  clear hck
  have hcc := fun w => rcode_b v.W w
  have hss := bcode_size v.W
  obtain ⟨cW, hcW⟩ : ∃ c, c = bstr (codeB v.W) := ⟨_, rfl⟩
  rw [← hcW] at hcc hss
  have KW := Lib.hid hcc
  have sW := hss
  clear hcc hss
  have EW := Lib.hid hcW.symm
  clear hcW
  have hcc := fun w => rcode_b v.H w
  have hss := bcode_size v.H
  obtain ⟨cH, hcH⟩ : ∃ c, c = bstr (codeB v.H) := ⟨_, rfl⟩
  rw [← hcH] at hcc hss
  have KH := Lib.hid hcc
  have sH := hss
  clear hcc hss
  have EH := Lib.hid hcH.symm
  clear hcH
  have hcc := fun w => rcode_b v.C w
  have hss := bcode_size v.C
  obtain ⟨cC, hcC⟩ : ∃ c, c = bstr (codeB v.C) := ⟨_, rfl⟩
  rw [← hcC] at hcc hss
  have KC := Lib.hid hcc
  have sC := hss
  clear hcc hss
  have EC := Lib.hid hcC.symm
  clear hcC
  have hcc := fun w => rcode_b v.B w
  have hss := bcode_size v.B
  obtain ⟨cB, hcB⟩ : ∃ c, c = bstr (codeB v.B) := ⟨_, rfl⟩
  rw [← hcB] at hcc hss
  have KB := Lib.hid hcc
  have sB := hss
  clear hcc hss
  have EB := Lib.hid hcB.symm
  clear hcB
  have hres : bstr (codeB 1 ++ codeB (k : Int) ++ grpB false [v.W, v.H] ++ grpB true [v.C] ++ grpB true [v.B]) = c1 ++ ck ++ ⟨#[48]⟩ ++ (⟨#[49]⟩ ++ cC) ++ ⟨#[49]⟩ ++ cB := by
    rw [← E1.out, ← Ek.out, ← EC.out, ← EB.out]
    rw [show (⟨#[48]⟩ : ByteArray) = bstr [false] from rfl]
    rw [show (⟨#[49]⟩ : ByteArray) = bstr [true] from rfl]
    simp only [bstr_app]
    simp [grpB]
  rw [hres]
  clear hres E1 Ek EW EH EC EB
  have i0 : (0 : Int) ≤ (k : Int) := by omega
  have i5 : (k : Int) < 5 := by omega
  go_enter Try.func28, Try.ntmps28
  go_wp2_with fail
  have HB := Lib.hid (below_alloc_ (HB.out) (.cells #[.int .i64 v.W, .int .i64 v.H, .int .i64 v.C, .int .i64 v.B] 23))
  have hzw : (w.alloc (.cells #[.int .i64 v.W, .int .i64 v.H, .int .i64 v.C, .int .i64 v.B] 23)).heap.size = w.heap.size + 1 := by simp only [World.size_alloc]
  have B1 := Blk.new (w) 23 #[.int .i64 v.W, .int .i64 v.H, .int .i64 v.C, .int .i64 v.B]
  skip
  have B1 := Lib.hid B1
  generalize w.alloc (.cells #[.int .i64 v.W, .int .i64 v.H, .int .i64 v.C, .int .i64 v.B] 23) = w1 at *
  clear hzw
  refine (rbases_c _).mono ?_
  rintro e w2 ⟨g, rfl, hge, htb, hb'⟩
  have HB := Lib.hid ((HB.out).trans (hb'.mono (HB.out).size))
  have B1 := Lib.hid ((B1.out).below hb' (B1.out).lt)
  obtain ⟨y0, y1, y2, y3⟩ := tab_cells htb hk
  rw [← HBK.out] at y0 y1 y2 y3
  clear htb hge hb'
  go_upto_region 2 with fail
  clear y0 y1 y2 y3 i0 i5
  have HB := Lib.hid (below_alloc_ (HB.out) (.cells #[.int .i64 b.W, .int .i64 b.H, .int .i64 b.C, .int .i64 b.B] 23))
  have B1 := Lib.hid ((B1.out).alloc (.cells #[.int .i64 b.W, .int .i64 b.H, .int .i64 b.C, .int .i64 b.B] 23))
  have hzw : (w2.alloc (.cells #[.int .i64 b.W, .int .i64 b.H, .int .i64 b.C, .int .i64 b.B] 23)).heap.size = w2.heap.size + 1 := by simp only [World.size_alloc]
  have B2 := Blk.new (w2) 23 #[.int .i64 b.W, .int .i64 b.H, .int .i64 b.C, .int .i64 b.B]
  skip
  have B2 := Lib.hid B2
  generalize w2.alloc (.cells #[.int .i64 b.W, .int .i64 b.H, .int .i64 b.C, .int .i64 b.B] 23) = w3 at *
  clear hzw
  obtain ⟨zB10, zB11, zB12, zB13⟩ := (B1.out).cells4
  obtain ⟨zB20, zB21, zB22, zB23⟩ := (B2.out).cells4
  go_wp2_with fail
  clear zB10 zB11 zB12 zB13
  clear zB20 zB21 zB22 zB23
  refine (K1.out _).mono ?_
  rintro e w4 ⟨rfl, hb'⟩
  have HB := Lib.hid ((HB.out).trans (hb'.mono (HB.out).size))
  have B1 := Lib.hid ((B1.out).below hb' (B1.out).lt)
  have B2 := Lib.hid ((B2.out).below hb' (B2.out).lt)
  clear hb'
  obtain ⟨zB10, zB11, zB12, zB13⟩ := (B1.out).cells4
  obtain ⟨zB20, zB21, zB22, zB23⟩ := (B2.out).cells4
  go_wp2_with fail
  clear zB10 zB11 zB12 zB13
  clear zB20 zB21 zB22 zB23
  refine (Kk.out _).mono ?_
  rintro e w5 ⟨rfl, hb'⟩
  have HB := Lib.hid ((HB.out).trans (hb'.mono (HB.out).size))
  have B1 := Lib.hid ((B1.out).below hb' (B1.out).lt)
  have B2 := Lib.hid ((B2.out).below hb' (B2.out).lt)
  clear hb'
  obtain ⟨zB10, zB11, zB12, zB13⟩ := (B1.out).cells4
  obtain ⟨zB20, zB21, zB22, zB23⟩ := (B2.out).cells4
  go_upto_region 8 with fail
  clear zB10 zB11 zB12 zB13
  clear zB20 zB21 zB22 zB23
  obtain ⟨zB10, zB11, zB12, zB13⟩ := (B1.out).cells4
  obtain ⟨zB20, zB21, zB22, zB23⟩ := (B2.out).cells4
  go_wp2_with fail
  clear zB10 zB11 zB12 zB13
  clear zB20 zB21 zB22 zB23
  refine (KC.out _).mono ?_
  rintro e w6 ⟨rfl, hb'⟩
  have HB := Lib.hid ((HB.out).trans (hb'.mono (HB.out).size))
  have B1 := Lib.hid ((B1.out).below hb' (B1.out).lt)
  have B2 := Lib.hid ((B2.out).below hb' (B2.out).lt)
  clear hb'
  obtain ⟨zB10, zB11, zB12, zB13⟩ := (B1.out).cells4
  obtain ⟨zB20, zB21, zB22, zB23⟩ := (B2.out).cells4
  go_upto_region 11 with fail
  clear zB10 zB11 zB12 zB13
  clear zB20 zB21 zB22 zB23
  obtain ⟨zB10, zB11, zB12, zB13⟩ := (B1.out).cells4
  obtain ⟨zB20, zB21, zB22, zB23⟩ := (B2.out).cells4
  go_wp2_with fail
  clear zB10 zB11 zB12 zB13
  clear zB20 zB21 zB22 zB23
  refine (KB.out _).mono ?_
  rintro e w7 ⟨rfl, hb'⟩
  have HB := Lib.hid ((HB.out).trans (hb'.mono (HB.out).size))
  have B1 := Lib.hid ((B1.out).below hb' (B1.out).lt)
  have B2 := Lib.hid ((B2.out).below hb' (B2.out).lt)
  clear hb'
  obtain ⟨zB10, zB11, zB12, zB13⟩ := (B1.out).cells4
  obtain ⟨zB20, zB21, zB22, zB23⟩ := (B2.out).cells4
  go_wp2_with fail
  clear zB10 zB11 zB12 zB13
  clear zB20 zB21 zB22 zB23
  go_ret
  exact ⟨rfl, HB.out⟩
set_option maxRecDepth 100000 in
set_option maxHeartbeats 6400000 in
theorem rby_100 (v : Vd) (k : Nat) (w : World) (hk : k < 5) (hW : (v.W == (baseV k).W) = true) (hH : (v.H == (baseV k).H) = false) (hC : (v.C == (baseV k).C) = true) (hBB : (v.B == (baseV k).B) = true) : Calls Try.prog 28 #[vdV v, .int .i64 k] w fun e w' => e = .returned (.string (bstr (byB v k))) ∧ Below w.heap.size w w' := by
  have HB := Lib.hid (Below.refl w.heap.size w)
  obtain ⟨b, hb⟩ : ∃ b, b = baseV k := ⟨_, rfl⟩
  rw [← hb] at hW hH hC hBB
  have HBK := Lib.hid hb
  unfold byB
  rw [← hb]
  have o1 : oth1 v b = true := by unfold oth1 bne; rw [hW, hH]; rfl
  have o2 : oth2 v b = false := by unfold oth2 bne; rw [hC]; rfl
  have o3 : oth3 v b = false := by unfold oth3 bne; rw [hBB]; rfl
  rw [o1, o2, o3]
  clear o1 o2 o3 hb
  have hcc := fun w => rcode_b 1 w
  have hss := bcode_size 1
  obtain ⟨c1, hc1⟩ : ∃ c, c = bstr (codeB 1) := ⟨_, rfl⟩
  rw [← hc1] at hcc hss
  have K1 := Lib.hid hcc
  have s1 := hss
  clear hcc hss
  have E1 := Lib.hid hc1.symm
  clear hc1
  have hcc := fun w => rcode_b (k : Int) w
  have hss := bcode_size (k : Int)
  obtain ⟨ck, hck⟩ : ∃ c, c = bstr (codeB (k : Int)) := ⟨_, rfl⟩
  rw [← hck] at hcc hss
  have Kk := Lib.hid hcc
  have sk := hss
  clear hcc hss
  have Ek := Lib.hid hck.symm
  clear hck
  have hcc := fun w => rcode_b v.W w
  have hss := bcode_size v.W
  obtain ⟨cW, hcW⟩ : ∃ c, c = bstr (codeB v.W) := ⟨_, rfl⟩
  rw [← hcW] at hcc hss
  have KW := Lib.hid hcc
  have sW := hss
  clear hcc hss
  have EW := Lib.hid hcW.symm
  clear hcW
  have hcc := fun w => rcode_b v.H w
  have hss := bcode_size v.H
  obtain ⟨cH, hcH⟩ : ∃ c, c = bstr (codeB v.H) := ⟨_, rfl⟩
  rw [← hcH] at hcc hss
  have KH := Lib.hid hcc
  have sH := hss
  clear hcc hss
  have EH := Lib.hid hcH.symm
  clear hcH
  have hcc := fun w => rcode_b v.C w
  have hss := bcode_size v.C
  obtain ⟨cC, hcC⟩ : ∃ c, c = bstr (codeB v.C) := ⟨_, rfl⟩
  rw [← hcC] at hcc hss
  have KC := Lib.hid hcc
  have sC := hss
  clear hcc hss
  have EC := Lib.hid hcC.symm
  clear hcC
  have hcc := fun w => rcode_b v.B w
  have hss := bcode_size v.B
  obtain ⟨cB, hcB⟩ : ∃ c, c = bstr (codeB v.B) := ⟨_, rfl⟩
  rw [← hcB] at hcc hss
  have KB := Lib.hid hcc
  have sB := hss
  clear hcc hss
  have EB := Lib.hid hcB.symm
  clear hcB
  have hres : bstr (codeB 1 ++ codeB (k : Int) ++ grpB true [v.W, v.H] ++ grpB false [v.C] ++ grpB false [v.B]) = c1 ++ ck ++ (⟨#[49]⟩ ++ cW ++ cH) ++ ⟨#[48]⟩ ++ ⟨#[48]⟩ := by
    rw [← E1.out, ← Ek.out, ← EW.out, ← EH.out]
    rw [show (⟨#[48]⟩ : ByteArray) = bstr [false] from rfl]
    rw [show (⟨#[49]⟩ : ByteArray) = bstr [true] from rfl]
    simp only [bstr_app]
    simp [grpB]
  rw [hres]
  clear hres E1 Ek EW EH EC EB
  have i0 : (0 : Int) ≤ (k : Int) := by omega
  have i5 : (k : Int) < 5 := by omega
  go_enter Try.func28, Try.ntmps28
  go_wp2_with fail
  have HB := Lib.hid (below_alloc_ (HB.out) (.cells #[.int .i64 v.W, .int .i64 v.H, .int .i64 v.C, .int .i64 v.B] 23))
  have hzw : (w.alloc (.cells #[.int .i64 v.W, .int .i64 v.H, .int .i64 v.C, .int .i64 v.B] 23)).heap.size = w.heap.size + 1 := by simp only [World.size_alloc]
  have B1 := Blk.new (w) 23 #[.int .i64 v.W, .int .i64 v.H, .int .i64 v.C, .int .i64 v.B]
  skip
  have B1 := Lib.hid B1
  generalize w.alloc (.cells #[.int .i64 v.W, .int .i64 v.H, .int .i64 v.C, .int .i64 v.B] 23) = w1 at *
  clear hzw
  refine (rbases_c _).mono ?_
  rintro e w2 ⟨g, rfl, hge, htb, hb'⟩
  have HB := Lib.hid ((HB.out).trans (hb'.mono (HB.out).size))
  have B1 := Lib.hid ((B1.out).below hb' (B1.out).lt)
  obtain ⟨y0, y1, y2, y3⟩ := tab_cells htb hk
  rw [← HBK.out] at y0 y1 y2 y3
  clear htb hge hb'
  go_upto_region 2 with fail
  clear y0 y1 y2 y3 i0 i5
  have HB := Lib.hid (below_alloc_ (HB.out) (.cells #[.int .i64 b.W, .int .i64 b.H, .int .i64 b.C, .int .i64 b.B] 23))
  have B1 := Lib.hid ((B1.out).alloc (.cells #[.int .i64 b.W, .int .i64 b.H, .int .i64 b.C, .int .i64 b.B] 23))
  have hzw : (w2.alloc (.cells #[.int .i64 b.W, .int .i64 b.H, .int .i64 b.C, .int .i64 b.B] 23)).heap.size = w2.heap.size + 1 := by simp only [World.size_alloc]
  have B2 := Blk.new (w2) 23 #[.int .i64 b.W, .int .i64 b.H, .int .i64 b.C, .int .i64 b.B]
  skip
  have B2 := Lib.hid B2
  generalize w2.alloc (.cells #[.int .i64 b.W, .int .i64 b.H, .int .i64 b.C, .int .i64 b.B] 23) = w3 at *
  clear hzw
  obtain ⟨zB10, zB11, zB12, zB13⟩ := (B1.out).cells4
  obtain ⟨zB20, zB21, zB22, zB23⟩ := (B2.out).cells4
  go_wp2_with fail
  clear zB10 zB11 zB12 zB13
  clear zB20 zB21 zB22 zB23
  refine (K1.out _).mono ?_
  rintro e w4 ⟨rfl, hb'⟩
  have HB := Lib.hid ((HB.out).trans (hb'.mono (HB.out).size))
  have B1 := Lib.hid ((B1.out).below hb' (B1.out).lt)
  have B2 := Lib.hid ((B2.out).below hb' (B2.out).lt)
  clear hb'
  obtain ⟨zB10, zB11, zB12, zB13⟩ := (B1.out).cells4
  obtain ⟨zB20, zB21, zB22, zB23⟩ := (B2.out).cells4
  go_wp2_with fail
  clear zB10 zB11 zB12 zB13
  clear zB20 zB21 zB22 zB23
  refine (Kk.out _).mono ?_
  rintro e w5 ⟨rfl, hb'⟩
  have HB := Lib.hid ((HB.out).trans (hb'.mono (HB.out).size))
  have B1 := Lib.hid ((B1.out).below hb' (B1.out).lt)
  have B2 := Lib.hid ((B2.out).below hb' (B2.out).lt)
  clear hb'
  obtain ⟨zB10, zB11, zB12, zB13⟩ := (B1.out).cells4
  obtain ⟨zB20, zB21, zB22, zB23⟩ := (B2.out).cells4
  go_upto_region 5 with fail
  clear zB10 zB11 zB12 zB13
  clear zB20 zB21 zB22 zB23
  have HB1 := Lib.hid (Below.refl w5.heap.size w5)
  have m1 : ¬ (9223372036854775807 < 1 + cW.size) := by omega
  have m2 : ¬ (9223372036854775807 < 1 + cW.size + cH.size) := by omega
  have m3 : ¬ (9223372036854775807 < c1.size + ck.size + (1 + cW.size + cH.size)) := by omega
  obtain ⟨zB10, zB11, zB12, zB13⟩ := (B1.out.below HB1.out B1.out.lt).cells4
  obtain ⟨zB20, zB21, zB22, zB23⟩ := (B2.out.below HB1.out B2.out.lt).cells4
  have kq0 := cell_regrown zB10
  have kq1 := cell_regrown zB11
  have kq2 := cell_regrown zB12
  have kq3 := cell_regrown zB13
  have kq4 := cell_regrown zB20
  have kq5 := cell_regrown zB21
  have kq6 := cell_regrown zB22
  have kq7 := cell_regrown zB23
  clear zB10 zB11 zB12 zB13 zB20 zB21 zB22 zB23
  refine wp_mono [Brings.one ?b1_0, Brings.one ?b2_1, Brings.one ?b3_2, Brings.one ?b4_3, Brings.one ?b5_4, Brings.one ?b6_5, Brings.one ?b7_6, Brings.one ?b8_7, Brings.one ?b9_8, Brings.one ?b10_9, Brings.one ?b11_10] (by kernel_rfl) (by kernel_rfl) ?_
  rotate_left 11
  refine wpL_take (k' := 1) rfl (by kernel_rfl) (fun d os => ?t12) ?_
  case t12 => (unfold bringsAt; go_simp; first | with_reducible exact take_one | exact take_one)
  try simp only [Act.put, List.setIfInBounds_toArray, List.set_cons_zero, List.set_cons_succ]
  refine wpL_take (k' := 2) rfl (by kernel_rfl) (fun d os => ?t13) ?_
  case t13 => (unfold bringsAt; go_simp; first | with_reducible exact take_one | exact take_one)
  try simp only [Act.put, List.setIfInBounds_toArray, List.set_cons_zero, List.set_cons_succ]
  refine wpL_take (k' := 3) rfl (by kernel_rfl) (fun d os => ?t14) ?_
  case t14 => (unfold bringsAt; go_simp; first | with_reducible exact take_one | exact take_one)
  try simp only [Act.put, List.setIfInBounds_toArray, List.set_cons_zero, List.set_cons_succ]
  refine wpL_call (k' := 4) rfl (by kernel_rfl) (fun wz hz hd => ?t15) ?_
  case t15 =>
    have HZ := Lib.hid (HB1.out.trans (hz.mono HB1.out.size))
    unfold bringsAt
    go_simp
    have h9 := KW.out wz
    refine call_one_as h9 ?_
    rfl
  try simp only [Act.put, List.setIfInBounds_toArray, List.set_cons_zero, List.set_cons_succ]
  refine wpL_take (k' := 5) rfl (by kernel_rfl) (fun d os => ?t16) ?_
  case t16 => (unfold bringsAt; go_simp; first | with_reducible exact take_one | exact take_one)
  try simp only [Act.put, List.setIfInBounds_toArray, List.set_cons_zero, List.set_cons_succ]
  refine wpL_take (k' := 6) rfl (by kernel_rfl) (fun d os => ?t17) ?_
  case t17 => (unfold bringsAt; go_simp; first | with_reducible exact take_one | exact take_one)
  try simp only [Act.put, List.setIfInBounds_toArray, List.set_cons_zero, List.set_cons_succ]
  refine wpL_take (k' := 7) rfl (by kernel_rfl) (fun d os => ?t18) ?_
  case t18 => (unfold bringsAt; go_simp; first | with_reducible exact take_one | exact take_one)
  try simp only [Act.put, List.setIfInBounds_toArray, List.set_cons_zero, List.set_cons_succ]
  refine wpL_call (k' := 8) rfl (by kernel_rfl) (fun wz hz hd => ?t19) ?_
  case t19 =>
    have HZ := Lib.hid (HB1.out.trans (hz.mono HB1.out.size))
    unfold bringsAt
    go_simp
    have h9 := KH.out wz
    refine call_one_as h9 ?_
    rfl
  try simp only [Act.put, List.setIfInBounds_toArray, List.set_cons_zero, List.set_cons_succ]
  refine wpL_take (k' := 9) rfl (by kernel_rfl) (fun d os => ?t20) ?_
  case t20 => (unfold bringsAt; go_simp; first | with_reducible exact take_one | exact take_one)
  try simp only [Act.put, List.setIfInBounds_toArray, List.set_cons_zero, List.set_cons_succ]
  refine wpL_take (k' := 10) rfl (by kernel_rfl) (fun d os => ?t21) ?_
  case t21 => (unfold bringsAt; go_simp; first | with_reducible exact take_one | exact take_one)
  try simp only [Act.put, List.setIfInBounds_toArray, List.set_cons_zero, List.set_cons_succ]
  refine wpL_take (k' := 11) rfl (by kernel_rfl) (fun d os => ?t22) ?_
  case t22 => (unfold bringsAt; go_simp; first | with_reducible exact take_one | exact take_one)
  try simp only [Act.put, List.setIfInBounds_toArray, List.set_cons_zero, List.set_cons_succ]
  refine wpL_nil ?_
  intro w6 hH
  have hb' := hH.below
  clear kq0 kq1 kq2 kq3 kq4 kq5 kq6 kq7
  have HB1 := Lib.hid ((HB1.out).trans (hb'.mono (HB1.out).size))
  have HB := Lib.hid ((HB.out).trans (hb'.mono (HB.out).size))
  clear hH hb'
  obtain ⟨zB10, zB11, zB12, zB13⟩ := (B1.out.below HB1.out B1.out.lt).cells4
  obtain ⟨zB20, zB21, zB22, zB23⟩ := (B2.out.below HB1.out B2.out.lt).cells4
  go_wp2_with fail
  clear zB10 zB11 zB12 zB13
  clear zB20 zB21 zB22 zB23
  go_ret
  exact ⟨rfl, HB.out⟩
set_option maxRecDepth 100000 in
set_option maxHeartbeats 6400000 in
theorem rby_101 (v : Vd) (k : Nat) (w : World) (hk : k < 5) (hW : (v.W == (baseV k).W) = true) (hH : (v.H == (baseV k).H) = false) (hC : (v.C == (baseV k).C) = true) (hBB : (v.B == (baseV k).B) = false) : Calls Try.prog 28 #[vdV v, .int .i64 k] w fun e w' => e = .returned (.string (bstr (byB v k))) ∧ Below w.heap.size w w' := by
  have HB := Lib.hid (Below.refl w.heap.size w)
  obtain ⟨b, hb⟩ : ∃ b, b = baseV k := ⟨_, rfl⟩
  rw [← hb] at hW hH hC hBB
  have HBK := Lib.hid hb
  unfold byB
  rw [← hb]
  have o1 : oth1 v b = true := by unfold oth1 bne; rw [hW, hH]; rfl
  have o2 : oth2 v b = false := by unfold oth2 bne; rw [hC]; rfl
  have o3 : oth3 v b = true := by unfold oth3 bne; rw [hBB]; rfl
  rw [o1, o2, o3]
  clear o1 o2 o3 hb
  have hcc := fun w => rcode_b 1 w
  have hss := bcode_size 1
  obtain ⟨c1, hc1⟩ : ∃ c, c = bstr (codeB 1) := ⟨_, rfl⟩
  rw [← hc1] at hcc hss
  have K1 := Lib.hid hcc
  have s1 := hss
  clear hcc hss
  have E1 := Lib.hid hc1.symm
  clear hc1
  have hcc := fun w => rcode_b (k : Int) w
  have hss := bcode_size (k : Int)
  obtain ⟨ck, hck⟩ : ∃ c, c = bstr (codeB (k : Int)) := ⟨_, rfl⟩
  rw [← hck] at hcc hss
  have Kk := Lib.hid hcc
  have sk := hss
  clear hcc hss
  have Ek := Lib.hid hck.symm
  clear hck
  have hcc := fun w => rcode_b v.W w
  have hss := bcode_size v.W
  obtain ⟨cW, hcW⟩ : ∃ c, c = bstr (codeB v.W) := ⟨_, rfl⟩
  rw [← hcW] at hcc hss
  have KW := Lib.hid hcc
  have sW := hss
  clear hcc hss
  have EW := Lib.hid hcW.symm
  clear hcW
  have hcc := fun w => rcode_b v.H w
  have hss := bcode_size v.H
  obtain ⟨cH, hcH⟩ : ∃ c, c = bstr (codeB v.H) := ⟨_, rfl⟩
  rw [← hcH] at hcc hss
  have KH := Lib.hid hcc
  have sH := hss
  clear hcc hss
  have EH := Lib.hid hcH.symm
  clear hcH
  have hcc := fun w => rcode_b v.C w
  have hss := bcode_size v.C
  obtain ⟨cC, hcC⟩ : ∃ c, c = bstr (codeB v.C) := ⟨_, rfl⟩
  rw [← hcC] at hcc hss
  have KC := Lib.hid hcc
  have sC := hss
  clear hcc hss
  have EC := Lib.hid hcC.symm
  clear hcC
  have hcc := fun w => rcode_b v.B w
  have hss := bcode_size v.B
  obtain ⟨cB, hcB⟩ : ∃ c, c = bstr (codeB v.B) := ⟨_, rfl⟩
  rw [← hcB] at hcc hss
  have KB := Lib.hid hcc
  have sB := hss
  clear hcc hss
  have EB := Lib.hid hcB.symm
  clear hcB
  have hres : bstr (codeB 1 ++ codeB (k : Int) ++ grpB true [v.W, v.H] ++ grpB false [v.C] ++ grpB true [v.B]) = c1 ++ ck ++ (⟨#[49]⟩ ++ cW ++ cH) ++ ⟨#[48]⟩ ++ ⟨#[49]⟩ ++ cB := by
    rw [← E1.out, ← Ek.out, ← EW.out, ← EH.out, ← EB.out]
    rw [show (⟨#[48]⟩ : ByteArray) = bstr [false] from rfl]
    rw [show (⟨#[49]⟩ : ByteArray) = bstr [true] from rfl]
    simp only [bstr_app]
    simp [grpB]
  rw [hres]
  clear hres E1 Ek EW EH EC EB
  have i0 : (0 : Int) ≤ (k : Int) := by omega
  have i5 : (k : Int) < 5 := by omega
  go_enter Try.func28, Try.ntmps28
  go_wp2_with fail
  have HB := Lib.hid (below_alloc_ (HB.out) (.cells #[.int .i64 v.W, .int .i64 v.H, .int .i64 v.C, .int .i64 v.B] 23))
  have hzw : (w.alloc (.cells #[.int .i64 v.W, .int .i64 v.H, .int .i64 v.C, .int .i64 v.B] 23)).heap.size = w.heap.size + 1 := by simp only [World.size_alloc]
  have B1 := Blk.new (w) 23 #[.int .i64 v.W, .int .i64 v.H, .int .i64 v.C, .int .i64 v.B]
  skip
  have B1 := Lib.hid B1
  generalize w.alloc (.cells #[.int .i64 v.W, .int .i64 v.H, .int .i64 v.C, .int .i64 v.B] 23) = w1 at *
  clear hzw
  refine (rbases_c _).mono ?_
  rintro e w2 ⟨g, rfl, hge, htb, hb'⟩
  have HB := Lib.hid ((HB.out).trans (hb'.mono (HB.out).size))
  have B1 := Lib.hid ((B1.out).below hb' (B1.out).lt)
  obtain ⟨y0, y1, y2, y3⟩ := tab_cells htb hk
  rw [← HBK.out] at y0 y1 y2 y3
  clear htb hge hb'
  go_upto_region 2 with fail
  clear y0 y1 y2 y3 i0 i5
  have HB := Lib.hid (below_alloc_ (HB.out) (.cells #[.int .i64 b.W, .int .i64 b.H, .int .i64 b.C, .int .i64 b.B] 23))
  have B1 := Lib.hid ((B1.out).alloc (.cells #[.int .i64 b.W, .int .i64 b.H, .int .i64 b.C, .int .i64 b.B] 23))
  have hzw : (w2.alloc (.cells #[.int .i64 b.W, .int .i64 b.H, .int .i64 b.C, .int .i64 b.B] 23)).heap.size = w2.heap.size + 1 := by simp only [World.size_alloc]
  have B2 := Blk.new (w2) 23 #[.int .i64 b.W, .int .i64 b.H, .int .i64 b.C, .int .i64 b.B]
  skip
  have B2 := Lib.hid B2
  generalize w2.alloc (.cells #[.int .i64 b.W, .int .i64 b.H, .int .i64 b.C, .int .i64 b.B] 23) = w3 at *
  clear hzw
  obtain ⟨zB10, zB11, zB12, zB13⟩ := (B1.out).cells4
  obtain ⟨zB20, zB21, zB22, zB23⟩ := (B2.out).cells4
  go_wp2_with fail
  clear zB10 zB11 zB12 zB13
  clear zB20 zB21 zB22 zB23
  refine (K1.out _).mono ?_
  rintro e w4 ⟨rfl, hb'⟩
  have HB := Lib.hid ((HB.out).trans (hb'.mono (HB.out).size))
  have B1 := Lib.hid ((B1.out).below hb' (B1.out).lt)
  have B2 := Lib.hid ((B2.out).below hb' (B2.out).lt)
  clear hb'
  obtain ⟨zB10, zB11, zB12, zB13⟩ := (B1.out).cells4
  obtain ⟨zB20, zB21, zB22, zB23⟩ := (B2.out).cells4
  go_wp2_with fail
  clear zB10 zB11 zB12 zB13
  clear zB20 zB21 zB22 zB23
  refine (Kk.out _).mono ?_
  rintro e w5 ⟨rfl, hb'⟩
  have HB := Lib.hid ((HB.out).trans (hb'.mono (HB.out).size))
  have B1 := Lib.hid ((B1.out).below hb' (B1.out).lt)
  have B2 := Lib.hid ((B2.out).below hb' (B2.out).lt)
  clear hb'
  obtain ⟨zB10, zB11, zB12, zB13⟩ := (B1.out).cells4
  obtain ⟨zB20, zB21, zB22, zB23⟩ := (B2.out).cells4
  go_upto_region 5 with fail
  clear zB10 zB11 zB12 zB13
  clear zB20 zB21 zB22 zB23
  have HB1 := Lib.hid (Below.refl w5.heap.size w5)
  have m1 : ¬ (9223372036854775807 < 1 + cW.size) := by omega
  have m2 : ¬ (9223372036854775807 < 1 + cW.size + cH.size) := by omega
  have m3 : ¬ (9223372036854775807 < c1.size + ck.size + (1 + cW.size + cH.size)) := by omega
  obtain ⟨zB10, zB11, zB12, zB13⟩ := (B1.out.below HB1.out B1.out.lt).cells4
  obtain ⟨zB20, zB21, zB22, zB23⟩ := (B2.out.below HB1.out B2.out.lt).cells4
  have kq0 := cell_regrown zB10
  have kq1 := cell_regrown zB11
  have kq2 := cell_regrown zB12
  have kq3 := cell_regrown zB13
  have kq4 := cell_regrown zB20
  have kq5 := cell_regrown zB21
  have kq6 := cell_regrown zB22
  have kq7 := cell_regrown zB23
  clear zB10 zB11 zB12 zB13 zB20 zB21 zB22 zB23
  refine wp_mono [Brings.one ?b23_0, Brings.one ?b24_1, Brings.one ?b25_2, Brings.one ?b26_3, Brings.one ?b27_4, Brings.one ?b28_5, Brings.one ?b29_6, Brings.one ?b30_7, Brings.one ?b31_8, Brings.one ?b32_9, Brings.one ?b33_10] (by kernel_rfl) (by kernel_rfl) ?_
  rotate_left 11
  refine wpL_take (k' := 1) rfl (by kernel_rfl) (fun d os => ?t34) ?_
  case t34 => (unfold bringsAt; go_simp; first | with_reducible exact take_one | exact take_one)
  try simp only [Act.put, List.setIfInBounds_toArray, List.set_cons_zero, List.set_cons_succ]
  refine wpL_take (k' := 2) rfl (by kernel_rfl) (fun d os => ?t35) ?_
  case t35 => (unfold bringsAt; go_simp; first | with_reducible exact take_one | exact take_one)
  try simp only [Act.put, List.setIfInBounds_toArray, List.set_cons_zero, List.set_cons_succ]
  refine wpL_take (k' := 3) rfl (by kernel_rfl) (fun d os => ?t36) ?_
  case t36 => (unfold bringsAt; go_simp; first | with_reducible exact take_one | exact take_one)
  try simp only [Act.put, List.setIfInBounds_toArray, List.set_cons_zero, List.set_cons_succ]
  refine wpL_call (k' := 4) rfl (by kernel_rfl) (fun wz hz hd => ?t37) ?_
  case t37 =>
    have HZ := Lib.hid (HB1.out.trans (hz.mono HB1.out.size))
    unfold bringsAt
    go_simp
    have h9 := KW.out wz
    refine call_one_as h9 ?_
    rfl
  try simp only [Act.put, List.setIfInBounds_toArray, List.set_cons_zero, List.set_cons_succ]
  refine wpL_take (k' := 5) rfl (by kernel_rfl) (fun d os => ?t38) ?_
  case t38 => (unfold bringsAt; go_simp; first | with_reducible exact take_one | exact take_one)
  try simp only [Act.put, List.setIfInBounds_toArray, List.set_cons_zero, List.set_cons_succ]
  refine wpL_take (k' := 6) rfl (by kernel_rfl) (fun d os => ?t39) ?_
  case t39 => (unfold bringsAt; go_simp; first | with_reducible exact take_one | exact take_one)
  try simp only [Act.put, List.setIfInBounds_toArray, List.set_cons_zero, List.set_cons_succ]
  refine wpL_take (k' := 7) rfl (by kernel_rfl) (fun d os => ?t40) ?_
  case t40 => (unfold bringsAt; go_simp; first | with_reducible exact take_one | exact take_one)
  try simp only [Act.put, List.setIfInBounds_toArray, List.set_cons_zero, List.set_cons_succ]
  refine wpL_call (k' := 8) rfl (by kernel_rfl) (fun wz hz hd => ?t41) ?_
  case t41 =>
    have HZ := Lib.hid (HB1.out.trans (hz.mono HB1.out.size))
    unfold bringsAt
    go_simp
    have h9 := KH.out wz
    refine call_one_as h9 ?_
    rfl
  try simp only [Act.put, List.setIfInBounds_toArray, List.set_cons_zero, List.set_cons_succ]
  refine wpL_take (k' := 9) rfl (by kernel_rfl) (fun d os => ?t42) ?_
  case t42 => (unfold bringsAt; go_simp; first | with_reducible exact take_one | exact take_one)
  try simp only [Act.put, List.setIfInBounds_toArray, List.set_cons_zero, List.set_cons_succ]
  refine wpL_take (k' := 10) rfl (by kernel_rfl) (fun d os => ?t43) ?_
  case t43 => (unfold bringsAt; go_simp; first | with_reducible exact take_one | exact take_one)
  try simp only [Act.put, List.setIfInBounds_toArray, List.set_cons_zero, List.set_cons_succ]
  refine wpL_take (k' := 11) rfl (by kernel_rfl) (fun d os => ?t44) ?_
  case t44 => (unfold bringsAt; go_simp; first | with_reducible exact take_one | exact take_one)
  try simp only [Act.put, List.setIfInBounds_toArray, List.set_cons_zero, List.set_cons_succ]
  refine wpL_nil ?_
  intro w6 hH
  have hb' := hH.below
  clear kq0 kq1 kq2 kq3 kq4 kq5 kq6 kq7
  have HB1 := Lib.hid ((HB1.out).trans (hb'.mono (HB1.out).size))
  have HB := Lib.hid ((HB.out).trans (hb'.mono (HB.out).size))
  clear hH hb'
  obtain ⟨zB10, zB11, zB12, zB13⟩ := (B1.out.below HB1.out B1.out.lt).cells4
  obtain ⟨zB20, zB21, zB22, zB23⟩ := (B2.out.below HB1.out B2.out.lt).cells4
  go_upto_region 11 with fail
  clear zB10 zB11 zB12 zB13
  clear zB20 zB21 zB22 zB23
  obtain ⟨zB10, zB11, zB12, zB13⟩ := (B1.out.below HB1.out B1.out.lt).cells4
  obtain ⟨zB20, zB21, zB22, zB23⟩ := (B2.out.below HB1.out B2.out.lt).cells4
  go_wp2_with fail
  clear zB10 zB11 zB12 zB13
  clear zB20 zB21 zB22 zB23
  refine (KB.out _).mono ?_
  rintro e w7 ⟨rfl, hb'⟩
  have HB1 := Lib.hid ((HB1.out).trans (hb'.mono (HB1.out).size))
  have HB := Lib.hid ((HB.out).trans (hb'.mono (HB.out).size))
  clear hb'
  obtain ⟨zB10, zB11, zB12, zB13⟩ := (B1.out.below HB1.out B1.out.lt).cells4
  obtain ⟨zB20, zB21, zB22, zB23⟩ := (B2.out.below HB1.out B2.out.lt).cells4
  go_wp2_with fail
  clear zB10 zB11 zB12 zB13
  clear zB20 zB21 zB22 zB23
  go_ret
  exact ⟨rfl, HB.out⟩
set_option maxRecDepth 100000 in
set_option maxHeartbeats 6400000 in
theorem rby_110 (v : Vd) (k : Nat) (w : World) (hk : k < 5) (hW : (v.W == (baseV k).W) = true) (hH : (v.H == (baseV k).H) = false) (hC : (v.C == (baseV k).C) = false) (hBB : (v.B == (baseV k).B) = true) : Calls Try.prog 28 #[vdV v, .int .i64 k] w fun e w' => e = .returned (.string (bstr (byB v k))) ∧ Below w.heap.size w w' := by
  have HB := Lib.hid (Below.refl w.heap.size w)
  obtain ⟨b, hb⟩ : ∃ b, b = baseV k := ⟨_, rfl⟩
  rw [← hb] at hW hH hC hBB
  have HBK := Lib.hid hb
  unfold byB
  rw [← hb]
  have o1 : oth1 v b = true := by unfold oth1 bne; rw [hW, hH]; rfl
  have o2 : oth2 v b = true := by unfold oth2 bne; rw [hC]; rfl
  have o3 : oth3 v b = false := by unfold oth3 bne; rw [hBB]; rfl
  rw [o1, o2, o3]
  clear o1 o2 o3 hb
  have hcc := fun w => rcode_b 1 w
  have hss := bcode_size 1
  obtain ⟨c1, hc1⟩ : ∃ c, c = bstr (codeB 1) := ⟨_, rfl⟩
  rw [← hc1] at hcc hss
  have K1 := Lib.hid hcc
  have s1 := hss
  clear hcc hss
  have E1 := Lib.hid hc1.symm
  clear hc1
  have hcc := fun w => rcode_b (k : Int) w
  have hss := bcode_size (k : Int)
  obtain ⟨ck, hck⟩ : ∃ c, c = bstr (codeB (k : Int)) := ⟨_, rfl⟩
  rw [← hck] at hcc hss
  have Kk := Lib.hid hcc
  have sk := hss
  clear hcc hss
  have Ek := Lib.hid hck.symm
  clear hck
  have hcc := fun w => rcode_b v.W w
  have hss := bcode_size v.W
  obtain ⟨cW, hcW⟩ : ∃ c, c = bstr (codeB v.W) := ⟨_, rfl⟩
  rw [← hcW] at hcc hss
  have KW := Lib.hid hcc
  have sW := hss
  clear hcc hss
  have EW := Lib.hid hcW.symm
  clear hcW
  have hcc := fun w => rcode_b v.H w
  have hss := bcode_size v.H
  obtain ⟨cH, hcH⟩ : ∃ c, c = bstr (codeB v.H) := ⟨_, rfl⟩
  rw [← hcH] at hcc hss
  have KH := Lib.hid hcc
  have sH := hss
  clear hcc hss
  have EH := Lib.hid hcH.symm
  clear hcH
  have hcc := fun w => rcode_b v.C w
  have hss := bcode_size v.C
  obtain ⟨cC, hcC⟩ : ∃ c, c = bstr (codeB v.C) := ⟨_, rfl⟩
  rw [← hcC] at hcc hss
  have KC := Lib.hid hcc
  have sC := hss
  clear hcc hss
  have EC := Lib.hid hcC.symm
  clear hcC
  have hcc := fun w => rcode_b v.B w
  have hss := bcode_size v.B
  obtain ⟨cB, hcB⟩ : ∃ c, c = bstr (codeB v.B) := ⟨_, rfl⟩
  rw [← hcB] at hcc hss
  have KB := Lib.hid hcc
  have sB := hss
  clear hcc hss
  have EB := Lib.hid hcB.symm
  clear hcB
  have hres : bstr (codeB 1 ++ codeB (k : Int) ++ grpB true [v.W, v.H] ++ grpB true [v.C] ++ grpB false [v.B]) = c1 ++ ck ++ (⟨#[49]⟩ ++ cW ++ cH) ++ (⟨#[49]⟩ ++ cC) ++ ⟨#[48]⟩ := by
    rw [← E1.out, ← Ek.out, ← EW.out, ← EH.out, ← EC.out]
    rw [show (⟨#[48]⟩ : ByteArray) = bstr [false] from rfl]
    rw [show (⟨#[49]⟩ : ByteArray) = bstr [true] from rfl]
    simp only [bstr_app]
    simp [grpB]
  rw [hres]
  clear hres E1 Ek EW EH EC EB
  have i0 : (0 : Int) ≤ (k : Int) := by omega
  have i5 : (k : Int) < 5 := by omega
  go_enter Try.func28, Try.ntmps28
  go_wp2_with fail
  have HB := Lib.hid (below_alloc_ (HB.out) (.cells #[.int .i64 v.W, .int .i64 v.H, .int .i64 v.C, .int .i64 v.B] 23))
  have hzw : (w.alloc (.cells #[.int .i64 v.W, .int .i64 v.H, .int .i64 v.C, .int .i64 v.B] 23)).heap.size = w.heap.size + 1 := by simp only [World.size_alloc]
  have B1 := Blk.new (w) 23 #[.int .i64 v.W, .int .i64 v.H, .int .i64 v.C, .int .i64 v.B]
  skip
  have B1 := Lib.hid B1
  generalize w.alloc (.cells #[.int .i64 v.W, .int .i64 v.H, .int .i64 v.C, .int .i64 v.B] 23) = w1 at *
  clear hzw
  refine (rbases_c _).mono ?_
  rintro e w2 ⟨g, rfl, hge, htb, hb'⟩
  have HB := Lib.hid ((HB.out).trans (hb'.mono (HB.out).size))
  have B1 := Lib.hid ((B1.out).below hb' (B1.out).lt)
  obtain ⟨y0, y1, y2, y3⟩ := tab_cells htb hk
  rw [← HBK.out] at y0 y1 y2 y3
  clear htb hge hb'
  go_upto_region 2 with fail
  clear y0 y1 y2 y3 i0 i5
  have HB := Lib.hid (below_alloc_ (HB.out) (.cells #[.int .i64 b.W, .int .i64 b.H, .int .i64 b.C, .int .i64 b.B] 23))
  have B1 := Lib.hid ((B1.out).alloc (.cells #[.int .i64 b.W, .int .i64 b.H, .int .i64 b.C, .int .i64 b.B] 23))
  have hzw : (w2.alloc (.cells #[.int .i64 b.W, .int .i64 b.H, .int .i64 b.C, .int .i64 b.B] 23)).heap.size = w2.heap.size + 1 := by simp only [World.size_alloc]
  have B2 := Blk.new (w2) 23 #[.int .i64 b.W, .int .i64 b.H, .int .i64 b.C, .int .i64 b.B]
  skip
  have B2 := Lib.hid B2
  generalize w2.alloc (.cells #[.int .i64 b.W, .int .i64 b.H, .int .i64 b.C, .int .i64 b.B] 23) = w3 at *
  clear hzw
  obtain ⟨zB10, zB11, zB12, zB13⟩ := (B1.out).cells4
  obtain ⟨zB20, zB21, zB22, zB23⟩ := (B2.out).cells4
  go_wp2_with fail
  clear zB10 zB11 zB12 zB13
  clear zB20 zB21 zB22 zB23
  refine (K1.out _).mono ?_
  rintro e w4 ⟨rfl, hb'⟩
  have HB := Lib.hid ((HB.out).trans (hb'.mono (HB.out).size))
  have B1 := Lib.hid ((B1.out).below hb' (B1.out).lt)
  have B2 := Lib.hid ((B2.out).below hb' (B2.out).lt)
  clear hb'
  obtain ⟨zB10, zB11, zB12, zB13⟩ := (B1.out).cells4
  obtain ⟨zB20, zB21, zB22, zB23⟩ := (B2.out).cells4
  go_wp2_with fail
  clear zB10 zB11 zB12 zB13
  clear zB20 zB21 zB22 zB23
  refine (Kk.out _).mono ?_
  rintro e w5 ⟨rfl, hb'⟩
  have HB := Lib.hid ((HB.out).trans (hb'.mono (HB.out).size))
  have B1 := Lib.hid ((B1.out).below hb' (B1.out).lt)
  have B2 := Lib.hid ((B2.out).below hb' (B2.out).lt)
  clear hb'
  obtain ⟨zB10, zB11, zB12, zB13⟩ := (B1.out).cells4
  obtain ⟨zB20, zB21, zB22, zB23⟩ := (B2.out).cells4
  go_upto_region 5 with fail
  clear zB10 zB11 zB12 zB13
  clear zB20 zB21 zB22 zB23
  have HB1 := Lib.hid (Below.refl w5.heap.size w5)
  have m1 : ¬ (9223372036854775807 < 1 + cW.size) := by omega
  have m2 : ¬ (9223372036854775807 < 1 + cW.size + cH.size) := by omega
  have m3 : ¬ (9223372036854775807 < c1.size + ck.size + (1 + cW.size + cH.size)) := by omega
  obtain ⟨zB10, zB11, zB12, zB13⟩ := (B1.out.below HB1.out B1.out.lt).cells4
  obtain ⟨zB20, zB21, zB22, zB23⟩ := (B2.out.below HB1.out B2.out.lt).cells4
  have kq0 := cell_regrown zB10
  have kq1 := cell_regrown zB11
  have kq2 := cell_regrown zB12
  have kq3 := cell_regrown zB13
  have kq4 := cell_regrown zB20
  have kq5 := cell_regrown zB21
  have kq6 := cell_regrown zB22
  have kq7 := cell_regrown zB23
  clear zB10 zB11 zB12 zB13 zB20 zB21 zB22 zB23
  refine wp_mono [Brings.one ?b45_0, Brings.one ?b46_1, Brings.one ?b47_2, Brings.one ?b48_3, Brings.one ?b49_4, Brings.one ?b50_5, Brings.one ?b51_6, Brings.one ?b52_7, Brings.one ?b53_8, Brings.one ?b54_9, Brings.one ?b55_10] (by kernel_rfl) (by kernel_rfl) ?_
  rotate_left 11
  refine wpL_take (k' := 1) rfl (by kernel_rfl) (fun d os => ?t56) ?_
  case t56 => (unfold bringsAt; go_simp; first | with_reducible exact take_one | exact take_one)
  try simp only [Act.put, List.setIfInBounds_toArray, List.set_cons_zero, List.set_cons_succ]
  refine wpL_take (k' := 2) rfl (by kernel_rfl) (fun d os => ?t57) ?_
  case t57 => (unfold bringsAt; go_simp; first | with_reducible exact take_one | exact take_one)
  try simp only [Act.put, List.setIfInBounds_toArray, List.set_cons_zero, List.set_cons_succ]
  refine wpL_take (k' := 3) rfl (by kernel_rfl) (fun d os => ?t58) ?_
  case t58 => (unfold bringsAt; go_simp; first | with_reducible exact take_one | exact take_one)
  try simp only [Act.put, List.setIfInBounds_toArray, List.set_cons_zero, List.set_cons_succ]
  refine wpL_call (k' := 4) rfl (by kernel_rfl) (fun wz hz hd => ?t59) ?_
  case t59 =>
    have HZ := Lib.hid (HB1.out.trans (hz.mono HB1.out.size))
    unfold bringsAt
    go_simp
    have h9 := KW.out wz
    refine call_one_as h9 ?_
    rfl
  try simp only [Act.put, List.setIfInBounds_toArray, List.set_cons_zero, List.set_cons_succ]
  refine wpL_take (k' := 5) rfl (by kernel_rfl) (fun d os => ?t60) ?_
  case t60 => (unfold bringsAt; go_simp; first | with_reducible exact take_one | exact take_one)
  try simp only [Act.put, List.setIfInBounds_toArray, List.set_cons_zero, List.set_cons_succ]
  refine wpL_take (k' := 6) rfl (by kernel_rfl) (fun d os => ?t61) ?_
  case t61 => (unfold bringsAt; go_simp; first | with_reducible exact take_one | exact take_one)
  try simp only [Act.put, List.setIfInBounds_toArray, List.set_cons_zero, List.set_cons_succ]
  refine wpL_take (k' := 7) rfl (by kernel_rfl) (fun d os => ?t62) ?_
  case t62 => (unfold bringsAt; go_simp; first | with_reducible exact take_one | exact take_one)
  try simp only [Act.put, List.setIfInBounds_toArray, List.set_cons_zero, List.set_cons_succ]
  refine wpL_call (k' := 8) rfl (by kernel_rfl) (fun wz hz hd => ?t63) ?_
  case t63 =>
    have HZ := Lib.hid (HB1.out.trans (hz.mono HB1.out.size))
    unfold bringsAt
    go_simp
    have h9 := KH.out wz
    refine call_one_as h9 ?_
    rfl
  try simp only [Act.put, List.setIfInBounds_toArray, List.set_cons_zero, List.set_cons_succ]
  refine wpL_take (k' := 9) rfl (by kernel_rfl) (fun d os => ?t64) ?_
  case t64 => (unfold bringsAt; go_simp; first | with_reducible exact take_one | exact take_one)
  try simp only [Act.put, List.setIfInBounds_toArray, List.set_cons_zero, List.set_cons_succ]
  refine wpL_take (k' := 10) rfl (by kernel_rfl) (fun d os => ?t65) ?_
  case t65 => (unfold bringsAt; go_simp; first | with_reducible exact take_one | exact take_one)
  try simp only [Act.put, List.setIfInBounds_toArray, List.set_cons_zero, List.set_cons_succ]
  refine wpL_take (k' := 11) rfl (by kernel_rfl) (fun d os => ?t66) ?_
  case t66 => (unfold bringsAt; go_simp; first | with_reducible exact take_one | exact take_one)
  try simp only [Act.put, List.setIfInBounds_toArray, List.set_cons_zero, List.set_cons_succ]
  refine wpL_nil ?_
  intro w6 hH
  have hb' := hH.below
  clear kq0 kq1 kq2 kq3 kq4 kq5 kq6 kq7
  have HB1 := Lib.hid ((HB1.out).trans (hb'.mono (HB1.out).size))
  have HB := Lib.hid ((HB.out).trans (hb'.mono (HB.out).size))
  clear hH hb'
  obtain ⟨zB10, zB11, zB12, zB13⟩ := (B1.out.below HB1.out B1.out.lt).cells4
  obtain ⟨zB20, zB21, zB22, zB23⟩ := (B2.out.below HB1.out B2.out.lt).cells4
  go_upto_region 8 with fail
  clear zB10 zB11 zB12 zB13
  clear zB20 zB21 zB22 zB23
  obtain ⟨zB10, zB11, zB12, zB13⟩ := (B1.out.below HB1.out B1.out.lt).cells4
  obtain ⟨zB20, zB21, zB22, zB23⟩ := (B2.out.below HB1.out B2.out.lt).cells4
  go_wp2_with fail
  clear zB10 zB11 zB12 zB13
  clear zB20 zB21 zB22 zB23
  refine (KC.out _).mono ?_
  rintro e w7 ⟨rfl, hb'⟩
  have HB1 := Lib.hid ((HB1.out).trans (hb'.mono (HB1.out).size))
  have HB := Lib.hid ((HB.out).trans (hb'.mono (HB.out).size))
  clear hb'
  obtain ⟨zB10, zB11, zB12, zB13⟩ := (B1.out.below HB1.out B1.out.lt).cells4
  obtain ⟨zB20, zB21, zB22, zB23⟩ := (B2.out.below HB1.out B2.out.lt).cells4
  go_wp2_with fail
  clear zB10 zB11 zB12 zB13
  clear zB20 zB21 zB22 zB23
  go_ret
  exact ⟨rfl, HB.out⟩
set_option maxRecDepth 100000 in
set_option maxHeartbeats 6400000 in
theorem rby_111 (v : Vd) (k : Nat) (w : World) (hk : k < 5) (hW : (v.W == (baseV k).W) = true) (hH : (v.H == (baseV k).H) = false) (hC : (v.C == (baseV k).C) = false) (hBB : (v.B == (baseV k).B) = false) : Calls Try.prog 28 #[vdV v, .int .i64 k] w fun e w' => e = .returned (.string (bstr (byB v k))) ∧ Below w.heap.size w w' := by
  have HB := Lib.hid (Below.refl w.heap.size w)
  obtain ⟨b, hb⟩ : ∃ b, b = baseV k := ⟨_, rfl⟩
  rw [← hb] at hW hH hC hBB
  have HBK := Lib.hid hb
  unfold byB
  rw [← hb]
  have o1 : oth1 v b = true := by unfold oth1 bne; rw [hW, hH]; rfl
  have o2 : oth2 v b = true := by unfold oth2 bne; rw [hC]; rfl
  have o3 : oth3 v b = true := by unfold oth3 bne; rw [hBB]; rfl
  rw [o1, o2, o3]
  clear o1 o2 o3 hb
  have hcc := fun w => rcode_b 1 w
  have hss := bcode_size 1
  obtain ⟨c1, hc1⟩ : ∃ c, c = bstr (codeB 1) := ⟨_, rfl⟩
  rw [← hc1] at hcc hss
  have K1 := Lib.hid hcc
  have s1 := hss
  clear hcc hss
  have E1 := Lib.hid hc1.symm
  clear hc1
  have hcc := fun w => rcode_b (k : Int) w
  have hss := bcode_size (k : Int)
  obtain ⟨ck, hck⟩ : ∃ c, c = bstr (codeB (k : Int)) := ⟨_, rfl⟩
  rw [← hck] at hcc hss
  have Kk := Lib.hid hcc
  have sk := hss
  clear hcc hss
  have Ek := Lib.hid hck.symm
  clear hck
  have hcc := fun w => rcode_b v.W w
  have hss := bcode_size v.W
  obtain ⟨cW, hcW⟩ : ∃ c, c = bstr (codeB v.W) := ⟨_, rfl⟩
  rw [← hcW] at hcc hss
  have KW := Lib.hid hcc
  have sW := hss
  clear hcc hss
  have EW := Lib.hid hcW.symm
  clear hcW
  have hcc := fun w => rcode_b v.H w
  have hss := bcode_size v.H
  obtain ⟨cH, hcH⟩ : ∃ c, c = bstr (codeB v.H) := ⟨_, rfl⟩
  rw [← hcH] at hcc hss
  have KH := Lib.hid hcc
  have sH := hss
  clear hcc hss
  have EH := Lib.hid hcH.symm
  clear hcH
  have hcc := fun w => rcode_b v.C w
  have hss := bcode_size v.C
  obtain ⟨cC, hcC⟩ : ∃ c, c = bstr (codeB v.C) := ⟨_, rfl⟩
  rw [← hcC] at hcc hss
  have KC := Lib.hid hcc
  have sC := hss
  clear hcc hss
  have EC := Lib.hid hcC.symm
  clear hcC
  have hcc := fun w => rcode_b v.B w
  have hss := bcode_size v.B
  obtain ⟨cB, hcB⟩ : ∃ c, c = bstr (codeB v.B) := ⟨_, rfl⟩
  rw [← hcB] at hcc hss
  have KB := Lib.hid hcc
  have sB := hss
  clear hcc hss
  have EB := Lib.hid hcB.symm
  clear hcB
  have hres : bstr (codeB 1 ++ codeB (k : Int) ++ grpB true [v.W, v.H] ++ grpB true [v.C] ++ grpB true [v.B]) = c1 ++ ck ++ (⟨#[49]⟩ ++ cW ++ cH) ++ (⟨#[49]⟩ ++ cC) ++ ⟨#[49]⟩ ++ cB := by
    rw [← E1.out, ← Ek.out, ← EW.out, ← EH.out, ← EC.out, ← EB.out]
    skip
    rw [show (⟨#[49]⟩ : ByteArray) = bstr [true] from rfl]
    simp only [bstr_app]
    simp [grpB]
  rw [hres]
  clear hres E1 Ek EW EH EC EB
  have i0 : (0 : Int) ≤ (k : Int) := by omega
  have i5 : (k : Int) < 5 := by omega
  go_enter Try.func28, Try.ntmps28
  go_wp2_with fail
  have HB := Lib.hid (below_alloc_ (HB.out) (.cells #[.int .i64 v.W, .int .i64 v.H, .int .i64 v.C, .int .i64 v.B] 23))
  have hzw : (w.alloc (.cells #[.int .i64 v.W, .int .i64 v.H, .int .i64 v.C, .int .i64 v.B] 23)).heap.size = w.heap.size + 1 := by simp only [World.size_alloc]
  have B1 := Blk.new (w) 23 #[.int .i64 v.W, .int .i64 v.H, .int .i64 v.C, .int .i64 v.B]
  skip
  have B1 := Lib.hid B1
  generalize w.alloc (.cells #[.int .i64 v.W, .int .i64 v.H, .int .i64 v.C, .int .i64 v.B] 23) = w1 at *
  clear hzw
  refine (rbases_c _).mono ?_
  rintro e w2 ⟨g, rfl, hge, htb, hb'⟩
  have HB := Lib.hid ((HB.out).trans (hb'.mono (HB.out).size))
  have B1 := Lib.hid ((B1.out).below hb' (B1.out).lt)
  obtain ⟨y0, y1, y2, y3⟩ := tab_cells htb hk
  rw [← HBK.out] at y0 y1 y2 y3
  clear htb hge hb'
  go_upto_region 2 with fail
  clear y0 y1 y2 y3 i0 i5
  have HB := Lib.hid (below_alloc_ (HB.out) (.cells #[.int .i64 b.W, .int .i64 b.H, .int .i64 b.C, .int .i64 b.B] 23))
  have B1 := Lib.hid ((B1.out).alloc (.cells #[.int .i64 b.W, .int .i64 b.H, .int .i64 b.C, .int .i64 b.B] 23))
  have hzw : (w2.alloc (.cells #[.int .i64 b.W, .int .i64 b.H, .int .i64 b.C, .int .i64 b.B] 23)).heap.size = w2.heap.size + 1 := by simp only [World.size_alloc]
  have B2 := Blk.new (w2) 23 #[.int .i64 b.W, .int .i64 b.H, .int .i64 b.C, .int .i64 b.B]
  skip
  have B2 := Lib.hid B2
  generalize w2.alloc (.cells #[.int .i64 b.W, .int .i64 b.H, .int .i64 b.C, .int .i64 b.B] 23) = w3 at *
  clear hzw
  obtain ⟨zB10, zB11, zB12, zB13⟩ := (B1.out).cells4
  obtain ⟨zB20, zB21, zB22, zB23⟩ := (B2.out).cells4
  go_wp2_with fail
  clear zB10 zB11 zB12 zB13
  clear zB20 zB21 zB22 zB23
  refine (K1.out _).mono ?_
  rintro e w4 ⟨rfl, hb'⟩
  have HB := Lib.hid ((HB.out).trans (hb'.mono (HB.out).size))
  have B1 := Lib.hid ((B1.out).below hb' (B1.out).lt)
  have B2 := Lib.hid ((B2.out).below hb' (B2.out).lt)
  clear hb'
  obtain ⟨zB10, zB11, zB12, zB13⟩ := (B1.out).cells4
  obtain ⟨zB20, zB21, zB22, zB23⟩ := (B2.out).cells4
  go_wp2_with fail
  clear zB10 zB11 zB12 zB13
  clear zB20 zB21 zB22 zB23
  refine (Kk.out _).mono ?_
  rintro e w5 ⟨rfl, hb'⟩
  have HB := Lib.hid ((HB.out).trans (hb'.mono (HB.out).size))
  have B1 := Lib.hid ((B1.out).below hb' (B1.out).lt)
  have B2 := Lib.hid ((B2.out).below hb' (B2.out).lt)
  clear hb'
  obtain ⟨zB10, zB11, zB12, zB13⟩ := (B1.out).cells4
  obtain ⟨zB20, zB21, zB22, zB23⟩ := (B2.out).cells4
  go_upto_region 5 with fail
  clear zB10 zB11 zB12 zB13
  clear zB20 zB21 zB22 zB23
  have HB1 := Lib.hid (Below.refl w5.heap.size w5)
  have m1 : ¬ (9223372036854775807 < 1 + cW.size) := by omega
  have m2 : ¬ (9223372036854775807 < 1 + cW.size + cH.size) := by omega
  have m3 : ¬ (9223372036854775807 < c1.size + ck.size + (1 + cW.size + cH.size)) := by omega
  obtain ⟨zB10, zB11, zB12, zB13⟩ := (B1.out.below HB1.out B1.out.lt).cells4
  obtain ⟨zB20, zB21, zB22, zB23⟩ := (B2.out.below HB1.out B2.out.lt).cells4
  have kq0 := cell_regrown zB10
  have kq1 := cell_regrown zB11
  have kq2 := cell_regrown zB12
  have kq3 := cell_regrown zB13
  have kq4 := cell_regrown zB20
  have kq5 := cell_regrown zB21
  have kq6 := cell_regrown zB22
  have kq7 := cell_regrown zB23
  clear zB10 zB11 zB12 zB13 zB20 zB21 zB22 zB23
  refine wp_mono [Brings.one ?b67_0, Brings.one ?b68_1, Brings.one ?b69_2, Brings.one ?b70_3, Brings.one ?b71_4, Brings.one ?b72_5, Brings.one ?b73_6, Brings.one ?b74_7, Brings.one ?b75_8, Brings.one ?b76_9, Brings.one ?b77_10] (by kernel_rfl) (by kernel_rfl) ?_
  rotate_left 11
  refine wpL_take (k' := 1) rfl (by kernel_rfl) (fun d os => ?t78) ?_
  case t78 => (unfold bringsAt; go_simp; first | with_reducible exact take_one | exact take_one)
  try simp only [Act.put, List.setIfInBounds_toArray, List.set_cons_zero, List.set_cons_succ]
  refine wpL_take (k' := 2) rfl (by kernel_rfl) (fun d os => ?t79) ?_
  case t79 => (unfold bringsAt; go_simp; first | with_reducible exact take_one | exact take_one)
  try simp only [Act.put, List.setIfInBounds_toArray, List.set_cons_zero, List.set_cons_succ]
  refine wpL_take (k' := 3) rfl (by kernel_rfl) (fun d os => ?t80) ?_
  case t80 => (unfold bringsAt; go_simp; first | with_reducible exact take_one | exact take_one)
  try simp only [Act.put, List.setIfInBounds_toArray, List.set_cons_zero, List.set_cons_succ]
  refine wpL_call (k' := 4) rfl (by kernel_rfl) (fun wz hz hd => ?t81) ?_
  case t81 =>
    have HZ := Lib.hid (HB1.out.trans (hz.mono HB1.out.size))
    unfold bringsAt
    go_simp
    have h9 := KW.out wz
    refine call_one_as h9 ?_
    rfl
  try simp only [Act.put, List.setIfInBounds_toArray, List.set_cons_zero, List.set_cons_succ]
  refine wpL_take (k' := 5) rfl (by kernel_rfl) (fun d os => ?t82) ?_
  case t82 => (unfold bringsAt; go_simp; first | with_reducible exact take_one | exact take_one)
  try simp only [Act.put, List.setIfInBounds_toArray, List.set_cons_zero, List.set_cons_succ]
  refine wpL_take (k' := 6) rfl (by kernel_rfl) (fun d os => ?t83) ?_
  case t83 => (unfold bringsAt; go_simp; first | with_reducible exact take_one | exact take_one)
  try simp only [Act.put, List.setIfInBounds_toArray, List.set_cons_zero, List.set_cons_succ]
  refine wpL_take (k' := 7) rfl (by kernel_rfl) (fun d os => ?t84) ?_
  case t84 => (unfold bringsAt; go_simp; first | with_reducible exact take_one | exact take_one)
  try simp only [Act.put, List.setIfInBounds_toArray, List.set_cons_zero, List.set_cons_succ]
  refine wpL_call (k' := 8) rfl (by kernel_rfl) (fun wz hz hd => ?t85) ?_
  case t85 =>
    have HZ := Lib.hid (HB1.out.trans (hz.mono HB1.out.size))
    unfold bringsAt
    go_simp
    have h9 := KH.out wz
    refine call_one_as h9 ?_
    rfl
  try simp only [Act.put, List.setIfInBounds_toArray, List.set_cons_zero, List.set_cons_succ]
  refine wpL_take (k' := 9) rfl (by kernel_rfl) (fun d os => ?t86) ?_
  case t86 => (unfold bringsAt; go_simp; first | with_reducible exact take_one | exact take_one)
  try simp only [Act.put, List.setIfInBounds_toArray, List.set_cons_zero, List.set_cons_succ]
  refine wpL_take (k' := 10) rfl (by kernel_rfl) (fun d os => ?t87) ?_
  case t87 => (unfold bringsAt; go_simp; first | with_reducible exact take_one | exact take_one)
  try simp only [Act.put, List.setIfInBounds_toArray, List.set_cons_zero, List.set_cons_succ]
  refine wpL_take (k' := 11) rfl (by kernel_rfl) (fun d os => ?t88) ?_
  case t88 => (unfold bringsAt; go_simp; first | with_reducible exact take_one | exact take_one)
  try simp only [Act.put, List.setIfInBounds_toArray, List.set_cons_zero, List.set_cons_succ]
  refine wpL_nil ?_
  intro w6 hH
  have hb' := hH.below
  clear kq0 kq1 kq2 kq3 kq4 kq5 kq6 kq7
  have HB1 := Lib.hid ((HB1.out).trans (hb'.mono (HB1.out).size))
  have HB := Lib.hid ((HB.out).trans (hb'.mono (HB.out).size))
  clear hH hb'
  obtain ⟨zB10, zB11, zB12, zB13⟩ := (B1.out.below HB1.out B1.out.lt).cells4
  obtain ⟨zB20, zB21, zB22, zB23⟩ := (B2.out.below HB1.out B2.out.lt).cells4
  go_upto_region 8 with fail
  clear zB10 zB11 zB12 zB13
  clear zB20 zB21 zB22 zB23
  obtain ⟨zB10, zB11, zB12, zB13⟩ := (B1.out.below HB1.out B1.out.lt).cells4
  obtain ⟨zB20, zB21, zB22, zB23⟩ := (B2.out.below HB1.out B2.out.lt).cells4
  go_wp2_with fail
  clear zB10 zB11 zB12 zB13
  clear zB20 zB21 zB22 zB23
  refine (KC.out _).mono ?_
  rintro e w7 ⟨rfl, hb'⟩
  have HB1 := Lib.hid ((HB1.out).trans (hb'.mono (HB1.out).size))
  have HB := Lib.hid ((HB.out).trans (hb'.mono (HB.out).size))
  clear hb'
  obtain ⟨zB10, zB11, zB12, zB13⟩ := (B1.out.below HB1.out B1.out.lt).cells4
  obtain ⟨zB20, zB21, zB22, zB23⟩ := (B2.out.below HB1.out B2.out.lt).cells4
  go_upto_region 11 with fail
  clear zB10 zB11 zB12 zB13
  clear zB20 zB21 zB22 zB23
  obtain ⟨zB10, zB11, zB12, zB13⟩ := (B1.out.below HB1.out B1.out.lt).cells4
  obtain ⟨zB20, zB21, zB22, zB23⟩ := (B2.out.below HB1.out B2.out.lt).cells4
  go_wp2_with fail
  clear zB10 zB11 zB12 zB13
  clear zB20 zB21 zB22 zB23
  refine (KB.out _).mono ?_
  rintro e w8 ⟨rfl, hb'⟩
  have HB1 := Lib.hid ((HB1.out).trans (hb'.mono (HB1.out).size))
  have HB := Lib.hid ((HB.out).trans (hb'.mono (HB.out).size))
  clear hb'
  obtain ⟨zB10, zB11, zB12, zB13⟩ := (B1.out.below HB1.out B1.out.lt).cells4
  obtain ⟨zB20, zB21, zB22, zB23⟩ := (B2.out.below HB1.out B2.out.lt).cells4
  go_wp2_with fail
  clear zB10 zB11 zB12 zB13
  clear zB20 zB21 zB22 zB23
  go_ret
  exact ⟨rfl, HB.out⟩
set_option maxRecDepth 100000 in
set_option maxHeartbeats 6400000 in
theorem rby_200 (v : Vd) (k : Nat) (w : World) (hk : k < 5) (hW : (v.W == (baseV k).W) = false) (hC : (v.C == (baseV k).C) = true) (hBB : (v.B == (baseV k).B) = true) : Calls Try.prog 28 #[vdV v, .int .i64 k] w fun e w' => e = .returned (.string (bstr (byB v k))) ∧ Below w.heap.size w w' := by
  have HB := Lib.hid (Below.refl w.heap.size w)
  obtain ⟨b, hb⟩ : ∃ b, b = baseV k := ⟨_, rfl⟩
  rw [← hb] at hW hC hBB
  have HBK := Lib.hid hb
  unfold byB
  rw [← hb]
  have o1 : oth1 v b = true := by unfold oth1 bne; rw [hW]; rfl
  have o2 : oth2 v b = false := by unfold oth2 bne; rw [hC]; rfl
  have o3 : oth3 v b = false := by unfold oth3 bne; rw [hBB]; rfl
  rw [o1, o2, o3]
  clear o1 o2 o3 hb
  have hcc := fun w => rcode_b 1 w
  have hss := bcode_size 1
  obtain ⟨c1, hc1⟩ : ∃ c, c = bstr (codeB 1) := ⟨_, rfl⟩
  rw [← hc1] at hcc hss
  have K1 := Lib.hid hcc
  have s1 := hss
  clear hcc hss
  have E1 := Lib.hid hc1.symm
  clear hc1
  have hcc := fun w => rcode_b (k : Int) w
  have hss := bcode_size (k : Int)
  obtain ⟨ck, hck⟩ : ∃ c, c = bstr (codeB (k : Int)) := ⟨_, rfl⟩
  rw [← hck] at hcc hss
  have Kk := Lib.hid hcc
  have sk := hss
  clear hcc hss
  have Ek := Lib.hid hck.symm
  clear hck
  have hcc := fun w => rcode_b v.W w
  have hss := bcode_size v.W
  obtain ⟨cW, hcW⟩ : ∃ c, c = bstr (codeB v.W) := ⟨_, rfl⟩
  rw [← hcW] at hcc hss
  have KW := Lib.hid hcc
  have sW := hss
  clear hcc hss
  have EW := Lib.hid hcW.symm
  clear hcW
  have hcc := fun w => rcode_b v.H w
  have hss := bcode_size v.H
  obtain ⟨cH, hcH⟩ : ∃ c, c = bstr (codeB v.H) := ⟨_, rfl⟩
  rw [← hcH] at hcc hss
  have KH := Lib.hid hcc
  have sH := hss
  clear hcc hss
  have EH := Lib.hid hcH.symm
  clear hcH
  have hcc := fun w => rcode_b v.C w
  have hss := bcode_size v.C
  obtain ⟨cC, hcC⟩ : ∃ c, c = bstr (codeB v.C) := ⟨_, rfl⟩
  rw [← hcC] at hcc hss
  have KC := Lib.hid hcc
  have sC := hss
  clear hcc hss
  have EC := Lib.hid hcC.symm
  clear hcC
  have hcc := fun w => rcode_b v.B w
  have hss := bcode_size v.B
  obtain ⟨cB, hcB⟩ : ∃ c, c = bstr (codeB v.B) := ⟨_, rfl⟩
  rw [← hcB] at hcc hss
  have KB := Lib.hid hcc
  have sB := hss
  clear hcc hss
  have EB := Lib.hid hcB.symm
  clear hcB
  have hres : bstr (codeB 1 ++ codeB (k : Int) ++ grpB true [v.W, v.H] ++ grpB false [v.C] ++ grpB false [v.B]) = c1 ++ ck ++ (⟨#[49]⟩ ++ cW ++ cH) ++ ⟨#[48]⟩ ++ ⟨#[48]⟩ := by
    rw [← E1.out, ← Ek.out, ← EW.out, ← EH.out]
    rw [show (⟨#[48]⟩ : ByteArray) = bstr [false] from rfl]
    rw [show (⟨#[49]⟩ : ByteArray) = bstr [true] from rfl]
    simp only [bstr_app]
    simp [grpB]
  rw [hres]
  clear hres E1 Ek EW EH EC EB
  have i0 : (0 : Int) ≤ (k : Int) := by omega
  have i5 : (k : Int) < 5 := by omega
  go_enter Try.func28, Try.ntmps28
  go_wp2_with fail
  have HB := Lib.hid (below_alloc_ (HB.out) (.cells #[.int .i64 v.W, .int .i64 v.H, .int .i64 v.C, .int .i64 v.B] 23))
  have hzw : (w.alloc (.cells #[.int .i64 v.W, .int .i64 v.H, .int .i64 v.C, .int .i64 v.B] 23)).heap.size = w.heap.size + 1 := by simp only [World.size_alloc]
  have B1 := Blk.new (w) 23 #[.int .i64 v.W, .int .i64 v.H, .int .i64 v.C, .int .i64 v.B]
  skip
  have B1 := Lib.hid B1
  generalize w.alloc (.cells #[.int .i64 v.W, .int .i64 v.H, .int .i64 v.C, .int .i64 v.B] 23) = w1 at *
  clear hzw
  refine (rbases_c _).mono ?_
  rintro e w2 ⟨g, rfl, hge, htb, hb'⟩
  have HB := Lib.hid ((HB.out).trans (hb'.mono (HB.out).size))
  have B1 := Lib.hid ((B1.out).below hb' (B1.out).lt)
  obtain ⟨y0, y1, y2, y3⟩ := tab_cells htb hk
  rw [← HBK.out] at y0 y1 y2 y3
  clear htb hge hb'
  go_upto_region 2 with fail
  clear y0 y1 y2 y3 i0 i5
  have HB := Lib.hid (below_alloc_ (HB.out) (.cells #[.int .i64 b.W, .int .i64 b.H, .int .i64 b.C, .int .i64 b.B] 23))
  have B1 := Lib.hid ((B1.out).alloc (.cells #[.int .i64 b.W, .int .i64 b.H, .int .i64 b.C, .int .i64 b.B] 23))
  have hzw : (w2.alloc (.cells #[.int .i64 b.W, .int .i64 b.H, .int .i64 b.C, .int .i64 b.B] 23)).heap.size = w2.heap.size + 1 := by simp only [World.size_alloc]
  have B2 := Blk.new (w2) 23 #[.int .i64 b.W, .int .i64 b.H, .int .i64 b.C, .int .i64 b.B]
  skip
  have B2 := Lib.hid B2
  generalize w2.alloc (.cells #[.int .i64 b.W, .int .i64 b.H, .int .i64 b.C, .int .i64 b.B] 23) = w3 at *
  clear hzw
  obtain ⟨zB10, zB11, zB12, zB13⟩ := (B1.out).cells4
  obtain ⟨zB20, zB21, zB22, zB23⟩ := (B2.out).cells4
  go_wp2_with fail
  clear zB10 zB11 zB12 zB13
  clear zB20 zB21 zB22 zB23
  refine (K1.out _).mono ?_
  rintro e w4 ⟨rfl, hb'⟩
  have HB := Lib.hid ((HB.out).trans (hb'.mono (HB.out).size))
  have B1 := Lib.hid ((B1.out).below hb' (B1.out).lt)
  have B2 := Lib.hid ((B2.out).below hb' (B2.out).lt)
  clear hb'
  obtain ⟨zB10, zB11, zB12, zB13⟩ := (B1.out).cells4
  obtain ⟨zB20, zB21, zB22, zB23⟩ := (B2.out).cells4
  go_wp2_with fail
  clear zB10 zB11 zB12 zB13
  clear zB20 zB21 zB22 zB23
  refine (Kk.out _).mono ?_
  rintro e w5 ⟨rfl, hb'⟩
  have HB := Lib.hid ((HB.out).trans (hb'.mono (HB.out).size))
  have B1 := Lib.hid ((B1.out).below hb' (B1.out).lt)
  have B2 := Lib.hid ((B2.out).below hb' (B2.out).lt)
  clear hb'
  obtain ⟨zB10, zB11, zB12, zB13⟩ := (B1.out).cells4
  obtain ⟨zB20, zB21, zB22, zB23⟩ := (B2.out).cells4
  go_upto_region 5 with fail
  clear zB10 zB11 zB12 zB13
  clear zB20 zB21 zB22 zB23
  have HB1 := Lib.hid (Below.refl w5.heap.size w5)
  have m1 : ¬ (9223372036854775807 < 1 + cW.size) := by omega
  have m2 : ¬ (9223372036854775807 < 1 + cW.size + cH.size) := by omega
  have m3 : ¬ (9223372036854775807 < c1.size + ck.size + (1 + cW.size + cH.size)) := by omega
  obtain ⟨zB10, zB11, zB12, zB13⟩ := (B1.out.below HB1.out B1.out.lt).cells4
  obtain ⟨zB20, zB21, zB22, zB23⟩ := (B2.out.below HB1.out B2.out.lt).cells4
  have kq0 := cell_regrown zB10
  have kq1 := cell_regrown zB11
  have kq2 := cell_regrown zB12
  have kq3 := cell_regrown zB13
  have kq4 := cell_regrown zB20
  have kq5 := cell_regrown zB21
  have kq6 := cell_regrown zB22
  have kq7 := cell_regrown zB23
  clear zB10 zB11 zB12 zB13 zB20 zB21 zB22 zB23
  refine wp_mono [Brings.one ?b89_0, Brings.one ?b90_1, Brings.one ?b91_2, Brings.one ?b92_3, Brings.one ?b93_4, Brings.one ?b94_5, Brings.one ?b95_6, Brings.one ?b96_7, Brings.one ?b97_8, Brings.one ?b98_9, Brings.one ?b99_10] (by kernel_rfl) (by kernel_rfl) ?_
  rotate_left 11
  refine wpL_take (k' := 1) rfl (by kernel_rfl) (fun d os => ?t100) ?_
  case t100 => (unfold bringsAt; go_simp; first | with_reducible exact take_one | exact take_one)
  try simp only [Act.put, List.setIfInBounds_toArray, List.set_cons_zero, List.set_cons_succ]
  refine wpL_take (k' := 2) rfl (by kernel_rfl) (fun d os => ?t101) ?_
  case t101 => (unfold bringsAt; go_simp; first | with_reducible exact take_one | exact take_one)
  try simp only [Act.put, List.setIfInBounds_toArray, List.set_cons_zero, List.set_cons_succ]
  refine wpL_take (k' := 3) rfl (by kernel_rfl) (fun d os => ?t102) ?_
  case t102 => (unfold bringsAt; go_simp; first | with_reducible exact take_one | exact take_one)
  try simp only [Act.put, List.setIfInBounds_toArray, List.set_cons_zero, List.set_cons_succ]
  refine wpL_call (k' := 4) rfl (by kernel_rfl) (fun wz hz hd => ?t103) ?_
  case t103 =>
    have HZ := Lib.hid (HB1.out.trans (hz.mono HB1.out.size))
    unfold bringsAt
    go_simp
    have h9 := KW.out wz
    refine call_one_as h9 ?_
    rfl
  try simp only [Act.put, List.setIfInBounds_toArray, List.set_cons_zero, List.set_cons_succ]
  refine wpL_take (k' := 5) rfl (by kernel_rfl) (fun d os => ?t104) ?_
  case t104 => (unfold bringsAt; go_simp; first | with_reducible exact take_one | exact take_one)
  try simp only [Act.put, List.setIfInBounds_toArray, List.set_cons_zero, List.set_cons_succ]
  refine wpL_take (k' := 6) rfl (by kernel_rfl) (fun d os => ?t105) ?_
  case t105 => (unfold bringsAt; go_simp; first | with_reducible exact take_one | exact take_one)
  try simp only [Act.put, List.setIfInBounds_toArray, List.set_cons_zero, List.set_cons_succ]
  refine wpL_take (k' := 7) rfl (by kernel_rfl) (fun d os => ?t106) ?_
  case t106 => (unfold bringsAt; go_simp; first | with_reducible exact take_one | exact take_one)
  try simp only [Act.put, List.setIfInBounds_toArray, List.set_cons_zero, List.set_cons_succ]
  refine wpL_call (k' := 8) rfl (by kernel_rfl) (fun wz hz hd => ?t107) ?_
  case t107 =>
    have HZ := Lib.hid (HB1.out.trans (hz.mono HB1.out.size))
    unfold bringsAt
    go_simp
    have h9 := KH.out wz
    refine call_one_as h9 ?_
    rfl
  try simp only [Act.put, List.setIfInBounds_toArray, List.set_cons_zero, List.set_cons_succ]
  refine wpL_take (k' := 9) rfl (by kernel_rfl) (fun d os => ?t108) ?_
  case t108 => (unfold bringsAt; go_simp; first | with_reducible exact take_one | exact take_one)
  try simp only [Act.put, List.setIfInBounds_toArray, List.set_cons_zero, List.set_cons_succ]
  refine wpL_take (k' := 10) rfl (by kernel_rfl) (fun d os => ?t109) ?_
  case t109 => (unfold bringsAt; go_simp; first | with_reducible exact take_one | exact take_one)
  try simp only [Act.put, List.setIfInBounds_toArray, List.set_cons_zero, List.set_cons_succ]
  refine wpL_take (k' := 11) rfl (by kernel_rfl) (fun d os => ?t110) ?_
  case t110 => (unfold bringsAt; go_simp; first | with_reducible exact take_one | exact take_one)
  try simp only [Act.put, List.setIfInBounds_toArray, List.set_cons_zero, List.set_cons_succ]
  refine wpL_nil ?_
  intro w6 hH
  have hb' := hH.below
  clear kq0 kq1 kq2 kq3 kq4 kq5 kq6 kq7
  have HB1 := Lib.hid ((HB1.out).trans (hb'.mono (HB1.out).size))
  have HB := Lib.hid ((HB.out).trans (hb'.mono (HB.out).size))
  clear hH hb'
  obtain ⟨zB10, zB11, zB12, zB13⟩ := (B1.out.below HB1.out B1.out.lt).cells4
  obtain ⟨zB20, zB21, zB22, zB23⟩ := (B2.out.below HB1.out B2.out.lt).cells4
  go_wp2_with fail
  clear zB10 zB11 zB12 zB13
  clear zB20 zB21 zB22 zB23
  go_ret
  exact ⟨rfl, HB.out⟩
set_option maxRecDepth 100000 in
set_option maxHeartbeats 6400000 in
theorem rby_201 (v : Vd) (k : Nat) (w : World) (hk : k < 5) (hW : (v.W == (baseV k).W) = false) (hC : (v.C == (baseV k).C) = true) (hBB : (v.B == (baseV k).B) = false) : Calls Try.prog 28 #[vdV v, .int .i64 k] w fun e w' => e = .returned (.string (bstr (byB v k))) ∧ Below w.heap.size w w' := by
  have HB := Lib.hid (Below.refl w.heap.size w)
  obtain ⟨b, hb⟩ : ∃ b, b = baseV k := ⟨_, rfl⟩
  rw [← hb] at hW hC hBB
  have HBK := Lib.hid hb
  unfold byB
  rw [← hb]
  have o1 : oth1 v b = true := by unfold oth1 bne; rw [hW]; rfl
  have o2 : oth2 v b = false := by unfold oth2 bne; rw [hC]; rfl
  have o3 : oth3 v b = true := by unfold oth3 bne; rw [hBB]; rfl
  rw [o1, o2, o3]
  clear o1 o2 o3 hb
  have hcc := fun w => rcode_b 1 w
  have hss := bcode_size 1
  obtain ⟨c1, hc1⟩ : ∃ c, c = bstr (codeB 1) := ⟨_, rfl⟩
  rw [← hc1] at hcc hss
  have K1 := Lib.hid hcc
  have s1 := hss
  clear hcc hss
  have E1 := Lib.hid hc1.symm
  clear hc1
  have hcc := fun w => rcode_b (k : Int) w
  have hss := bcode_size (k : Int)
  obtain ⟨ck, hck⟩ : ∃ c, c = bstr (codeB (k : Int)) := ⟨_, rfl⟩
  rw [← hck] at hcc hss
  have Kk := Lib.hid hcc
  have sk := hss
  clear hcc hss
  have Ek := Lib.hid hck.symm
  clear hck
  have hcc := fun w => rcode_b v.W w
  have hss := bcode_size v.W
  obtain ⟨cW, hcW⟩ : ∃ c, c = bstr (codeB v.W) := ⟨_, rfl⟩
  rw [← hcW] at hcc hss
  have KW := Lib.hid hcc
  have sW := hss
  clear hcc hss
  have EW := Lib.hid hcW.symm
  clear hcW
  have hcc := fun w => rcode_b v.H w
  have hss := bcode_size v.H
  obtain ⟨cH, hcH⟩ : ∃ c, c = bstr (codeB v.H) := ⟨_, rfl⟩
  rw [← hcH] at hcc hss
  have KH := Lib.hid hcc
  have sH := hss
  clear hcc hss
  have EH := Lib.hid hcH.symm
  clear hcH
  have hcc := fun w => rcode_b v.C w
  have hss := bcode_size v.C
  obtain ⟨cC, hcC⟩ : ∃ c, c = bstr (codeB v.C) := ⟨_, rfl⟩
  rw [← hcC] at hcc hss
  have KC := Lib.hid hcc
  have sC := hss
  clear hcc hss
  have EC := Lib.hid hcC.symm
  clear hcC
  have hcc := fun w => rcode_b v.B w
  have hss := bcode_size v.B
  obtain ⟨cB, hcB⟩ : ∃ c, c = bstr (codeB v.B) := ⟨_, rfl⟩
  rw [← hcB] at hcc hss
  have KB := Lib.hid hcc
  have sB := hss
  clear hcc hss
  have EB := Lib.hid hcB.symm
  clear hcB
  have hres : bstr (codeB 1 ++ codeB (k : Int) ++ grpB true [v.W, v.H] ++ grpB false [v.C] ++ grpB true [v.B]) = c1 ++ ck ++ (⟨#[49]⟩ ++ cW ++ cH) ++ ⟨#[48]⟩ ++ ⟨#[49]⟩ ++ cB := by
    rw [← E1.out, ← Ek.out, ← EW.out, ← EH.out, ← EB.out]
    rw [show (⟨#[48]⟩ : ByteArray) = bstr [false] from rfl]
    rw [show (⟨#[49]⟩ : ByteArray) = bstr [true] from rfl]
    simp only [bstr_app]
    simp [grpB]
  rw [hres]
  clear hres E1 Ek EW EH EC EB
  have i0 : (0 : Int) ≤ (k : Int) := by omega
  have i5 : (k : Int) < 5 := by omega
  go_enter Try.func28, Try.ntmps28
  go_wp2_with fail
  have HB := Lib.hid (below_alloc_ (HB.out) (.cells #[.int .i64 v.W, .int .i64 v.H, .int .i64 v.C, .int .i64 v.B] 23))
  have hzw : (w.alloc (.cells #[.int .i64 v.W, .int .i64 v.H, .int .i64 v.C, .int .i64 v.B] 23)).heap.size = w.heap.size + 1 := by simp only [World.size_alloc]
  have B1 := Blk.new (w) 23 #[.int .i64 v.W, .int .i64 v.H, .int .i64 v.C, .int .i64 v.B]
  skip
  have B1 := Lib.hid B1
  generalize w.alloc (.cells #[.int .i64 v.W, .int .i64 v.H, .int .i64 v.C, .int .i64 v.B] 23) = w1 at *
  clear hzw
  refine (rbases_c _).mono ?_
  rintro e w2 ⟨g, rfl, hge, htb, hb'⟩
  have HB := Lib.hid ((HB.out).trans (hb'.mono (HB.out).size))
  have B1 := Lib.hid ((B1.out).below hb' (B1.out).lt)
  obtain ⟨y0, y1, y2, y3⟩ := tab_cells htb hk
  rw [← HBK.out] at y0 y1 y2 y3
  clear htb hge hb'
  go_upto_region 2 with fail
  clear y0 y1 y2 y3 i0 i5
  have HB := Lib.hid (below_alloc_ (HB.out) (.cells #[.int .i64 b.W, .int .i64 b.H, .int .i64 b.C, .int .i64 b.B] 23))
  have B1 := Lib.hid ((B1.out).alloc (.cells #[.int .i64 b.W, .int .i64 b.H, .int .i64 b.C, .int .i64 b.B] 23))
  have hzw : (w2.alloc (.cells #[.int .i64 b.W, .int .i64 b.H, .int .i64 b.C, .int .i64 b.B] 23)).heap.size = w2.heap.size + 1 := by simp only [World.size_alloc]
  have B2 := Blk.new (w2) 23 #[.int .i64 b.W, .int .i64 b.H, .int .i64 b.C, .int .i64 b.B]
  skip
  have B2 := Lib.hid B2
  generalize w2.alloc (.cells #[.int .i64 b.W, .int .i64 b.H, .int .i64 b.C, .int .i64 b.B] 23) = w3 at *
  clear hzw
  obtain ⟨zB10, zB11, zB12, zB13⟩ := (B1.out).cells4
  obtain ⟨zB20, zB21, zB22, zB23⟩ := (B2.out).cells4
  go_wp2_with fail
  clear zB10 zB11 zB12 zB13
  clear zB20 zB21 zB22 zB23
  refine (K1.out _).mono ?_
  rintro e w4 ⟨rfl, hb'⟩
  have HB := Lib.hid ((HB.out).trans (hb'.mono (HB.out).size))
  have B1 := Lib.hid ((B1.out).below hb' (B1.out).lt)
  have B2 := Lib.hid ((B2.out).below hb' (B2.out).lt)
  clear hb'
  obtain ⟨zB10, zB11, zB12, zB13⟩ := (B1.out).cells4
  obtain ⟨zB20, zB21, zB22, zB23⟩ := (B2.out).cells4
  go_wp2_with fail
  clear zB10 zB11 zB12 zB13
  clear zB20 zB21 zB22 zB23
  refine (Kk.out _).mono ?_
  rintro e w5 ⟨rfl, hb'⟩
  have HB := Lib.hid ((HB.out).trans (hb'.mono (HB.out).size))
  have B1 := Lib.hid ((B1.out).below hb' (B1.out).lt)
  have B2 := Lib.hid ((B2.out).below hb' (B2.out).lt)
  clear hb'
  obtain ⟨zB10, zB11, zB12, zB13⟩ := (B1.out).cells4
  obtain ⟨zB20, zB21, zB22, zB23⟩ := (B2.out).cells4
  go_upto_region 5 with fail
  clear zB10 zB11 zB12 zB13
  clear zB20 zB21 zB22 zB23
  have HB1 := Lib.hid (Below.refl w5.heap.size w5)
  have m1 : ¬ (9223372036854775807 < 1 + cW.size) := by omega
  have m2 : ¬ (9223372036854775807 < 1 + cW.size + cH.size) := by omega
  have m3 : ¬ (9223372036854775807 < c1.size + ck.size + (1 + cW.size + cH.size)) := by omega
  obtain ⟨zB10, zB11, zB12, zB13⟩ := (B1.out.below HB1.out B1.out.lt).cells4
  obtain ⟨zB20, zB21, zB22, zB23⟩ := (B2.out.below HB1.out B2.out.lt).cells4
  have kq0 := cell_regrown zB10
  have kq1 := cell_regrown zB11
  have kq2 := cell_regrown zB12
  have kq3 := cell_regrown zB13
  have kq4 := cell_regrown zB20
  have kq5 := cell_regrown zB21
  have kq6 := cell_regrown zB22
  have kq7 := cell_regrown zB23
  clear zB10 zB11 zB12 zB13 zB20 zB21 zB22 zB23
  refine wp_mono [Brings.one ?b111_0, Brings.one ?b112_1, Brings.one ?b113_2, Brings.one ?b114_3, Brings.one ?b115_4, Brings.one ?b116_5, Brings.one ?b117_6, Brings.one ?b118_7, Brings.one ?b119_8, Brings.one ?b120_9, Brings.one ?b121_10] (by kernel_rfl) (by kernel_rfl) ?_
  rotate_left 11
  refine wpL_take (k' := 1) rfl (by kernel_rfl) (fun d os => ?t122) ?_
  case t122 => (unfold bringsAt; go_simp; first | with_reducible exact take_one | exact take_one)
  try simp only [Act.put, List.setIfInBounds_toArray, List.set_cons_zero, List.set_cons_succ]
  refine wpL_take (k' := 2) rfl (by kernel_rfl) (fun d os => ?t123) ?_
  case t123 => (unfold bringsAt; go_simp; first | with_reducible exact take_one | exact take_one)
  try simp only [Act.put, List.setIfInBounds_toArray, List.set_cons_zero, List.set_cons_succ]
  refine wpL_take (k' := 3) rfl (by kernel_rfl) (fun d os => ?t124) ?_
  case t124 => (unfold bringsAt; go_simp; first | with_reducible exact take_one | exact take_one)
  try simp only [Act.put, List.setIfInBounds_toArray, List.set_cons_zero, List.set_cons_succ]
  refine wpL_call (k' := 4) rfl (by kernel_rfl) (fun wz hz hd => ?t125) ?_
  case t125 =>
    have HZ := Lib.hid (HB1.out.trans (hz.mono HB1.out.size))
    unfold bringsAt
    go_simp
    have h9 := KW.out wz
    refine call_one_as h9 ?_
    rfl
  try simp only [Act.put, List.setIfInBounds_toArray, List.set_cons_zero, List.set_cons_succ]
  refine wpL_take (k' := 5) rfl (by kernel_rfl) (fun d os => ?t126) ?_
  case t126 => (unfold bringsAt; go_simp; first | with_reducible exact take_one | exact take_one)
  try simp only [Act.put, List.setIfInBounds_toArray, List.set_cons_zero, List.set_cons_succ]
  refine wpL_take (k' := 6) rfl (by kernel_rfl) (fun d os => ?t127) ?_
  case t127 => (unfold bringsAt; go_simp; first | with_reducible exact take_one | exact take_one)
  try simp only [Act.put, List.setIfInBounds_toArray, List.set_cons_zero, List.set_cons_succ]
  refine wpL_take (k' := 7) rfl (by kernel_rfl) (fun d os => ?t128) ?_
  case t128 => (unfold bringsAt; go_simp; first | with_reducible exact take_one | exact take_one)
  try simp only [Act.put, List.setIfInBounds_toArray, List.set_cons_zero, List.set_cons_succ]
  refine wpL_call (k' := 8) rfl (by kernel_rfl) (fun wz hz hd => ?t129) ?_
  case t129 =>
    have HZ := Lib.hid (HB1.out.trans (hz.mono HB1.out.size))
    unfold bringsAt
    go_simp
    have h9 := KH.out wz
    refine call_one_as h9 ?_
    rfl
  try simp only [Act.put, List.setIfInBounds_toArray, List.set_cons_zero, List.set_cons_succ]
  refine wpL_take (k' := 9) rfl (by kernel_rfl) (fun d os => ?t130) ?_
  case t130 => (unfold bringsAt; go_simp; first | with_reducible exact take_one | exact take_one)
  try simp only [Act.put, List.setIfInBounds_toArray, List.set_cons_zero, List.set_cons_succ]
  refine wpL_take (k' := 10) rfl (by kernel_rfl) (fun d os => ?t131) ?_
  case t131 => (unfold bringsAt; go_simp; first | with_reducible exact take_one | exact take_one)
  try simp only [Act.put, List.setIfInBounds_toArray, List.set_cons_zero, List.set_cons_succ]
  refine wpL_take (k' := 11) rfl (by kernel_rfl) (fun d os => ?t132) ?_
  case t132 => (unfold bringsAt; go_simp; first | with_reducible exact take_one | exact take_one)
  try simp only [Act.put, List.setIfInBounds_toArray, List.set_cons_zero, List.set_cons_succ]
  refine wpL_nil ?_
  intro w6 hH
  have hb' := hH.below
  clear kq0 kq1 kq2 kq3 kq4 kq5 kq6 kq7
  have HB1 := Lib.hid ((HB1.out).trans (hb'.mono (HB1.out).size))
  have HB := Lib.hid ((HB.out).trans (hb'.mono (HB.out).size))
  clear hH hb'
  obtain ⟨zB10, zB11, zB12, zB13⟩ := (B1.out.below HB1.out B1.out.lt).cells4
  obtain ⟨zB20, zB21, zB22, zB23⟩ := (B2.out.below HB1.out B2.out.lt).cells4
  go_upto_region 11 with fail
  clear zB10 zB11 zB12 zB13
  clear zB20 zB21 zB22 zB23
  obtain ⟨zB10, zB11, zB12, zB13⟩ := (B1.out.below HB1.out B1.out.lt).cells4
  obtain ⟨zB20, zB21, zB22, zB23⟩ := (B2.out.below HB1.out B2.out.lt).cells4
  go_wp2_with fail
  clear zB10 zB11 zB12 zB13
  clear zB20 zB21 zB22 zB23
  refine (KB.out _).mono ?_
  rintro e w7 ⟨rfl, hb'⟩
  have HB1 := Lib.hid ((HB1.out).trans (hb'.mono (HB1.out).size))
  have HB := Lib.hid ((HB.out).trans (hb'.mono (HB.out).size))
  clear hb'
  obtain ⟨zB10, zB11, zB12, zB13⟩ := (B1.out.below HB1.out B1.out.lt).cells4
  obtain ⟨zB20, zB21, zB22, zB23⟩ := (B2.out.below HB1.out B2.out.lt).cells4
  go_wp2_with fail
  clear zB10 zB11 zB12 zB13
  clear zB20 zB21 zB22 zB23
  go_ret
  exact ⟨rfl, HB.out⟩
set_option maxRecDepth 100000 in
set_option maxHeartbeats 6400000 in
theorem rby_210 (v : Vd) (k : Nat) (w : World) (hk : k < 5) (hW : (v.W == (baseV k).W) = false) (hC : (v.C == (baseV k).C) = false) (hBB : (v.B == (baseV k).B) = true) : Calls Try.prog 28 #[vdV v, .int .i64 k] w fun e w' => e = .returned (.string (bstr (byB v k))) ∧ Below w.heap.size w w' := by
  have HB := Lib.hid (Below.refl w.heap.size w)
  obtain ⟨b, hb⟩ : ∃ b, b = baseV k := ⟨_, rfl⟩
  rw [← hb] at hW hC hBB
  have HBK := Lib.hid hb
  unfold byB
  rw [← hb]
  have o1 : oth1 v b = true := by unfold oth1 bne; rw [hW]; rfl
  have o2 : oth2 v b = true := by unfold oth2 bne; rw [hC]; rfl
  have o3 : oth3 v b = false := by unfold oth3 bne; rw [hBB]; rfl
  rw [o1, o2, o3]
  clear o1 o2 o3 hb
  have hcc := fun w => rcode_b 1 w
  have hss := bcode_size 1
  obtain ⟨c1, hc1⟩ : ∃ c, c = bstr (codeB 1) := ⟨_, rfl⟩
  rw [← hc1] at hcc hss
  have K1 := Lib.hid hcc
  have s1 := hss
  clear hcc hss
  have E1 := Lib.hid hc1.symm
  clear hc1
  have hcc := fun w => rcode_b (k : Int) w
  have hss := bcode_size (k : Int)
  obtain ⟨ck, hck⟩ : ∃ c, c = bstr (codeB (k : Int)) := ⟨_, rfl⟩
  rw [← hck] at hcc hss
  have Kk := Lib.hid hcc
  have sk := hss
  clear hcc hss
  have Ek := Lib.hid hck.symm
  clear hck
  have hcc := fun w => rcode_b v.W w
  have hss := bcode_size v.W
  obtain ⟨cW, hcW⟩ : ∃ c, c = bstr (codeB v.W) := ⟨_, rfl⟩
  rw [← hcW] at hcc hss
  have KW := Lib.hid hcc
  have sW := hss
  clear hcc hss
  have EW := Lib.hid hcW.symm
  clear hcW
  have hcc := fun w => rcode_b v.H w
  have hss := bcode_size v.H
  obtain ⟨cH, hcH⟩ : ∃ c, c = bstr (codeB v.H) := ⟨_, rfl⟩
  rw [← hcH] at hcc hss
  have KH := Lib.hid hcc
  have sH := hss
  clear hcc hss
  have EH := Lib.hid hcH.symm
  clear hcH
  have hcc := fun w => rcode_b v.C w
  have hss := bcode_size v.C
  obtain ⟨cC, hcC⟩ : ∃ c, c = bstr (codeB v.C) := ⟨_, rfl⟩
  rw [← hcC] at hcc hss
  have KC := Lib.hid hcc
  have sC := hss
  clear hcc hss
  have EC := Lib.hid hcC.symm
  clear hcC
  have hcc := fun w => rcode_b v.B w
  have hss := bcode_size v.B
  obtain ⟨cB, hcB⟩ : ∃ c, c = bstr (codeB v.B) := ⟨_, rfl⟩
  rw [← hcB] at hcc hss
  have KB := Lib.hid hcc
  have sB := hss
  clear hcc hss
  have EB := Lib.hid hcB.symm
  clear hcB
  have hres : bstr (codeB 1 ++ codeB (k : Int) ++ grpB true [v.W, v.H] ++ grpB true [v.C] ++ grpB false [v.B]) = c1 ++ ck ++ (⟨#[49]⟩ ++ cW ++ cH) ++ (⟨#[49]⟩ ++ cC) ++ ⟨#[48]⟩ := by
    rw [← E1.out, ← Ek.out, ← EW.out, ← EH.out, ← EC.out]
    rw [show (⟨#[48]⟩ : ByteArray) = bstr [false] from rfl]
    rw [show (⟨#[49]⟩ : ByteArray) = bstr [true] from rfl]
    simp only [bstr_app]
    simp [grpB]
  rw [hres]
  clear hres E1 Ek EW EH EC EB
  have i0 : (0 : Int) ≤ (k : Int) := by omega
  have i5 : (k : Int) < 5 := by omega
  go_enter Try.func28, Try.ntmps28
  go_wp2_with fail
  have HB := Lib.hid (below_alloc_ (HB.out) (.cells #[.int .i64 v.W, .int .i64 v.H, .int .i64 v.C, .int .i64 v.B] 23))
  have hzw : (w.alloc (.cells #[.int .i64 v.W, .int .i64 v.H, .int .i64 v.C, .int .i64 v.B] 23)).heap.size = w.heap.size + 1 := by simp only [World.size_alloc]
  have B1 := Blk.new (w) 23 #[.int .i64 v.W, .int .i64 v.H, .int .i64 v.C, .int .i64 v.B]
  skip
  have B1 := Lib.hid B1
  generalize w.alloc (.cells #[.int .i64 v.W, .int .i64 v.H, .int .i64 v.C, .int .i64 v.B] 23) = w1 at *
  clear hzw
  refine (rbases_c _).mono ?_
  rintro e w2 ⟨g, rfl, hge, htb, hb'⟩
  have HB := Lib.hid ((HB.out).trans (hb'.mono (HB.out).size))
  have B1 := Lib.hid ((B1.out).below hb' (B1.out).lt)
  obtain ⟨y0, y1, y2, y3⟩ := tab_cells htb hk
  rw [← HBK.out] at y0 y1 y2 y3
  clear htb hge hb'
  go_upto_region 2 with fail
  clear y0 y1 y2 y3 i0 i5
  have HB := Lib.hid (below_alloc_ (HB.out) (.cells #[.int .i64 b.W, .int .i64 b.H, .int .i64 b.C, .int .i64 b.B] 23))
  have B1 := Lib.hid ((B1.out).alloc (.cells #[.int .i64 b.W, .int .i64 b.H, .int .i64 b.C, .int .i64 b.B] 23))
  have hzw : (w2.alloc (.cells #[.int .i64 b.W, .int .i64 b.H, .int .i64 b.C, .int .i64 b.B] 23)).heap.size = w2.heap.size + 1 := by simp only [World.size_alloc]
  have B2 := Blk.new (w2) 23 #[.int .i64 b.W, .int .i64 b.H, .int .i64 b.C, .int .i64 b.B]
  skip
  have B2 := Lib.hid B2
  generalize w2.alloc (.cells #[.int .i64 b.W, .int .i64 b.H, .int .i64 b.C, .int .i64 b.B] 23) = w3 at *
  clear hzw
  obtain ⟨zB10, zB11, zB12, zB13⟩ := (B1.out).cells4
  obtain ⟨zB20, zB21, zB22, zB23⟩ := (B2.out).cells4
  go_wp2_with fail
  clear zB10 zB11 zB12 zB13
  clear zB20 zB21 zB22 zB23
  refine (K1.out _).mono ?_
  rintro e w4 ⟨rfl, hb'⟩
  have HB := Lib.hid ((HB.out).trans (hb'.mono (HB.out).size))
  have B1 := Lib.hid ((B1.out).below hb' (B1.out).lt)
  have B2 := Lib.hid ((B2.out).below hb' (B2.out).lt)
  clear hb'
  obtain ⟨zB10, zB11, zB12, zB13⟩ := (B1.out).cells4
  obtain ⟨zB20, zB21, zB22, zB23⟩ := (B2.out).cells4
  go_wp2_with fail
  clear zB10 zB11 zB12 zB13
  clear zB20 zB21 zB22 zB23
  refine (Kk.out _).mono ?_
  rintro e w5 ⟨rfl, hb'⟩
  have HB := Lib.hid ((HB.out).trans (hb'.mono (HB.out).size))
  have B1 := Lib.hid ((B1.out).below hb' (B1.out).lt)
  have B2 := Lib.hid ((B2.out).below hb' (B2.out).lt)
  clear hb'
  obtain ⟨zB10, zB11, zB12, zB13⟩ := (B1.out).cells4
  obtain ⟨zB20, zB21, zB22, zB23⟩ := (B2.out).cells4
  go_upto_region 5 with fail
  clear zB10 zB11 zB12 zB13
  clear zB20 zB21 zB22 zB23
  have HB1 := Lib.hid (Below.refl w5.heap.size w5)
  have m1 : ¬ (9223372036854775807 < 1 + cW.size) := by omega
  have m2 : ¬ (9223372036854775807 < 1 + cW.size + cH.size) := by omega
  have m3 : ¬ (9223372036854775807 < c1.size + ck.size + (1 + cW.size + cH.size)) := by omega
  obtain ⟨zB10, zB11, zB12, zB13⟩ := (B1.out.below HB1.out B1.out.lt).cells4
  obtain ⟨zB20, zB21, zB22, zB23⟩ := (B2.out.below HB1.out B2.out.lt).cells4
  have kq0 := cell_regrown zB10
  have kq1 := cell_regrown zB11
  have kq2 := cell_regrown zB12
  have kq3 := cell_regrown zB13
  have kq4 := cell_regrown zB20
  have kq5 := cell_regrown zB21
  have kq6 := cell_regrown zB22
  have kq7 := cell_regrown zB23
  clear zB10 zB11 zB12 zB13 zB20 zB21 zB22 zB23
  refine wp_mono [Brings.one ?b133_0, Brings.one ?b134_1, Brings.one ?b135_2, Brings.one ?b136_3, Brings.one ?b137_4, Brings.one ?b138_5, Brings.one ?b139_6, Brings.one ?b140_7, Brings.one ?b141_8, Brings.one ?b142_9, Brings.one ?b143_10] (by kernel_rfl) (by kernel_rfl) ?_
  rotate_left 11
  refine wpL_take (k' := 1) rfl (by kernel_rfl) (fun d os => ?t144) ?_
  case t144 => (unfold bringsAt; go_simp; first | with_reducible exact take_one | exact take_one)
  try simp only [Act.put, List.setIfInBounds_toArray, List.set_cons_zero, List.set_cons_succ]
  refine wpL_take (k' := 2) rfl (by kernel_rfl) (fun d os => ?t145) ?_
  case t145 => (unfold bringsAt; go_simp; first | with_reducible exact take_one | exact take_one)
  try simp only [Act.put, List.setIfInBounds_toArray, List.set_cons_zero, List.set_cons_succ]
  refine wpL_take (k' := 3) rfl (by kernel_rfl) (fun d os => ?t146) ?_
  case t146 => (unfold bringsAt; go_simp; first | with_reducible exact take_one | exact take_one)
  try simp only [Act.put, List.setIfInBounds_toArray, List.set_cons_zero, List.set_cons_succ]
  refine wpL_call (k' := 4) rfl (by kernel_rfl) (fun wz hz hd => ?t147) ?_
  case t147 =>
    have HZ := Lib.hid (HB1.out.trans (hz.mono HB1.out.size))
    unfold bringsAt
    go_simp
    have h9 := KW.out wz
    refine call_one_as h9 ?_
    rfl
  try simp only [Act.put, List.setIfInBounds_toArray, List.set_cons_zero, List.set_cons_succ]
  refine wpL_take (k' := 5) rfl (by kernel_rfl) (fun d os => ?t148) ?_
  case t148 => (unfold bringsAt; go_simp; first | with_reducible exact take_one | exact take_one)
  try simp only [Act.put, List.setIfInBounds_toArray, List.set_cons_zero, List.set_cons_succ]
  refine wpL_take (k' := 6) rfl (by kernel_rfl) (fun d os => ?t149) ?_
  case t149 => (unfold bringsAt; go_simp; first | with_reducible exact take_one | exact take_one)
  try simp only [Act.put, List.setIfInBounds_toArray, List.set_cons_zero, List.set_cons_succ]
  refine wpL_take (k' := 7) rfl (by kernel_rfl) (fun d os => ?t150) ?_
  case t150 => (unfold bringsAt; go_simp; first | with_reducible exact take_one | exact take_one)
  try simp only [Act.put, List.setIfInBounds_toArray, List.set_cons_zero, List.set_cons_succ]
  refine wpL_call (k' := 8) rfl (by kernel_rfl) (fun wz hz hd => ?t151) ?_
  case t151 =>
    have HZ := Lib.hid (HB1.out.trans (hz.mono HB1.out.size))
    unfold bringsAt
    go_simp
    have h9 := KH.out wz
    refine call_one_as h9 ?_
    rfl
  try simp only [Act.put, List.setIfInBounds_toArray, List.set_cons_zero, List.set_cons_succ]
  refine wpL_take (k' := 9) rfl (by kernel_rfl) (fun d os => ?t152) ?_
  case t152 => (unfold bringsAt; go_simp; first | with_reducible exact take_one | exact take_one)
  try simp only [Act.put, List.setIfInBounds_toArray, List.set_cons_zero, List.set_cons_succ]
  refine wpL_take (k' := 10) rfl (by kernel_rfl) (fun d os => ?t153) ?_
  case t153 => (unfold bringsAt; go_simp; first | with_reducible exact take_one | exact take_one)
  try simp only [Act.put, List.setIfInBounds_toArray, List.set_cons_zero, List.set_cons_succ]
  refine wpL_take (k' := 11) rfl (by kernel_rfl) (fun d os => ?t154) ?_
  case t154 => (unfold bringsAt; go_simp; first | with_reducible exact take_one | exact take_one)
  try simp only [Act.put, List.setIfInBounds_toArray, List.set_cons_zero, List.set_cons_succ]
  refine wpL_nil ?_
  intro w6 hH
  have hb' := hH.below
  clear kq0 kq1 kq2 kq3 kq4 kq5 kq6 kq7
  have HB1 := Lib.hid ((HB1.out).trans (hb'.mono (HB1.out).size))
  have HB := Lib.hid ((HB.out).trans (hb'.mono (HB.out).size))
  clear hH hb'
  obtain ⟨zB10, zB11, zB12, zB13⟩ := (B1.out.below HB1.out B1.out.lt).cells4
  obtain ⟨zB20, zB21, zB22, zB23⟩ := (B2.out.below HB1.out B2.out.lt).cells4
  go_upto_region 8 with fail
  clear zB10 zB11 zB12 zB13
  clear zB20 zB21 zB22 zB23
  obtain ⟨zB10, zB11, zB12, zB13⟩ := (B1.out.below HB1.out B1.out.lt).cells4
  obtain ⟨zB20, zB21, zB22, zB23⟩ := (B2.out.below HB1.out B2.out.lt).cells4
  go_wp2_with fail
  clear zB10 zB11 zB12 zB13
  clear zB20 zB21 zB22 zB23
  refine (KC.out _).mono ?_
  rintro e w7 ⟨rfl, hb'⟩
  have HB1 := Lib.hid ((HB1.out).trans (hb'.mono (HB1.out).size))
  have HB := Lib.hid ((HB.out).trans (hb'.mono (HB.out).size))
  clear hb'
  obtain ⟨zB10, zB11, zB12, zB13⟩ := (B1.out.below HB1.out B1.out.lt).cells4
  obtain ⟨zB20, zB21, zB22, zB23⟩ := (B2.out.below HB1.out B2.out.lt).cells4
  go_wp2_with fail
  clear zB10 zB11 zB12 zB13
  clear zB20 zB21 zB22 zB23
  go_ret
  exact ⟨rfl, HB.out⟩
set_option maxRecDepth 100000 in
set_option maxHeartbeats 6400000 in
theorem rby_211 (v : Vd) (k : Nat) (w : World) (hk : k < 5) (hW : (v.W == (baseV k).W) = false) (hC : (v.C == (baseV k).C) = false) (hBB : (v.B == (baseV k).B) = false) : Calls Try.prog 28 #[vdV v, .int .i64 k] w fun e w' => e = .returned (.string (bstr (byB v k))) ∧ Below w.heap.size w w' := by
  have HB := Lib.hid (Below.refl w.heap.size w)
  obtain ⟨b, hb⟩ : ∃ b, b = baseV k := ⟨_, rfl⟩
  rw [← hb] at hW hC hBB
  have HBK := Lib.hid hb
  unfold byB
  rw [← hb]
  have o1 : oth1 v b = true := by unfold oth1 bne; rw [hW]; rfl
  have o2 : oth2 v b = true := by unfold oth2 bne; rw [hC]; rfl
  have o3 : oth3 v b = true := by unfold oth3 bne; rw [hBB]; rfl
  rw [o1, o2, o3]
  clear o1 o2 o3 hb
  have hcc := fun w => rcode_b 1 w
  have hss := bcode_size 1
  obtain ⟨c1, hc1⟩ : ∃ c, c = bstr (codeB 1) := ⟨_, rfl⟩
  rw [← hc1] at hcc hss
  have K1 := Lib.hid hcc
  have s1 := hss
  clear hcc hss
  have E1 := Lib.hid hc1.symm
  clear hc1
  have hcc := fun w => rcode_b (k : Int) w
  have hss := bcode_size (k : Int)
  obtain ⟨ck, hck⟩ : ∃ c, c = bstr (codeB (k : Int)) := ⟨_, rfl⟩
  rw [← hck] at hcc hss
  have Kk := Lib.hid hcc
  have sk := hss
  clear hcc hss
  have Ek := Lib.hid hck.symm
  clear hck
  have hcc := fun w => rcode_b v.W w
  have hss := bcode_size v.W
  obtain ⟨cW, hcW⟩ : ∃ c, c = bstr (codeB v.W) := ⟨_, rfl⟩
  rw [← hcW] at hcc hss
  have KW := Lib.hid hcc
  have sW := hss
  clear hcc hss
  have EW := Lib.hid hcW.symm
  clear hcW
  have hcc := fun w => rcode_b v.H w
  have hss := bcode_size v.H
  obtain ⟨cH, hcH⟩ : ∃ c, c = bstr (codeB v.H) := ⟨_, rfl⟩
  rw [← hcH] at hcc hss
  have KH := Lib.hid hcc
  have sH := hss
  clear hcc hss
  have EH := Lib.hid hcH.symm
  clear hcH
  have hcc := fun w => rcode_b v.C w
  have hss := bcode_size v.C
  obtain ⟨cC, hcC⟩ : ∃ c, c = bstr (codeB v.C) := ⟨_, rfl⟩
  rw [← hcC] at hcc hss
  have KC := Lib.hid hcc
  have sC := hss
  clear hcc hss
  have EC := Lib.hid hcC.symm
  clear hcC
  have hcc := fun w => rcode_b v.B w
  have hss := bcode_size v.B
  obtain ⟨cB, hcB⟩ : ∃ c, c = bstr (codeB v.B) := ⟨_, rfl⟩
  rw [← hcB] at hcc hss
  have KB := Lib.hid hcc
  have sB := hss
  clear hcc hss
  have EB := Lib.hid hcB.symm
  clear hcB
  have hres : bstr (codeB 1 ++ codeB (k : Int) ++ grpB true [v.W, v.H] ++ grpB true [v.C] ++ grpB true [v.B]) = c1 ++ ck ++ (⟨#[49]⟩ ++ cW ++ cH) ++ (⟨#[49]⟩ ++ cC) ++ ⟨#[49]⟩ ++ cB := by
    rw [← E1.out, ← Ek.out, ← EW.out, ← EH.out, ← EC.out, ← EB.out]
    skip
    rw [show (⟨#[49]⟩ : ByteArray) = bstr [true] from rfl]
    simp only [bstr_app]
    simp [grpB]
  rw [hres]
  clear hres E1 Ek EW EH EC EB
  have i0 : (0 : Int) ≤ (k : Int) := by omega
  have i5 : (k : Int) < 5 := by omega
  go_enter Try.func28, Try.ntmps28
  go_wp2_with fail
  have HB := Lib.hid (below_alloc_ (HB.out) (.cells #[.int .i64 v.W, .int .i64 v.H, .int .i64 v.C, .int .i64 v.B] 23))
  have hzw : (w.alloc (.cells #[.int .i64 v.W, .int .i64 v.H, .int .i64 v.C, .int .i64 v.B] 23)).heap.size = w.heap.size + 1 := by simp only [World.size_alloc]
  have B1 := Blk.new (w) 23 #[.int .i64 v.W, .int .i64 v.H, .int .i64 v.C, .int .i64 v.B]
  skip
  have B1 := Lib.hid B1
  generalize w.alloc (.cells #[.int .i64 v.W, .int .i64 v.H, .int .i64 v.C, .int .i64 v.B] 23) = w1 at *
  clear hzw
  refine (rbases_c _).mono ?_
  rintro e w2 ⟨g, rfl, hge, htb, hb'⟩
  have HB := Lib.hid ((HB.out).trans (hb'.mono (HB.out).size))
  have B1 := Lib.hid ((B1.out).below hb' (B1.out).lt)
  obtain ⟨y0, y1, y2, y3⟩ := tab_cells htb hk
  rw [← HBK.out] at y0 y1 y2 y3
  clear htb hge hb'
  go_upto_region 2 with fail
  clear y0 y1 y2 y3 i0 i5
  have HB := Lib.hid (below_alloc_ (HB.out) (.cells #[.int .i64 b.W, .int .i64 b.H, .int .i64 b.C, .int .i64 b.B] 23))
  have B1 := Lib.hid ((B1.out).alloc (.cells #[.int .i64 b.W, .int .i64 b.H, .int .i64 b.C, .int .i64 b.B] 23))
  have hzw : (w2.alloc (.cells #[.int .i64 b.W, .int .i64 b.H, .int .i64 b.C, .int .i64 b.B] 23)).heap.size = w2.heap.size + 1 := by simp only [World.size_alloc]
  have B2 := Blk.new (w2) 23 #[.int .i64 b.W, .int .i64 b.H, .int .i64 b.C, .int .i64 b.B]
  skip
  have B2 := Lib.hid B2
  generalize w2.alloc (.cells #[.int .i64 b.W, .int .i64 b.H, .int .i64 b.C, .int .i64 b.B] 23) = w3 at *
  clear hzw
  obtain ⟨zB10, zB11, zB12, zB13⟩ := (B1.out).cells4
  obtain ⟨zB20, zB21, zB22, zB23⟩ := (B2.out).cells4
  go_wp2_with fail
  clear zB10 zB11 zB12 zB13
  clear zB20 zB21 zB22 zB23
  refine (K1.out _).mono ?_
  rintro e w4 ⟨rfl, hb'⟩
  have HB := Lib.hid ((HB.out).trans (hb'.mono (HB.out).size))
  have B1 := Lib.hid ((B1.out).below hb' (B1.out).lt)
  have B2 := Lib.hid ((B2.out).below hb' (B2.out).lt)
  clear hb'
  obtain ⟨zB10, zB11, zB12, zB13⟩ := (B1.out).cells4
  obtain ⟨zB20, zB21, zB22, zB23⟩ := (B2.out).cells4
  go_wp2_with fail
  clear zB10 zB11 zB12 zB13
  clear zB20 zB21 zB22 zB23
  refine (Kk.out _).mono ?_
  rintro e w5 ⟨rfl, hb'⟩
  have HB := Lib.hid ((HB.out).trans (hb'.mono (HB.out).size))
  have B1 := Lib.hid ((B1.out).below hb' (B1.out).lt)
  have B2 := Lib.hid ((B2.out).below hb' (B2.out).lt)
  clear hb'
  obtain ⟨zB10, zB11, zB12, zB13⟩ := (B1.out).cells4
  obtain ⟨zB20, zB21, zB22, zB23⟩ := (B2.out).cells4
  go_upto_region 5 with fail
  clear zB10 zB11 zB12 zB13
  clear zB20 zB21 zB22 zB23
  have HB1 := Lib.hid (Below.refl w5.heap.size w5)
  have m1 : ¬ (9223372036854775807 < 1 + cW.size) := by omega
  have m2 : ¬ (9223372036854775807 < 1 + cW.size + cH.size) := by omega
  have m3 : ¬ (9223372036854775807 < c1.size + ck.size + (1 + cW.size + cH.size)) := by omega
  obtain ⟨zB10, zB11, zB12, zB13⟩ := (B1.out.below HB1.out B1.out.lt).cells4
  obtain ⟨zB20, zB21, zB22, zB23⟩ := (B2.out.below HB1.out B2.out.lt).cells4
  have kq0 := cell_regrown zB10
  have kq1 := cell_regrown zB11
  have kq2 := cell_regrown zB12
  have kq3 := cell_regrown zB13
  have kq4 := cell_regrown zB20
  have kq5 := cell_regrown zB21
  have kq6 := cell_regrown zB22
  have kq7 := cell_regrown zB23
  clear zB10 zB11 zB12 zB13 zB20 zB21 zB22 zB23
  refine wp_mono [Brings.one ?b155_0, Brings.one ?b156_1, Brings.one ?b157_2, Brings.one ?b158_3, Brings.one ?b159_4, Brings.one ?b160_5, Brings.one ?b161_6, Brings.one ?b162_7, Brings.one ?b163_8, Brings.one ?b164_9, Brings.one ?b165_10] (by kernel_rfl) (by kernel_rfl) ?_
  rotate_left 11
  refine wpL_take (k' := 1) rfl (by kernel_rfl) (fun d os => ?t166) ?_
  case t166 => (unfold bringsAt; go_simp; first | with_reducible exact take_one | exact take_one)
  try simp only [Act.put, List.setIfInBounds_toArray, List.set_cons_zero, List.set_cons_succ]
  refine wpL_take (k' := 2) rfl (by kernel_rfl) (fun d os => ?t167) ?_
  case t167 => (unfold bringsAt; go_simp; first | with_reducible exact take_one | exact take_one)
  try simp only [Act.put, List.setIfInBounds_toArray, List.set_cons_zero, List.set_cons_succ]
  refine wpL_take (k' := 3) rfl (by kernel_rfl) (fun d os => ?t168) ?_
  case t168 => (unfold bringsAt; go_simp; first | with_reducible exact take_one | exact take_one)
  try simp only [Act.put, List.setIfInBounds_toArray, List.set_cons_zero, List.set_cons_succ]
  refine wpL_call (k' := 4) rfl (by kernel_rfl) (fun wz hz hd => ?t169) ?_
  case t169 =>
    have HZ := Lib.hid (HB1.out.trans (hz.mono HB1.out.size))
    unfold bringsAt
    go_simp
    have h9 := KW.out wz
    refine call_one_as h9 ?_
    rfl
  try simp only [Act.put, List.setIfInBounds_toArray, List.set_cons_zero, List.set_cons_succ]
  refine wpL_take (k' := 5) rfl (by kernel_rfl) (fun d os => ?t170) ?_
  case t170 => (unfold bringsAt; go_simp; first | with_reducible exact take_one | exact take_one)
  try simp only [Act.put, List.setIfInBounds_toArray, List.set_cons_zero, List.set_cons_succ]
  refine wpL_take (k' := 6) rfl (by kernel_rfl) (fun d os => ?t171) ?_
  case t171 => (unfold bringsAt; go_simp; first | with_reducible exact take_one | exact take_one)
  try simp only [Act.put, List.setIfInBounds_toArray, List.set_cons_zero, List.set_cons_succ]
  refine wpL_take (k' := 7) rfl (by kernel_rfl) (fun d os => ?t172) ?_
  case t172 => (unfold bringsAt; go_simp; first | with_reducible exact take_one | exact take_one)
  try simp only [Act.put, List.setIfInBounds_toArray, List.set_cons_zero, List.set_cons_succ]
  refine wpL_call (k' := 8) rfl (by kernel_rfl) (fun wz hz hd => ?t173) ?_
  case t173 =>
    have HZ := Lib.hid (HB1.out.trans (hz.mono HB1.out.size))
    unfold bringsAt
    go_simp
    have h9 := KH.out wz
    refine call_one_as h9 ?_
    rfl
  try simp only [Act.put, List.setIfInBounds_toArray, List.set_cons_zero, List.set_cons_succ]
  refine wpL_take (k' := 9) rfl (by kernel_rfl) (fun d os => ?t174) ?_
  case t174 => (unfold bringsAt; go_simp; first | with_reducible exact take_one | exact take_one)
  try simp only [Act.put, List.setIfInBounds_toArray, List.set_cons_zero, List.set_cons_succ]
  refine wpL_take (k' := 10) rfl (by kernel_rfl) (fun d os => ?t175) ?_
  case t175 => (unfold bringsAt; go_simp; first | with_reducible exact take_one | exact take_one)
  try simp only [Act.put, List.setIfInBounds_toArray, List.set_cons_zero, List.set_cons_succ]
  refine wpL_take (k' := 11) rfl (by kernel_rfl) (fun d os => ?t176) ?_
  case t176 => (unfold bringsAt; go_simp; first | with_reducible exact take_one | exact take_one)
  try simp only [Act.put, List.setIfInBounds_toArray, List.set_cons_zero, List.set_cons_succ]
  refine wpL_nil ?_
  intro w6 hH
  have hb' := hH.below
  clear kq0 kq1 kq2 kq3 kq4 kq5 kq6 kq7
  have HB1 := Lib.hid ((HB1.out).trans (hb'.mono (HB1.out).size))
  have HB := Lib.hid ((HB.out).trans (hb'.mono (HB.out).size))
  clear hH hb'
  obtain ⟨zB10, zB11, zB12, zB13⟩ := (B1.out.below HB1.out B1.out.lt).cells4
  obtain ⟨zB20, zB21, zB22, zB23⟩ := (B2.out.below HB1.out B2.out.lt).cells4
  go_upto_region 8 with fail
  clear zB10 zB11 zB12 zB13
  clear zB20 zB21 zB22 zB23
  obtain ⟨zB10, zB11, zB12, zB13⟩ := (B1.out.below HB1.out B1.out.lt).cells4
  obtain ⟨zB20, zB21, zB22, zB23⟩ := (B2.out.below HB1.out B2.out.lt).cells4
  go_wp2_with fail
  clear zB10 zB11 zB12 zB13
  clear zB20 zB21 zB22 zB23
  refine (KC.out _).mono ?_
  rintro e w7 ⟨rfl, hb'⟩
  have HB1 := Lib.hid ((HB1.out).trans (hb'.mono (HB1.out).size))
  have HB := Lib.hid ((HB.out).trans (hb'.mono (HB.out).size))
  clear hb'
  obtain ⟨zB10, zB11, zB12, zB13⟩ := (B1.out.below HB1.out B1.out.lt).cells4
  obtain ⟨zB20, zB21, zB22, zB23⟩ := (B2.out.below HB1.out B2.out.lt).cells4
  go_upto_region 11 with fail
  clear zB10 zB11 zB12 zB13
  clear zB20 zB21 zB22 zB23
  obtain ⟨zB10, zB11, zB12, zB13⟩ := (B1.out.below HB1.out B1.out.lt).cells4
  obtain ⟨zB20, zB21, zB22, zB23⟩ := (B2.out.below HB1.out B2.out.lt).cells4
  go_wp2_with fail
  clear zB10 zB11 zB12 zB13
  clear zB20 zB21 zB22 zB23
  refine (KB.out _).mono ?_
  rintro e w8 ⟨rfl, hb'⟩
  have HB1 := Lib.hid ((HB1.out).trans (hb'.mono (HB1.out).size))
  have HB := Lib.hid ((HB.out).trans (hb'.mono (HB.out).size))
  clear hb'
  obtain ⟨zB10, zB11, zB12, zB13⟩ := (B1.out.below HB1.out B1.out.lt).cells4
  obtain ⟨zB20, zB21, zB22, zB23⟩ := (B2.out.below HB1.out B2.out.lt).cells4
  go_wp2_with fail
  clear zB10 zB11 zB12 zB13
  clear zB20 zB21 zB22 zB23
  go_ret
  exact ⟨rfl, HB.out⟩
theorem rby_c (v : Vd) (k : Nat) (w : World) (hk : k < 5) : Calls Try.prog 28 #[vdV v, .int .i64 k] w fun e w' => e = .returned (.string (bstr (byB v k))) ∧ Below w.heap.size w w' := by
  cases hW : (v.W == (baseV k).W) <;> cases hH : (v.H == (baseV k).H) <;> cases hC : (v.C == (baseV k).C) <;> cases hB : (v.B == (baseV k).B)
  · exact rby_211 v k w hk hW hC hB
  · exact rby_210 v k w hk hW hC hB
  · exact rby_201 v k w hk hW hC hB
  · exact rby_200 v k w hk hW hC hB
  · exact rby_211 v k w hk hW hC hB
  · exact rby_210 v k w hk hW hC hB
  · exact rby_201 v k w hk hW hC hB
  · exact rby_200 v k w hk hW hC hB
  · exact rby_111 v k w hk hW hH hC hB
  · exact rby_110 v k w hk hW hH hC hB
  · exact rby_101 v k w hk hW hH hC hB
  · exact rby_100 v k w hk hW hH hC hB
  · exact rby_011 v k w hk hW hH hC hB
  · exact rby_010 v k w hk hW hH hC hB
  · exact rby_001 v k w hk hW hH hC hB
  · exact rby_000 v k w hk hW hH hC hB
set_option maxRecDepth 100000 in
set_option maxHeartbeats 6400000 in
theorem rput_c (v : Vd) (w : World) : Calls Try.prog 15 #[vdV v] w fun e w' => ∃ u, e = .returned u ∧ OwnB w' w.heap.size u (packZ (putB v)) ∧ Below w.heap.size w w' := by
  have HB := Lib.hid (Below.refl w.heap.size w)
  go_enter Try.func15, Try.ntmps15
  go_wp2_with fail
  have HB := Lib.hid (below_alloc_ (HB.out) (.cells #[.int .i64 v.W, .int .i64 v.H, .int .i64 v.C, .int .i64 v.B] 23))
  have hzw : (w.alloc (.cells #[.int .i64 v.W, .int .i64 v.H, .int .i64 v.C, .int .i64 v.B] 23)).heap.size = w.heap.size + 1 := by simp only [World.size_alloc]
  have B1 := Blk.new (w) 23 #[.int .i64 v.W, .int .i64 v.H, .int .i64 v.C, .int .i64 v.B]
  skip
  have B1 := Lib.hid B1
  generalize w.alloc (.cells #[.int .i64 v.W, .int .i64 v.H, .int .i64 v.C, .int .i64 v.B] 23) = w1 at *
  clear hzw
  have HB1 := Lib.hid (Below.refl w1.heap.size w1)
  have hbl := bstK_lt v 5 (Nat.le_refl _)
  have HBY := Lib.hid (show ∀ w, Calls Try.prog 28 #[vdV v, .int .i64 (bestN v : Int)] w fun e w' => e = .returned (.string (bstr (putB v))) ∧ Below w.heap.size w w' from fun w => rby_c v (bestN v) w hbl)
  have HB1 := Lib.hid ((HB1.out).drew)
  refine wp_region_held_drew (S := (fun w' => w'.cell? ⟨w.heap.size, 0, none⟩ = some (.int .i64 v.W) ∧ w'.cell? ⟨w.heap.size, 1, none⟩ = some (.int .i64 v.H) ∧ w'.cell? ⟨w.heap.size, 2, none⟩ = some (.int .i64 v.C) ∧ w'.cell? ⟨w.heap.size, 3, none⟩ = some (.int .i64 v.B))) (by kernel_rfl) ?hS0 (fun hHeld => ?_)
  case hS0 => exact ⟨(B1.out.below HB1.out B1.out.lt).cell 0, (B1.out.below HB1.out B1.out.lt).cell 1, (B1.out.below HB1.out B1.out.lt).cell 2, (B1.out.below HB1.out B1.out.lt).cell 3⟩
  refine wpAnyH_take (i := 0) (oi := ⟨some 3, _, _, _, _, _⟩) (v := ?v177) rfl (by kernel_rfl) (by kernel_rfl) (by kernel_rfl) (fun _ _ _ h => h) (Or.inl ⟨by rfl, ?h177⟩) (by assumption) ?r177
  case h177 => (intro w hSw; (try dsimp only at hSw); go_simp; try with_reducible rfl)
  try simp only [Act.put, List.setIfInBounds_toArray, List.set_cons_zero, List.set_cons_succ]
  refine wpAnyH_take (i := 1) (oi := ⟨some 4, _, _, _, _, _⟩) (v := ?v178) rfl (by kernel_rfl) (by kernel_rfl) (by kernel_rfl) (fun _ _ _ h => h) (Or.inl ⟨by rfl, ?h178⟩) (by assumption) ?r178
  case h178 => (intro w hSw; (try dsimp only at hSw); go_simp; try with_reducible rfl)
  try simp only [Act.put, List.setIfInBounds_toArray, List.set_cons_zero, List.set_cons_succ]
  refine wpAnyH_ready (rs := [2]) (by kernel_rfl) (by simp) ?_
  refine (AllReadyH.cons (o := ⟨some 5, _, _, _, _, _⟩) rfl (fun K hK => ?_) AllReadyH.nil)
  go_simp
  have HS1 := HB1
  refine (rbest_c v _).mono ?_
  rintro e w2 ⟨rfl, hb'⟩
  have HB1 := Lib.hid ((HB1.out).trans (hb'.mono (HB1.out).size))
  clear hb'
  refine hK.out _ _ ?hS179 (fun hHeld => ?_)
  case hS179 => exact ⟨(B1.out.below HB1.out B1.out.lt).cell 0, (B1.out.below HB1.out B1.out.lt).cell 1, (B1.out.below HB1.out B1.out.lt).cell 2, (B1.out.below HB1.out B1.out.lt).cell 3⟩
  clear hK K
  try simp only [Act.put, List.setIfInBounds_toArray, List.set_cons_zero, List.set_cons_succ]
  refine wpAnyH_ready (rs := [3]) (by kernel_rfl) (by simp) ?_
  refine (AllReadyH.cons (o := ⟨some 6, _, _, _, _, _⟩) rfl (fun K hK => ?_) AllReadyH.nil)
  go_simp
  have HS1 := HB1
  refine (HBY.out _).mono ?_
  rintro e w3 ⟨rfl, hb'⟩
  have HB1 := Lib.hid ((HB1.out).trans (hb'.mono (HB1.out).size))
  clear hb'
  refine hK.out _ _ ?hS180 (fun hHeld => ?_)
  case hS180 => exact ⟨(B1.out.below HB1.out B1.out.lt).cell 0, (B1.out.below HB1.out B1.out.lt).cell 1, (B1.out.below HB1.out B1.out.lt).cell 2, (B1.out.below HB1.out B1.out.lt).cell 3⟩
  clear hK K
  try simp only [Act.put, List.setIfInBounds_toArray, List.set_cons_zero, List.set_cons_succ]
  refine wpAnyH_ready (rs := [4]) (by kernel_rfl) (by simp) ?_
  refine (AllReadyH.cons (o := ⟨some 7, _, _, _, _, _⟩) rfl (fun K hK => ?_) AllReadyH.nil)
  go_simp
  have HS1 := HB1
  refine (rbytes_c _ _ (by have := byB_len v (bestN v); unfold putB; omega)).mono ?_
  rintro e w4 ⟨vv, rfl, ho, hb'⟩
  have HB1 := Lib.hid ((HB1.out).trans (hb'.mono (HB1.out).size))
  clear hb'
  have OV := Lib.hid (ho.lower (B' := w.heap.size) (by have := HS1.out.size; have := HB.out.size; omega))
  clear ho
  refine hK.out _ _ ?hS181 (fun hHeld => ?_)
  case hS181 => exact ⟨(B1.out.below HB1.out B1.out.lt).cell 0, (B1.out.below HB1.out B1.out.lt).cell 1, (B1.out.below HB1.out B1.out.lt).cell 2, (B1.out.below HB1.out B1.out.lt).cell 3⟩
  clear hK K
  try simp only [Act.put, List.setIfInBounds_toArray, List.set_cons_zero, List.set_cons_succ]
  refine wpAnyH_take (i := 5) (oi := ⟨some 2, _, _, _, _, _⟩) (v := ?v182) rfl (by kernel_rfl) (by kernel_rfl) (by kernel_rfl) (fun _ _ _ h => h) (Or.inl ⟨by rfl, ?h182⟩) (by assumption) ?r182
  case h182 => (intro w hSw; (try dsimp only at hSw); go_simp; try with_reducible rfl)
  try simp only [Act.put, List.setIfInBounds_toArray, List.set_cons_zero, List.set_cons_succ]
  refine wpAnyH_done (by kernel_rfl) ?_ _
  clear hHeld
  go_wp2_with fail
  go_ret
  exact ⟨_, rfl, OV.out, HB.out.trans (HB1.out.mono HB.out.size)⟩

end Go.Proofs.Ytgdlleoefncikaa
