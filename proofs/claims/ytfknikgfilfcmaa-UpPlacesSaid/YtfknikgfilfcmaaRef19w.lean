/- What whole of layer 19's reference answers. -/
import Derived.Test.YtfknikgfilfcmaaRef19
namespace Go.Proofs.Ytfknikgfilfcmaa
open Go.RowKit
set_option linter.unusedVariables false
set_option linter.unusedSimpArgs false

theorem rdown_b (v p : Int) (w : World) (hp : 1 ≤ p) (hp2 : p ≤ 9223372036854775807) (hl : -9223372036854775808 ≤ v) (hh : v ≤ 9223372036854775807) :
    Calls Try.prog 26 #[.int .i64 v, .int .i64 p] w fun e w' => e = .returned (.int .i64 (v / p)) ∧ Below w.heap.size w w' :=
  (rdown_c v p w hp hp2 hl hh).mono (by rintro e w' ⟨rfl, rfl⟩; exact ⟨rfl, Below.refl _ _⟩)
set_option maxRecDepth 100000 in
set_option maxHeartbeats 3200000 in
theorem r19whole_c (a b : Nat) (V : List Int) (A : Option Addr) (c : Nat) (m x y : Int) (w : World) (hR : ReadsI w A V) (h1 : 1 ≤ a) (h2 : a ≤ 1024) (h3 : 1 ≤ b) (h4 : b ≤ 1024) (hl : V.length = a * b) (m1 : 1 ≤ m) (m2 : m ≤ 65535) (hs : ∀ k, 0 ≤ rdn V k ∧ rdn V k ≤ m) (x0 : -9223372036854775808 ≤ x) (x1 : x ≤ 9223372036854775807) (y0 : -9223372036854775808 ≤ y) (y1 : y ≤ 9223372036854775807) :
    Calls Try.prog 29 #[refV a b (.slice A V.length c) m, .int .i64 x, .int .i64 y] w fun e w' => e = .returned (.int .i64 (smp a b V (x / 2) (y / 2))) ∧ Below w.heap.size w w' := by
  have hok : okB a b V.length = true := by rw [hl]; exact okB_mk h1 h2 h3 h4
  have Hok := Lib.hid hok
  have hn : V.length ≤ 9223372036854775807 := by have := area_bd (W := a) (H := b) (by omega) (by omega) (by omega) (by omega); have := Int.natCast_mul a b; omega
  have RP := Lib.hid hR
  have HB1 := Lib.hid (Below.refl w.heap.size w)
  clear hR hl hs hok
  go_enter Try.func29, Try.ntmps29
  go_wp2_with fail
  have RP := Lib.hid ((RP.out).alloc (.cells #[.int .i64 a, .int .i64 b, .slice A V.length c, .int .i64 m] 35))
  have HB1 := Lib.hid (below_alloc_ (HB1.out) (.cells #[.int .i64 a, .int .i64 b, .slice A V.length c, .int .i64 m] 35))
  have hzw : (w.alloc (.cells #[.int .i64 a, .int .i64 b, .slice A V.length c, .int .i64 m] 35)).heap.size = w.heap.size + 1 := by simp only [World.size_alloc]
  have BR := Blk.new (w) 35 #[.int .i64 a, .int .i64 b, .slice A V.length c, .int .i64 m]
  skip
  have BR := Lib.hid BR
  generalize w.alloc (.cells #[.int .i64 a, .int .i64 b, .slice A V.length c, .int .i64 m] 35) = w1 at *
  clear hzw
  have RP := Lib.hid ((RP.out).drew)
  have HB1 := Lib.hid ((HB1.out).drew)
  have BR := Lib.hid ((BR.out).drew)
  refine wp_region_held_drew (S := (fun w' => w'.cell? ⟨w.heap.size, 0, none⟩ = some (.int .i64 a) ∧ w'.cell? ⟨w.heap.size, 1, none⟩ = some (.int .i64 b) ∧ w'.cell? ⟨w.heap.size, 2, none⟩ = some (.slice A V.length c) ∧ w'.cell? ⟨w.heap.size, 3, none⟩ = some (.int .i64 m))) (by kernel_rfl) ?hS0 (fun hHeld => ?_)
  case hS0 => exact ⟨(BR.out).cell 0, (BR.out).cell 1, (BR.out).cell 2, (BR.out).cell 3⟩
  refine wpAnyH_take (i := 0) (oi := ⟨some 7, _, _, _, _, _⟩) (v := ?v1) rfl (by kernel_rfl) (by kernel_rfl) (by kernel_rfl) (fun _ _ _ h => h) (Or.inl ⟨by rfl, ?h1⟩) (by assumption) ?r1
  case h1 => (intro w hSw; (try dsimp only at hSw); go_simp; try with_reducible rfl)
  try simp only [Act.put, List.setIfInBounds_toArray, List.set_cons_zero, List.set_cons_succ]
  refine wpAnyH_take (i := 1) (oi := ⟨some 8, _, _, _, _, _⟩) (v := ?v2) rfl (by kernel_rfl) (by kernel_rfl) (by kernel_rfl) (fun _ _ _ h => h) (Or.inl ⟨by rfl, ?h2⟩) (by assumption) ?r2
  case h2 => (intro w hSw; (try dsimp only at hSw); go_simp; try with_reducible rfl)
  try simp only [Act.put, List.setIfInBounds_toArray, List.set_cons_zero, List.set_cons_succ]
  refine wpAnyH_take (i := 2) (oi := ⟨some 9, _, _, _, _, _⟩) (v := ?v3) rfl (by kernel_rfl) (by kernel_rfl) (by kernel_rfl) (fun _ _ _ h => h) (Or.inl ⟨by rfl, ?h3⟩) (by assumption) ?r3
  case h3 => (intro w hSw; (try dsimp only at hSw); go_simp; try with_reducible rfl)
  try simp only [Act.put, List.setIfInBounds_toArray, List.set_cons_zero, List.set_cons_succ]
  refine wpAnyH_take (i := 4) (oi := ⟨some 11, _, _, _, _, _⟩) (v := ?v4) rfl (by kernel_rfl) (by kernel_rfl) (by kernel_rfl) (fun _ _ _ h => h) (Or.inl ⟨by rfl, ?h4⟩) (by assumption) ?r4
  case h4 => (intro w hSw; (try dsimp only at hSw); go_simp; try with_reducible rfl)
  try simp only [Act.put, List.setIfInBounds_toArray, List.set_cons_zero, List.set_cons_succ]
  refine wpAnyH_ready (rs := [3]) (by kernel_rfl) (by simp) ?_
  refine (AllReadyH.cons (o := ⟨some 10, _, _, _, _, _⟩) rfl (fun K hK => ?_) AllReadyH.nil)
  go_simp
  have HS1 := HB1
  refine (rdown_b x 2 _ (by omega) (by omega) (by omega) (by omega)).mono ?_
  rintro e w2 ⟨rfl, hb'⟩
  have RP := Lib.hid ((RP.out).kept hb')
  have HB1 := Lib.hid ((HB1.out).trans (hb'.mono (HB1.out).size))
  have BR := Lib.hid ((BR.out).below hb' (BR.out).lt)
  clear hb'
  refine hK.out _ _ ?hS5 (fun hHeld => ?_)
  case hS5 => exact ⟨(BR.out).cell 0, (BR.out).cell 1, (BR.out).cell 2, (BR.out).cell 3⟩
  clear hK K
  try simp only [Act.put, List.setIfInBounds_toArray, List.set_cons_zero, List.set_cons_succ]
  refine wpAnyH_ready (rs := [5]) (by kernel_rfl) (by simp) ?_
  refine (AllReadyH.cons (o := ⟨some 12, _, _, _, _, _⟩) rfl (fun K hK => ?_) AllReadyH.nil)
  go_simp
  have HS1 := HB1
  refine (rdown_b y 2 _ (by omega) (by omega) (by omega) (by omega)).mono ?_
  rintro e w3 ⟨rfl, hb'⟩
  have RP := Lib.hid ((RP.out).kept hb')
  have HB1 := Lib.hid ((HB1.out).trans (hb'.mono (HB1.out).size))
  have BR := Lib.hid ((BR.out).below hb' (BR.out).lt)
  clear hb'
  refine hK.out _ _ ?hS6 (fun hHeld => ?_)
  case hS6 => exact ⟨(BR.out).cell 0, (BR.out).cell 1, (BR.out).cell 2, (BR.out).cell 3⟩
  clear hK K
  try simp only [Act.put, List.setIfInBounds_toArray, List.set_cons_zero, List.set_cons_succ]
  refine wpAnyH_ready (rs := [6]) (by kernel_rfl) (by simp) ?_
  refine (AllReadyH.cons (o := ⟨some 13, _, _, _, _, _⟩) rfl (fun K hK => ?_) AllReadyH.nil)
  go_simp
  have HS1 := HB1
  refine (r7at_c a b V A c (x / 2) (y / 2) _ RP.out hn).mono ?_
  rintro e w4 ⟨rfl, hb'⟩
  have RP := Lib.hid ((RP.out).kept hb')
  have HB1 := Lib.hid ((HB1.out).trans (hb'.mono (HB1.out).size))
  have BR := Lib.hid ((BR.out).below hb' (BR.out).lt)
  clear hb'
  rw [at_smp Hok.out]
  refine hK.out _ _ ?hS7 (fun hHeld => ?_)
  case hS7 => exact ⟨(BR.out).cell 0, (BR.out).cell 1, (BR.out).cell 2, (BR.out).cell 3⟩
  clear hK K
  try simp only [Act.put, List.setIfInBounds_toArray, List.set_cons_zero, List.set_cons_succ]
  refine wpAnyH_take (i := 7) (oi := ⟨some 6, _, _, _, _, _⟩) (v := ?v8) rfl (by kernel_rfl) (by kernel_rfl) (by kernel_rfl) (fun _ _ _ h => h) (Or.inl ⟨by rfl, ?h8⟩) (by assumption) ?r8
  case h8 => (intro w hSw; (try dsimp only at hSw); go_simp; try with_reducible rfl)
  try simp only [Act.put, List.setIfInBounds_toArray, List.set_cons_zero, List.set_cons_succ]
  refine wpAnyH_done (by kernel_rfl) ?_ _
  clear hHeld
  go_wp2_with fail
  go_ret
  exact ⟨rfl, HB1.out⟩

end Go.Proofs.Ytfknikgfilfcmaa
