/- Params: what must be answered ahead of all. -/
import Derived.Test.YtgdlleoefncikaaPar11
import Derived.Test.YtgdlleoefncikaaByte2
import Derived.ArgAppend
namespace Go.Proofs.Ytgdlleoefncikaa
open Go.RowKit Go.Sort
set_option linter.unusedVariables false
set_option linter.unusedSimpArgs false
/-- A byte appended onto a row of the call's own: what was the row reads as it did. -/
theorem wpListB_keep {w : World} {base : Nat} {ops : Array Oper} {rest : List Oper} {o : Oper} {a : Act} {Q : Exit → Act → World → Prop} (hgd : o.guard = none) (s x : Operand) (t : TypeId)
    (ho : o.op = .call { callee := .builtin .append, args := #[s, x], argTypes := #[t, t] }) (ht : Try.prog.underlying t = some (.slice 5)) (v : Value) (xs : List Int) (hs : a.eval s = v) (hown : OwnB w base v xs) (hp : 0 < xs.length)
    (g c : Nat) (y : Int) (hx : a.eval x = .slice (some ⟨g, 0, none⟩) 1 c) (hc : w.cell? ⟨g, 0, none⟩ = some (.int .u8 y)) (hlen : xs.length + 1 ≤ 10000000000) (hbase : base ≤ w.heap.size)
    (h : ∀ v' w', OwnB w' base v' (xs ++ [y]) → OwnB w' base v xs → w.grownBy w' v.ownBlock → wpList Try.prog ops Q rest (a.put o.dst v') w') : wpList Try.prog ops Q (o :: rest) a w := by
  have hown0 := hown
  obtain ⟨hl, h2⟩ := hown
  rcases h2 with ⟨rfl, h0⟩ | ⟨b, cap, cur, rfl, hB, hh, h3, h4, h5, h6⟩
  · omega
  have hblk : Blk w b 5 cur := hh
  obtain ⟨i0, hi, hz0, hz1, hz2⟩ := info_parts info_byte
  refine wpList_append_arg w hgd s x t ho 5 i0 (.int .u8 0) 1 1 ht hi hz0 hz1 hz2 rfl (by omega) b 0 xs.length cap (xs.map (Value.int .u8)) hs (by simp) ?holds ⟨g, 0, none⟩ 1 c [.int .u8 y] hx rfl ?hc (by simp [Value.oneCell']) ?spare (by unfold maxLen; omega) (by omega) ?room ?grow
  case holds =>
    intro j u hj
    rw [List.getElem?_map] at hj
    obtain ⟨z, hz, rfl⟩ := Option.map_eq_some_iff.1 hj
    obtain ⟨hjl, e⟩ := List.getElem?_eq_some_iff.1 hz
    have := hown0.cellr hjl
    rw [Nat.zero_add, this]
    simp [rdn, List.getD_eq_getElem?_getD, hz]
  case hc =>
    intro j u hj
    match j, hj with
    | 0, hj => simp at hj; subst hj; simpa [Addr.add] using hc
  case spare =>
    intro hr j hj
    have hj0 : j = 0 := by simpa using hj
    subst hj0
    refine ⟨?_, hblk.frozen _⟩
    rw [hblk.cell, Array.getElem?_eq_getElem (by omega)]
    rfl
  case room =>
    intro hr
    have e : w.setCells b (0 + xs.length * 1) [.int .u8 y] = w.setCell ⟨b, xs.length, none⟩ (.int .u8 y) := by simp [World.setCells]
    rw [e]
    have hset := hblk.set_ xs.length (.int .u8 y)
    have h6' : cur.toList.take xs.length = xs.map (Value.int .u8) := by simpa using h6
    refine h _ _ ?_ ⟨hl, .inr ⟨b, cap, _, rfl, hB, hset, h3, h4, by simpa using h5, ?_⟩⟩ (only_setCell (World.grownBy.refl w (some b)) (.inl rfl) _)
    · unfold OwnB
      rw [List.length_append, List.map_append]
      refine ⟨by simp, .inr ⟨b, cap, _, rfl, hB, hset, hr, h4, by simpa using h5, ?_⟩⟩
      simp only [Array.toList_setIfInBounds, List.length_singleton, Nat.mul_one, List.map_cons, List.map_nil]
      rw [List.take_succ_eq_append_getElem (by simp; omega), List.take_set_of_le (by omega), h6']
      simp
    · simp only [Array.toList_setIfInBounds, Nat.mul_one]
      rw [List.take_set_of_le (Nat.le_refl _), h6']
  case grow =>
    intro hg v' w' q1 q2
    have q1' : OwnB w' w.heap.size v' (xs ++ [y]) := by unfold OwnB; rw [List.length_append, List.map_append]; exact q1
    exact h _ _ (q1'.lower hbase) (OwnB.grown hown0 q2 (.inr (by simp [Value.ownBlock]))) ⟨q2.os, q2.tape, q2.output, q2.size, fun k hk _ => q2.block k hk (by simp)⟩
theorem put_first : packZ (padB (putB ⟨16, 16, 2, 8⟩)) = [48] := by decide +kernel
theorem get_first : getS (unp [48, 7]) = (⟨16, 16, 2, 8⟩, 0) := by decide +kernel
theorem get_none : getS (unp []) = (⟨0, 0, 0, 0⟩, 30) := by decide +kernel
theorem best_first : bestN ⟨16, 16, 2, 8⟩ = 0 := by decide +kernel
theorem byte8_two : Byte8 [48, 7] := byte8_of (by decide)
theorem byte8_none : Byte8 [] := byte8_of (by decide)
set_option maxRecDepth 100000 in
set_option maxHeartbeats 6400000 in
theorem first_c (w : World) : Calls Try.prog 6 #[] w fun e w' => e = .returned (.bool true) ∧ Below w.heap.size w w' := by
  have HB := Lib.hid (Below.refl w.heap.size w)
  go_enter Try.func6, Try.ntmps6
  go_upto_region 2 with fail
  have HB := Lib.hid (below_alloc_ (HB.out) (.cells #[.int .i64 16, .int .i64 16, .int .i64 2, .int .i64 8] 23))
  have hzw : (w.alloc (.cells #[.int .i64 16, .int .i64 16, .int .i64 2, .int .i64 8] 23)).heap.size = w.heap.size + 1 := by simp only [World.size_alloc]
  have B1 := Blk.new (w) 23 #[.int .i64 16, .int .i64 16, .int .i64 2, .int .i64 8]
  skip
  have B1 := Lib.hid B1
  generalize w.alloc (.cells #[.int .i64 16, .int .i64 16, .int .i64 2, .int .i64 8] 23) = w1 at *
  clear hzw
  obtain ⟨zB10, zB11, zB12, zB13⟩ := (B1.out).cells4
  go_wp2_with fail
  clear zB10 zB11 zB12 zB13
  have h9 := pput_yes ⟨16, 16, 2, 8⟩ w1 (by decide)
  rw [put_first] at h9
  refine h9.mono ?_
  rintro e w2 ⟨u, rfl, ho, hb'⟩
  have hw12 := hb'.size
  have hs3 := Lib.hid HB.out.size
  clear h9
  have HB := Lib.hid ((HB.out).trans (hb'.mono (HB.out).size))
  have B1 := Lib.hid ((B1.out).below hb' (B1.out).lt)
  obtain ⟨A1, c1, rfl, _⟩ := ho.slice
  have OU := Lib.hid ho
  clear ho hb'
  have hlen : ([48] : List Int).length = 1 := rfl
  rw [hlen] at OU ⊢
  clear hlen
  go_upto_region 3 with fail
  have hs2 := Lib.hid hw12
  have hb' := below_alloc_ (Below.refl w2.heap.size w2) (.cells #[.int .u8 7] 5)
  have OUx := Lib.hid (OU.out.kept hb')
  have HBx := Lib.hid (HB.out.trans (hb'.mono HB.out.size))
  have B1x := Lib.hid (B1.out.below hb' B1.out.lt)
  have hs1 := Lib.hid hb'.size
  have OV := Lib.hid (show OwnB w2 w1.heap.size (.slice A1 1 c1) [48] from OU.out)
  clear hb'
  go_wp2_with (
    at_builtin
    refine wpListB_keep (by rfl) (.tmp 15) (.tmp 16) 28 (by rfl) Try.underlying28 (.slice A1 1 c1) [48] (by rfl) OUx.out (by decide) w2.heap.size 1 7 (by rfl) (by simp) (by decide) (by have := hs1.out; have := hs2.out; omega) ?_
    intro v2 w9 ho2 hkeep hg2
    have OK9 := Lib.hid hkeep
    obtain ⟨A2, c2, rfl, hr2⟩ := ho2.slice
    have HB9 := Lib.hid (HBx.out.grown hg2 (by have := HBx.out.size; omega) (fun k hk => by have := (World.ownsRow.lt OUx.out k hk).1; have := hs3.out; omega))
    have B9 := Lib.hid (B1x.out.grown hg2 (fun e => own_blk_ne OUx.out B1x.out (by decide) e.symm))
    have RR := Lib.hid (show ReadsB w9 A2 [48, 7] from hr2)
    clear ho2 hg2 hkeep hr2)
  have h9 := pget_c A2 c2 [48, 7] w9 RR.out byte8_two (by decide)
  rw [get_first] at h9
  refine h9.mono ?_
  rintro e w10 ⟨rfl, hb'⟩
  clear h9
  have HB := Lib.hid (HB9.out.trans (hb'.mono HB9.out.size))
  have B1 := Lib.hid (B9.out.below hb' B9.out.lt)
  have OU := Lib.hid (OK9.out.kept hb')
  clear OK9 hb' HB9 B9 RR OUx HBx B1x
  dsimp only
  go_upto_region 4 with fail
  have HB := Lib.hid (below_alloc_ (HB.out) (.cells #[.int .i64 16, .int .i64 16, .int .i64 2, .int .i64 8] 23))
  have B1 := Lib.hid ((B1.out).alloc (.cells #[.int .i64 16, .int .i64 16, .int .i64 2, .int .i64 8] 23))
  have OU := Lib.hid ((OU.out).alloc (.cells #[.int .i64 16, .int .i64 16, .int .i64 2, .int .i64 8] 23))
  have hzw : (w10.alloc (.cells #[.int .i64 16, .int .i64 16, .int .i64 2, .int .i64 8] 23)).heap.size = w10.heap.size + 1 := by simp only [World.size_alloc]
  have B4 := Blk.new (w10) 23 #[.int .i64 16, .int .i64 16, .int .i64 2, .int .i64 8]
  skip
  have B4 := Lib.hid B4
  generalize w10.alloc (.cells #[.int .i64 16, .int .i64 16, .int .i64 2, .int .i64 8] 23) = w11 at *
  clear hzw
  go_wp2_with fail
  have h9 := pget_c none 0 [] w11 (show ReadsB _ none [] from Reads.none_) byte8_none (by decide)
  rw [get_none] at h9
  refine h9.mono ?_
  rintro e w12 ⟨rfl, hb'⟩
  clear h9
  have HB := Lib.hid ((HB.out).trans (hb'.mono (HB.out).size))
  have B1 := Lib.hid ((B1.out).below hb' (B1.out).lt)
  have OU := Lib.hid ((OU.out).kept hb')
  have B4 := Lib.hid ((B4.out).below hb' (B4.out).lt)
  clear hb'
  go_upto_region 5 with fail
  have HB := Lib.hid (below_alloc_ (HB.out) (.cells #[.int .i64 0, .int .i64 0, .int .i64 0, .int .i64 0] 23))
  have B1 := Lib.hid ((B1.out).alloc (.cells #[.int .i64 0, .int .i64 0, .int .i64 0, .int .i64 0] 23))
  have OU := Lib.hid ((OU.out).alloc (.cells #[.int .i64 0, .int .i64 0, .int .i64 0, .int .i64 0] 23))
  have B4 := Lib.hid ((B4.out).alloc (.cells #[.int .i64 0, .int .i64 0, .int .i64 0, .int .i64 0] 23))
  have hzw : (w12.alloc (.cells #[.int .i64 0, .int .i64 0, .int .i64 0, .int .i64 0] 23)).heap.size = w12.heap.size + 1 := by simp only [World.size_alloc]
  have B6 := Blk.new (w12) 23 #[.int .i64 0, .int .i64 0, .int .i64 0, .int .i64 0]
  skip
  have B6 := Lib.hid B6
  generalize w12.alloc (.cells #[.int .i64 0, .int .i64 0, .int .i64 0, .int .i64 0] 23) = w13 at *
  clear hzw
  have hcv : ∀ W : World, OwnB W w1.heap.size (.slice A1 1 c1) [48] → (convert 28 9 (.slice A1 1 c1)).run Try.prog W = .ok (.string ⟨#[48]⟩) W := fun W q => by obtain ⟨A', c', e, hr⟩ := q.slice; injection e with e1 e2 e3; subst e1; exact conv_str 28 9 Try.underlying28 Try.underlying9 A1 c1 [48] W hr (byte8_of (by decide))
  have hcw := hcv _ OU.out
  clear hcv
  obtain ⟨zB10, zB11, zB12, zB13⟩ := (B1.out).cells4
  obtain ⟨zB40, zB41, zB42, zB43⟩ := (B4.out).cells4
  go_wp2_with fail
  clear hcw
  refine (pbases_c _).mono ?_
  rintro e w14 ⟨g, rfl, _, _, hb'⟩
  have HB := Lib.hid ((HB.out).trans (hb'.mono (HB.out).size))
  have B1 := Lib.hid ((B1.out).below hb' (B1.out).lt)
  have B4 := Lib.hid ((B4.out).below hb' (B4.out).lt)
  have B6 := Lib.hid ((B6.out).below hb' (B6.out).lt)
  clear hb'
  clear zB10 zB11 zB12 zB13
  clear zB40 zB41 zB42 zB43
  obtain ⟨zB10, zB11, zB12, zB13⟩ := (B1.out).cells4
  obtain ⟨zB40, zB41, zB42, zB43⟩ := (B4.out).cells4
  go_wp2_with fail
  clear zB10 zB11 zB12 zB13
  clear zB40 zB41 zB42 zB43
  refine (pbest_c ⟨16, 16, 2, 8⟩ _).mono ?_
  rintro e w15 ⟨rfl, hb'⟩
  have HB := Lib.hid ((HB.out).trans (hb'.mono (HB.out).size))
  have B1 := Lib.hid ((B1.out).below hb' (B1.out).lt)
  have B4 := Lib.hid ((B4.out).below hb' (B4.out).lt)
  have B6 := Lib.hid ((B6.out).below hb' (B6.out).lt)
  clear hb'
  rw [best_first]
  obtain ⟨zB10, zB11, zB12, zB13⟩ := (B1.out).cells4
  obtain ⟨zB40, zB41, zB42, zB43⟩ := (B4.out).cells4
  go_wp2_with fail
  clear zB10 zB11 zB12 zB13
  clear zB40 zB41 zB42 zB43
  refine (pother_c ⟨16, 16, 2, 8⟩ 9 _).mono ?_
  rintro e w16 ⟨rfl, hb'⟩
  have HB := Lib.hid ((HB.out).trans (hb'.mono (HB.out).size))
  have B1 := Lib.hid ((B1.out).below hb' (B1.out).lt)
  have B4 := Lib.hid ((B4.out).below hb' (B4.out).lt)
  have B6 := Lib.hid ((B6.out).below hb' (B6.out).lt)
  clear hb'
  rw [show othI ⟨16, 16, 2, 8⟩ 9 = 3 by decide]
  go_wp2_with fail
  go_ret
  exact ⟨rfl, HB.out⟩

end Go.Proofs.Ytgdlleoefncikaa
