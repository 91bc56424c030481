/- What first of the laws of layer 2 answers: true. -/
import Derived.Test.YtlhpaompaigkpaaGol4
namespace Go.Proofs.Ytlhpaompaigkpaa
open Go.RowKit
set_option linter.unusedVariables false
set_option linter.unusedSimpArgs false

section
variable {w w' W : World} {B B2 g gr gx gq : Nat} {bs : List Bool} {xs : List Int} {a o b q : Nat} {cs : Array Value}
theorem RrI.rgoes (h : RrI w B gx bs b q) (hr : RdI w B2 gr xs a o) (hg : RGoes w w' gr) : RrI w' B gx bs b q := by
  obtain ⟨rv, _, hb, _⟩ := hr
  exact ⟨h.1, Blk.grown h.2 hg (fun e => Blk.ne_ h.2 hb (by decide) (by injection e))⟩
theorem RdI.rgoes (h : RdI w B gr xs a o) (hx : RrI w B2 gx bs b q) (hg : RGoes w w' gx) : RdI w' B gr xs a o := by
  obtain ⟨rv, h1, h2, h3⟩ := h
  exact ⟨rv, h1, Blk.grown h2 hg (fun e => Blk.ne_ h2 hx.2 (by decide) (by injection e)), OwnB.grown h3 hg (.inr (own_blk_ne h3 hx.2 (by decide)))⟩
theorem RrI.below (h : RrI w B gx bs b q) (hg : RGoes w w' gx) (hB : B ≤ w.heap.size) : Below B w w' :=
  ⟨hg.os, hg.tape, hg.output, hg.size, fun k hk => hg.block k (by omega) (fun e => by have := h.1; injection e with e; omega)⟩
end
theorem bits_first : [] ++ codeB 3 ++ signB (-1) = [false, false, false, false, true, false, false, true, true] := by decide +kernel
theorem goG_first : goG (unp [9, 128]) 0 1 31 = (3, true, 5) := by decide +kernel
theorem goS_first : goS (unp [9, 128]) 5 = (-1, true, 9) := by decide +kernel

set_option maxRecDepth 100000 in
set_option maxHeartbeats 6400000 in
theorem first_c (w : World) :
    Calls Try.prog 6 #[] w fun e w' => e = .returned (.bool true) ∧ Below w.heap.size w w' := by
  go_enter Try.func6, Try.ntmps6
  go_wp2_with fail
  refine (gput_c w.heap.size w.heap.size [] 3 _ _ (WrI.new w (Nat.le_refl _)) (by simp) (by simp)).mono ?_
  rintro e w1 ⟨rfl, hgo⟩
  rw [show rightV 3 = true by decide]
  obtain ⟨b1, hw1⟩ := hgo.wr
  have Hb1 := Lib.hid (((Below.refl w.heap.size w).alloc (Nat.le_refl _) _).trans (hgo.below (WrI.new w (Nat.le_refl _)) (by simp)))
  have Hw1 := Lib.hid hw1
  clear hgo hw1
  go_wp2_with fail
  refine (gputs_c w.heap.size w.heap.size _ (-1) _ _ Hw1.out (by decide +kernel) Hb1.out.size (by omega) (by omega)).mono ?_
  rintro e w2 ⟨rfl, hgo⟩
  rw [show rightV (magV (-1)) = true by decide]
  obtain ⟨b2, hw2⟩ := hgo.wr
  have Hb2 := Lib.hid (Hb1.out.trans (hgo.below Hw1.out Hb1.out.size))
  rw [bits_first] at hw2
  have Hw2 := Lib.hid hw2
  clear hgo hw2 Hb1 Hw1
  go_wp2_with fail
  have hrl := readsLitB w2 [9, 128] 5 rfl (by decide)
  refine (new_c _ _ [9, 128] _ hrl (by decide)).mono ?_
  rintro e w3 ⟨gr, rfl, hr3, hb3⟩
  have Hb3 := Lib.hid ((Hb2.out.alloc Hb2.out.size _).trans (hb3.mono (by have := Hb2.out.size; simp; omega)))
  have Hw3 := Lib.hid ((Hw2.out.kept ((Below.refl _ _).alloc (Nat.le_refl _) _)).kept hb3)
  have Hr3 := Lib.hid (hr3.lower (B2 := w.heap.size) (by have := Hb2.out.size; simp; omega))
  clear hrl hr3 hb3 Hb2 Hw2
  have H8 := Lib.hid (show Byte8 [9, 128] from byte8_of (by simp))
  go_wp2_with fail
  refine (gget_c _ _ _ _ _ _ Hr3.out H8.out (by decide) (by omega) (by omega)).mono ?_
  rintro e w4 ⟨rfl, hr4, hg4⟩
  rw [goG_first] at hr4 ⊢
  have Hb4 := Lib.hid (Hb3.out.trans (hg4.below Hr3.out Hb3.out.size))
  have Hw4 := Lib.hid (Hw3.out.rgoes Hr3.out hg4)
  have Hr4 := Lib.hid (show RdI w4 w.heap.size gr [9, 128] 5 0 from hr4)
  clear hr4 hg4 Hb3 Hw3 Hr3
  go_wp2_with fail
  refine (ggets_c _ _ _ _ _ _ Hr4.out H8.out (by decide) (by omega) (by omega)).mono ?_
  rintro e w5 ⟨rfl, hr5, hg5⟩
  rw [goS_first] at hr5 ⊢
  have Hb5 := Lib.hid (Hb4.out.trans (hg5.below Hr4.out Hb4.out.size))
  have Hw5 := Lib.hid (Hw4.out.rgoes Hr4.out hg5)
  clear hr5 hg5 Hb4 Hw4 Hr4
  go_wp2_with fail
  refine (wbytes_c _ _ _ _ _ Hw5.out (by decide)).mono ?_
  rintro e w7 ⟨v7, rfl, ho7, hb7⟩
  have Hb7 := Lib.hid (Hb5.out.trans (hb7.mono Hb5.out.size))
  have Hw7 := Lib.hid (Hw5.out.kept hb7)
  rw [show packZ [false, false, false, false, true, false, false, true, true] = [9, 128] by decide +kernel] at ho7
  obtain ⟨A7, c7, rfl, hrd7⟩ := ho7.slice
  have hconv : (convert 24 9 (.slice A7 2 c7)).run Try.prog w7 = .ok (.string ⟨#[9, 128]⟩) w7 := conv_str 24 9 Try.underlying24 Try.underlying9 A7 c7 [9, 128] w7 hrd7 (byte8_of (by simp))
  clear ho7 hb7 hrd7 Hb5 Hw5
  go_wp2_with fail
  refine (wlen_c _ _ _ _ _ Hw7.out).mono ?_
  rintro e w' ⟨rfl, rfl⟩
  simp only [List.length_cons, List.length_nil]
  clear hconv
  go_wp2_with fail
  refine (gput_c w.heap.size w.heap.size _ (-1) _ _ Hw7.out (by decide) Hb7.out.size).mono ?_
  rintro e w8 ⟨rfl, hgo⟩
  rw [show rightV (-1) = false by decide]
  have Hb8 := Lib.hid (Hb7.out.trans (hgo.below Hw7.out Hb7.out.size))
  clear hgo Hb7 Hw7
  go_wp2_with fail
  refine (gsize_c 3 _).mono ?_
  rintro e w' ⟨rfl, rfl⟩
  rw [show (codeB 3).length = 5 by decide +kernel]
  go_wp2_with fail
  refine (gsizes_c (-1) _ (by omega) (by omega)).mono ?_
  rintro e w' ⟨rfl, rfl⟩
  rw [show (signB (-1)).length = 4 by decide +kernel]
  go_wp2_with fail
  go_ret
  exact ⟨ret_bool (by simp), Hb8.out⟩

end Go.Proofs.Ytlhpaompaigkpaa
