/- Two readers side by side: the code's and the document's. -/
import Derived.Test.YtoiofnmodinpcaaBitsF
import Derived.Test.YtoiofnmodinpcaaRef1c
namespace Go.Proofs.Ytoiofnmodinpcaa
open Go.RowKit
set_option linter.unusedVariables false
set_option linter.unusedSimpArgs false

section
variable {w w' W : World} {B B2 g gr gx gq : Nat} {bs : List Bool} {xs : List Int} {a o b q : Nat} {cs : Array Value}
theorem RrI.rgoes (h : RrI w B gx bs b q) (hr : RdI w B2 gr xs a o) (hg : RGoes w w' gr) : RrI w' B gx bs b q := by
  obtain ⟨rv, _, hb, _⟩ := hr
  exact ⟨h.1, Blk.grown h.2 hg (fun e => Blk.ne_ h.2 hb (by decide) (by injection e))⟩
theorem RdI.rgoes (h : RdI w B gr xs a o) (hx : RrI w B2 gx bs b q) (hg : RGoes w w' gx) : RdI w' B gr xs a o := by
  obtain ⟨rv, h1, h2, h3⟩ := h
  exact ⟨rv, h1, Blk.grown h2 hg (fun e => Blk.ne_ h2 hx.2 (by decide) (by injection e)), OwnB.grown h3 hg (.inr (own_blk_ne h3 hx.2 (by decide)))⟩
theorem RrI.below (h : RrI w B gx bs b q) (hg : RGoes w w' gx) (hB : B ≤ w.heap.size) : Below B w w' :=
  ⟨hg.os, hg.tape, hg.output, hg.size, fun k hk => hg.block k (by omega) (fun e => by have := h.1; injection e with e; omega)⟩
/-- A reader whose blocks lie from B on is kept by what touches block k below B. -/
theorem RdI.far {k : Nat} (h : RdI w B gr xs a o) (hg : RGoes w w' k) (hk : k < B) : RdI w' B gr xs a o := by
  obtain ⟨rv, h1, h2, h3⟩ := h
  exact ⟨rv, h1, Blk.grown h2 hg (fun e => by injection e with e; omega), OwnB.grown h3 hg (.inr (fun e => by have := (h3.blk_lt _ e).1; omega))⟩
/-- Where the readers stand: r at a, o; x at b, q; block gq is a step of the script. -/
def St (W w : World) (gr gx gq : Nat) (cs : Array Value) (xs : List Int) (a o b q : Nat) : Prop :=
  RdI w W.heap.size gr xs a o ∧ RrI w W.heap.size gx (unp xs) b q ∧ Below W.heap.size W w ∧ Blk w gq 30 cs
theorem St.r {a2 o2 : Nat} (h : St W w gr gx gq cs xs a o b q) (hr : RdI w' W.heap.size gr xs a2 o2) (hg : RGoes w w' gr) : St W w' gr gx gq cs xs a2 o2 b q := by
  obtain ⟨h1, h2, h3, h4⟩ := h
  refine ⟨hr, h2.rgoes h1 hg, h3.trans (hg.below h1 h3.size), ?_⟩
  obtain ⟨rv, _, hb, _⟩ := h1
  exact Blk.grown h4 hg (fun e => Blk.ne_ h4 hb (by decide) (by injection e))
theorem St.x {b2 q2 : Nat} (h : St W w gr gx gq cs xs a o b q) (hr : RrI w' W.heap.size gx (unp xs) b2 q2) (hg : RGoes w w' gx) : St W w' gr gx gq cs xs a o b2 q2 := by
  obtain ⟨h1, h2, h3, h4⟩ := h
  exact ⟨h1.rgoes h2 hg, hr, h3.trans (h2.below hg h3.size), Blk.grown h4 hg (fun e => Blk.ne_ h4 h2.2 (by decide) (by injection e))⟩
theorem St.drew (h : St W w gr gx gq cs xs a o b q) (k : Nat) : St W (w.drewN k) gr gx gq cs xs a o b q := ⟨h.1, h.2.1, below_drewN h.2.2.1 k, h.2.2.2⟩
theorem St.drew1 (h : St W w gr gx gq cs xs a o b q) : St W w.drew gr gx gq cs xs a o b q := ⟨h.1, h.2.1, Below.drew h.2.2.1, h.2.2.2⟩
theorem st_bitr (h : St W w gr gx gq cs xs a o b q) (h8 : Byte8 xs) (hl : xs.length ≤ 1000000) (ha : a ≤ 10000000) (ho : o ≤ 10000000) :
    Calls Try.prog 17 #[.pointer (some ⟨gr, 0, none⟩)] w fun e w' => e = .returned (.bool (nextL (unp xs) a)) ∧ St W w' gr gx gq cs xs (a + 1) (overL (unp xs) a o) b q :=
  (rbit_c _ gr xs a o w h.1 h8 hl (by omega) (by omega)).mono fun _ _ ⟨e1, e2, e3⟩ => ⟨e1, h.r e2 e3⟩
theorem st_bitx (h : St W w gr gx gq cs xs a o b q) (hl : xs.length ≤ 1000000) (ha : b ≤ 10000000) (ho : q ≤ 10000000) :
    Calls Try.prog 18 #[.pointer (some ⟨gx, 0, none⟩)] w fun e w' => e = .returned (.int .i64 (if nextL (unp xs) b then 1 else 0)) ∧ St W w' gr gx gq cs xs a o (b + 1) (overL (unp xs) b q) :=
  (rrbit_c _ gx (unp xs) b q w h.2.1 (by rw [unp_length]; omega) (by omega) (by omega)).mono fun _ _ ⟨e1, e2, e3⟩ => ⟨e1, h.x e2 e3⟩
theorem st_getr (n : Int) (h : St W w gr gx gq cs xs a o b q) (h8 : Byte8 xs) (hl : xs.length ≤ 1000000) (ha : a ≤ 1000000) (ho : o ≤ 1000000) :
    Calls Try.prog 19 #[.pointer (some ⟨gr, 0, none⟩), .int .i64 n] w fun e w' => e = .returned (.int .u64 (valL (unp xs) a (clampN n))) ∧ St W w' gr gx gq cs xs (a + clampN n) (ovL (unp xs) a o (clampN n)) b q :=
  (rget_c _ gr xs a o n w h.1 h8 hl (by omega) (by omega)).mono fun _ _ ⟨e1, e2, e3⟩ => ⟨e1, h.r e2 e3⟩
theorem st_getx (n : Int) (h : St W w gr gx gq cs xs a o b q) (hl : xs.length ≤ 1000000) (ha : b ≤ 1000000) (ho : q ≤ 1000000) :
    Calls Try.prog 20 #[.pointer (some ⟨gx, 0, none⟩), .int .i64 n] w fun e w' => e = .returned (.int .u64 (valL (unp xs) b (clampN n))) ∧ St W w' gr gx gq cs xs a o (b + clampN n) (ovL (unp xs) b q (clampN n)) :=
  (rrget_c _ gx (unp xs) b q n w h.2.1 (by rw [unp_length]; omega) (by omega) (by omega)).mono fun _ _ ⟨e1, e2, e3⟩ => ⟨e1, h.x e2 e3⟩
theorem st_alignr (h : St W w gr gx gq cs xs a o b q) (ha : a ≤ 1000000) :
    Calls Try.prog 21 #[.pointer (some ⟨gr, 0, none⟩)] w fun e w' => e = .returned (.tuple #[]) ∧ St W w' gr gx gq cs xs ((a + 7) / 8 * 8) o b q :=
  (ralign_c _ gr xs a o w h.1 (by omega)).mono fun _ _ ⟨e1, e2, e3⟩ => ⟨e1, h.r e2 e3⟩
theorem st_alignx (h : St W w gr gx gq cs xs a o b q) (ha : b ≤ 1000000) :
    Calls Try.prog 22 #[.pointer (some ⟨gx, 0, none⟩)] w fun e w' => e = .returned (.tuple #[]) ∧ St W w' gr gx gq cs xs a o ((b + 7) / 8 * 8) q :=
  (rralign_c _ gx (unp xs) b q w h.2.1 (by omega)).mono fun _ _ ⟨e1, e2, e3⟩ => ⟨e1, h.x e2 e3⟩
theorem st_at (h : St W w gr gx gq cs xs a o b q) :
    Calls Try.prog 23 #[.pointer (some ⟨gr, 0, none⟩)] w fun e w' => e = .returned (.int .i64 a) ∧ w = w' := rat_c _ gr xs a o w h.1
theorem st_over (h : St W w gr gx gq cs xs a o b q) :
    Calls Try.prog 26 #[.pointer (some ⟨gr, 0, none⟩)] w fun e w' => e = .returned (.int .i64 o) ∧ w = w' := rover_c _ gr xs a o w h.1
theorem st_left (h : St W w gr gx gq cs xs a o b q) (hl : xs.length ≤ 1000000) (ha : a ≤ 10000000) :
    Calls Try.prog 24 #[.pointer (some ⟨gr, 0, none⟩)] w fun e w' => e = .returned (.int .i64 ((8 * xs.length - a : Nat) : Int)) ∧ St W w' gr gx gq cs xs a o b q :=
  (rleft_c _ gr xs a o w h.1 hl (by omega)).mono fun _ _ ⟨e1, k, e2⟩ => ⟨e1, by rw [e2]; exact h.drew k⟩
theorem st_leftx (h : St W w gr gx gq cs xs a o b q) (hl : xs.length ≤ 1000000) (ha : b ≤ 10000000) :
    Calls Try.prog 25 #[.pointer (some ⟨gx, 0, none⟩)] w fun e w' => e = .returned (.int .i64 ((8 * xs.length - b : Nat) : Int)) ∧ St W w' gr gx gq cs xs a o b q :=
  (rrleft_c _ gx (unp xs) b q w h.2.1 (by rw [unp_length]; omega) (by omega)).mono fun _ _ ⟨e1, k, e2⟩ => ⟨by rw [e1, unp_length], by rw [e2]; exact h.drew k⟩
theorem St.cx (h : St W w gr gx gq cs xs a o b q) : w.cell? ⟨gx, 1, none⟩ = some (.int .i64 b) ∧ w.cell? ⟨gx, 2, none⟩ = some (.int .i64 q) := by
  have h1 := h.2.1.2.cell 1
  have h2 := h.2.1.2.cell 2
  exact ⟨by simpa using h1, by simpa using h2⟩
end

end Go.Proofs.Ytoiofnmodinpcaa
