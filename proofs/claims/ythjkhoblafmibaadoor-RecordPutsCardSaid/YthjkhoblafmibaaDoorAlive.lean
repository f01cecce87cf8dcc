/-
  The statements' common example 'alive' answers true.
-/
import Derived.Test.YthjkhoblafmibaaDoorHead
import Derived.Laws.StructEq
namespace Go.Proofs.YthjkhoblafmibaaDoor
open Go.RowKit
set_option linter.unusedVariables false

/-- A slice of five bytes, made on the spot. -/
theorem five_made (w : World) (x0 x1 x2 x3 x4 : Int) : Five (w.alloc (.cells #[.int .u8 x0, .int .u8 x1, .int .u8 x2, .int .u8 x3, .int .u8 x4] 5)) w.heap.size 0 x0 x1 x2 x3 x4 :=
  ⟨by simp, by simp, by simp, by simp, by simp⟩

/-- 'Head' of such a slice, in the world in which it was just made. -/
theorem head_made (x0 x1 x2 x3 x4 : Int) (w : World) (H : Nat) (hH : w.heap.size = H) (L : Lim w) (X : Bytes5 x0 x1 x2 x3 x4) :
    Calls Tryd.prog 7 #[.slice (some ⟨H, 0, none⟩) 5 5] (w.alloc (.cells #[.int .u8 x0, .int .u8 x1, .int .u8 x2, .int .u8 x3, .int .u8 x4] 5)) fun e w' =>
      e = .returned (.tuple #[headRec x0 x1 x2 x3 x4, .int .i64 (headAt x0 x3 x4), .int .i64 (headErr x0 x3 x4)]) ∧ Below H w w' ∧ H < w'.heap.size ∧ Lim w' := by
  subst hH
  have B0 : Below w.heap.size w (w.alloc (.cells #[.int .u8 x0, .int .u8 x1, .int .u8 x2, .int .u8 x3, .int .u8 x4] 5)) := (Below.refl _ _).alloc (Nat.le_refl _) _
  have z0 : (w.alloc (.cells #[.int .u8 x0, .int .u8 x1, .int .u8 x2, .int .u8 x3, .int .u8 x4] 5)).heap.size = w.heap.size + 1 := by simp
  have L0 := L.below B0 L.lt
  refine (head_five w.heap.size 0 5 5 x0 x1 x2 x3 x4 _ L0 (Nat.le_refl _) (Nat.le_refl _) (by omega) (five_made w x0 x1 x2 x3 x4) X).mono ?_
  rintro e w' ⟨rfl, B1⟩
  have hl := L.lt
  exact ⟨rfl, B0.trans (B1.mono (by omega)), by have := B1.size; omega, L0.below B1 (by omega)⟩

theorem lim_alloc (w : World) (o : Obj) (L : Lim w) : Lim (w.alloc o) := L.below ((Below.refl _ _).alloc (Nat.le_refl _) o) L.lt

set_option maxHeartbeats 1000000 in
theorem alive_any (w : World) (L : Lim w) : Calls Tryd.prog 9 #[] w fun e w' => e = .returned (.bool true) ∧ Below w.heap.size w w' := by
  have HL := L.lt
  go_enter Tryd.func9, Tryd.ntmps9
  go_wp2_with fail
  refine (head_made 22 3 3 0 0 w _ rfl L ⟨by omega, by omega, by omega, by omega, by omega⟩).mono ?_
  rintro e w1 ⟨rfl, B1, z1, L1⟩
  have a1 : headRec 22 3 3 0 0 = recV 0 0 0 := rfl
  have a2 : headAt 22 0 0 = 3 := rfl
  have a3 : headErr 22 0 0 = 9 := rfl
  rw [a1, a2, a3]
  clear a1 a2 a3
  go_wp2_with fail
  have B1' : Below w.heap.size w (w1.alloc (.cells #[.int .i64 0, .int .i64 0, .int .i64 0] 24)) := B1.alloc (by omega) _
  refine (head_made 22 3 3 64 1 (w1.alloc (.cells #[.int .i64 0, .int .i64 0, .int .i64 0] 24)) _ (by simp) (lim_alloc _ _ L1) ⟨by omega, by omega, by omega, by omega, by omega⟩).mono ?_
  rintro e w2 ⟨rfl, B2, z2, L2⟩
  have a1 : headRec 22 3 3 64 1 = recV 0 0 0 := rfl
  have a2 : headAt 22 64 1 = 3 := rfl
  have a3 : headErr 22 64 1 = 11 := rfl
  rw [a1, a2, a3]
  clear a1 a2 a3
  have B2' := B1'.trans (B2.mono (by omega))
  clear B1 B1' B2
  go_wp2_with fail
  have B2'' : Below w.heap.size w (w2.alloc (.cells #[.int .i64 0, .int .i64 0, .int .i64 0] 24)) := B2'.alloc (by omega) _
  refine (head_made 21 3 3 0 1 (w2.alloc (.cells #[.int .i64 0, .int .i64 0, .int .i64 0] 24)) _ (by simp) (lim_alloc _ _ L2) ⟨by omega, by omega, by omega, by omega, by omega⟩).mono ?_
  rintro e w3 ⟨rfl, B3, z3, L3⟩
  have a1 : headRec 21 3 3 0 1 = recV 0 0 0 := rfl
  have a2 : headAt 21 0 1 = 3 := rfl
  have a3 : headErr 21 0 1 = 5 := rfl
  rw [a1, a2, a3]
  clear a1 a2 a3
  have B3' := B2''.trans (B3.mono (by omega))
  clear B2' B2'' B3
  go_wp2_with fail
  have B3'' : Below w.heap.size w (w3.alloc (.cells #[.int .i64 0, .int .i64 0, .int .i64 0] 24)) := B3'.alloc (by omega) _
  refine (head_made 23 3 3 0 0 (w3.alloc (.cells #[.int .i64 0, .int .i64 0, .int .i64 0] 24)) _ (by simp) (lim_alloc _ _ L3) ⟨by omega, by omega, by omega, by omega, by omega⟩).mono ?_
  rintro e w4 ⟨rfl, B4, z4, L4⟩
  have a1 : headRec 23 3 3 0 0 = recV 23 771 0 := rfl
  have a2 : headAt 23 0 0 = 5 := rfl
  have a3 : headErr 23 0 0 = 0 := rfl
  rw [a1, a2, a3]
  clear a1 a2 a3
  have B4' := B3''.trans (B4.mono (by omega))
  clear B3' B3'' B4
  go_wp2_with fail
  go_ret
  exact ⟨rfl, B4'.alloc (by omega) _⟩
end Go.Proofs.YthjkhoblafmibaaDoor
