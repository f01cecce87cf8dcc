/-
  The reference's 'Bytes' of two.
-/
import Derived.Test.YthjkhoblafmibaaDoorApp
import Derived.Deep.OwnRows
namespace Go.Proofs.YthjkhoblafmibaaDoor
open Go.RowKit
set_option linter.unusedVariables false

/-- Two bytes lie at block g. -/
structure Two (w : World) (g : Nat) (x y : Int) : Prop where
  c0 : w.cell? ⟨g, 0, none⟩ = some (.int .u8 x)
  c1 : w.cell? ⟨g, 1, none⟩ = some (.int .u8 y)
theorem Two.below {w w' : World} {b B : Nat} {x y : Int} (h : Two w b x y) (o : Below B w w') (hb : b < B) : Two w' b x y := ⟨(o.cell hb).trans h.c0, (o.cell hb).trans h.c1⟩

theorem make_two (w : World) : (Instr.makeSlice 22 (.int .i64 2) (.int .i64 2)).run Tryd.prog w = .ok (.slice (some ⟨w.heap.size, 0, none⟩) 2 2) (w.alloc (.cells #[.int .u8 0, .int .u8 0] 5)) :=
  by
  have h := run_make_row' (P := Tryd.prog) 22 5 (.int .u8 0) 1 Tryd.underlying22 info5 rfl .i64 .i64 2 (by omega) (by omega) w
  rw [show madeCells #[Value.int .u8 0] 2 = #[.int .u8 0, .int .u8 0] from by kernel_rfl] at h
  exact h

set_option maxHeartbeats 1000000 in
theorem bytes_two (x : Int) (w : World) (hx : 0 ≤ x ∧ x ≤ 65535) :
    Calls Tryd.prog 22 #[.int .u64 x, .int .i64 2] w fun e w' => ∃ g, e = .returned (.slice (some ⟨g, 0, none⟩) 2 2) ∧ w.heap.size ≤ g ∧ g < w'.heap.size ∧ Below w.heap.size w w' ∧ Two w' g (x / 256) (x % 256) := by
  have h1 : 0 ≤ x / 256 ∧ x / 256 ≤ 255 := by omega
  have h2 : 0 ≤ x % 256 ∧ x % 256 ≤ 255 := by omega
  have hmk := make_two
  go_enter Tryd.func22, Tryd.ntmps22
  go_wp2_with fail
  clear hmk
  have c0 : (w.alloc (.cells #[.int .u8 0, .int .u8 0] 5)).cell? ⟨w.heap.size, 0, none⟩ = some (.int .u8 0) := by simp
  have c1 : (w.alloc (.cells #[.int .u8 0, .int .u8 0] 5)).cell? ⟨w.heap.size, 1, none⟩ = some (.int .u8 0) := by simp
  have f0 : (w.alloc (.cells #[.int .u8 0, .int .u8 0] 5)).frozen? ⟨w.heap.size, 0, none⟩ = false := by simp
  have f1 : (w.alloc (.cells #[.int .u8 0, .int .u8 0] 5)).frozen? ⟨w.heap.size, 1, none⟩ = false := by simp
  have B0 : Below w.heap.size w (w.alloc (.cells #[.int .u8 0, .int .u8 0] 5)) := (Below.refl _ _).alloc (Nat.le_refl _) _
  have z0 : (w.alloc (.cells #[.int .u8 0, .int .u8 0] 5)).heap.size = w.heap.size + 1 := by simp
  obtain ⟨H, hH⟩ : ∃ H, H = w.heap.size := ⟨_, rfl⟩
  rw [← hH] at c0 c1 f0 f1 z0 ⊢
  have BH := B0
  clear B0
  have hgH : w.heap.size ≤ H := by omega
  have hH' := Lib.hid hH
  clear hH
  generalize w.alloc (.cells #[.int .u8 0, .int .u8 0] 5) = w1 at c0 c1 f0 f1 z0 BH ⊢
  go_loopw [0, 6] (fun xv iv wr => (iv = .int .i64 1 ∧ xv = .int .u64 x ∧ wr = w1) ∨ (iv = .int .i64 0 ∧ xv = .int .u64 (x / 256) ∧ wr = w1.setCell ⟨H, 1, none⟩ (.int .u8 (x % 256))) ∨ (iv = .int .i64 (-1) ∧ wr = (w1.setCell ⟨H, 1, none⟩ (.int .u8 (x % 256))).setCell ⟨H, 0, none⟩ (.int .u8 (x / 256)))) (fun _ iv _ => (intOf iv + 1).toNat)
  case atStart => exact .inl ⟨rfl, rfl, rfl⟩
  case round =>
    rcases hrel with ⟨rfl, rfl, rfl⟩ | ⟨rfl, rfl, rfl⟩ | ⟨rfl, rfl⟩
    · go_wp2_with fail
      exact ⟨.inr (.inl ⟨rfl, rfl, trivial⟩), by simp [intOf]⟩
    · go_wp2_with fail
      have e : x / 256 % 256 = x / 256 := by omega
      rw [e]
      exact ⟨.inr (.inr ⟨rfl, rfl⟩), by simp [intOf]⟩
    · go_wp2_with fail
      go_ret
      refine ⟨H, rfl, hgH, ?_, (BH.setCell (p := ⟨H, 1, none⟩) hgH _).setCell (p := ⟨H, 0, none⟩) hgH _, ?_⟩
      · simp [World.setCell]; omega
      · exact ⟨World.cell?_setCell_same _ _ _ ((World.cell?_setCell_other _ ⟨H, 1, none⟩ ⟨H, 0, none⟩ _ (by simp)).trans c0), (World.cell?_setCell_other _ ⟨H, 0, none⟩ ⟨H, 1, none⟩ _ (by simp)).trans (World.cell?_setCell_same _ _ _ c1)⟩
end Go.Proofs.YthjkhoblafmibaaDoor
