/-
  The walk of TallyNone.
-/
import Derived.Test.YthjkhoblafmibaaLazy
namespace Go.Proofs.Ythjkhoblafmibaa
open Go.RowKit
set_option linter.unusedVariables false

theorem spend_nil (n : Int) (w : World) : Calls Try.prog 11 #[.pointer none, .int .i64 n] w fun e w' => e = .returned (.int .i64 1) ∧ w = w' := by
  go_enter Try.func11, Try.ntmps11
  go_wp2
  go_ret
  exact ⟨rfl, rfl⟩
theorem count_nil (w : World) : Calls Try.prog 13 #[.pointer none] w fun e w' => e = .returned (.int .i64 0) ∧ w = w' := by
  go_enter Try.func13, Try.ntmps13
  go_wp2
  go_ret
  exact ⟨rfl, rfl⟩
theorem left_nil (w : World) : Calls Try.prog 14 #[.pointer none] w fun e w' => e = .returned (.int .i64 0) ∧ w = w' := by
  go_enter Try.func14, Try.ntmps14
  go_wp2
  go_ret
  exact ⟨rfl, rfl⟩
/-- 'Get' of a nil lazy string. -/
theorem get_nil (w : World) : Calls Try.prog 19 #[.pointer none] w fun e w' => e = .returned (.string ByteArray.empty) ∧ w.alloc (.cells #[.pointer none] 43) = w' := by
  go_enter Try.func19, Try.ntmps19
  go_wp2
  go_ret
  exact ⟨rfl, rfl⟩
theorem made_nil (w : World) : Calls Try.prog 20 #[.pointer none] w fun e w' => e = .returned (.bool false) ∧ w = w' := by
  go_enter Try.func20, Try.ntmps20
  go_wp2
  go_ret
  exact ⟨rfl, rfl⟩
/-- 'Later' of no way to make it. -/
theorem later_int (w : World) : Calls Try.prog 21 #[.nilFunc] w fun e w' => e = .returned (.pointer (some ⟨w.heap.size, 0, none⟩)) ∧ LazyAt w' w.heap.size 0 .nilFunc (.int .i64 0) 0 ∧ Below w.heap.size w w' ∧ w.heap.size < w'.heap.size := by
  go_enter Try.func21, Try.ntmps21
  go_wp2
  go_ret
  exact ⟨rfl, LazyAt.fresh w _ _ _, (Below.refl _ _).alloc (Nat.le_refl _) _, by simp⟩
/-- 'Made' of a lazy int. -/
theorem made_int (b : Nat) (d m : Int) (f x : Value) (w : World) (h : LazyAt w b d f x m) : Calls Try.prog 22 #[.pointer (some ⟨b, 0, none⟩)] w fun e w' => e = .returned (.bool (m != 0)) ∧ w = w' := by
  have HL := Lib.hid (load_bool ⟨b, 5, none⟩ m w h.made)
  clear h
  go_enter Try.func22, Try.ntmps22
  go_wp2_with fail
  refine HL.out.mono ?_
  rintro e w' ⟨rfl, rfl⟩
  go_wp2_with fail
  go_ret
  exact ⟨rfl, rfl⟩

set_option maxHeartbeats 400000 in
theorem none_any (n : Int) (w : World) : Calls Try.prog 7 #[.int .i64 n] w fun e w' => e = .returned (.bool true) ∧ Below w.heap.size w w' := by
  go_enter Try.func7, Try.ntmps7
  go_wp2_with fail
  refine (spend_nil n _).mono ?_
  rintro e w1 ⟨rfl, rfl⟩
  go_wp2_with fail
  refine (count_nil _).mono ?_
  rintro e w1 ⟨rfl, rfl⟩
  go_wp2_with fail
  refine (left_nil _).mono ?_
  rintro e w1 ⟨rfl, rfl⟩
  go_wp2_with fail
  refine (get_nil _).mono ?_
  rintro e w1 ⟨rfl, rfl⟩
  have B1 : Below w.heap.size w (w.alloc (.cells #[.pointer none] 43)) := (Below.refl _ _).alloc (Nat.le_refl _) _
  have z1 : w.heap.size < (w.alloc (.cells #[.pointer none] 43)).heap.size := by simp
  generalize w.alloc (.cells #[.pointer none] 43) = w1 at B1 z1 ⊢
  go_wp2_with fail
  refine (made_nil _).mono ?_
  rintro e w2 ⟨rfl, rfl⟩
  go_wp2_with fail
  refine (later_int _).mono ?_
  rintro e w2 ⟨rfl, L2, B2, z2⟩
  have B2' := B1.trans (B2.mono (by omega))
  go_wp2_with fail
  refine (alive_any _).mono ?_
  rintro e w3 ⟨rfl, B3⟩
  have L3 := L2.below B3 z2
  have B3' := B2'.trans (B3.mono (by omega))
  have z3 := B3.size
  go_wp2_with fail
  refine (made_int _ _ _ _ _ _ L3).mono ?_
  rintro e w4 ⟨rfl, rfl⟩
  go_wp2_with fail
  refine (get_none _ _ L3).mono ?_
  rintro e w4 ⟨rfl, L4, t4⟩
  have B4' := B3'.trans (t4.below (by omega) (fun k e => by omega))
  go_wp2_with fail
  refine (made_int _ _ _ _ _ _ L4).mono ?_
  rintro e w5 ⟨rfl, rfl⟩
  go_wp2_with fail
  go_ret
  exact ⟨rfl, B4'⟩
end Go.Proofs.Ythjkhoblafmibaa
