/-
  The limits of records: the program's table, the reference's switch, and what is wrong with a length.
-/
import Derived.Test.YthjkhoblafmibaaDoorRows
import Derived.WalkKit
import Derived.WalkSpells
import Derived.WalkLawsBesides
import Derived.Below
import Derived.WalkSmall
import Derived.Laws.Rows
import Derived.Deep.QuietTactic
import Derived.BigQuiet
import Derived.Lib.Hide
namespace Go.Proofs.YthjkhoblafmibaaDoor
open Go.RowKit
set_option linter.unusedVariables false

/-- The program's table lies as it was laid. -/
structure Lim (w : World) : Prop where
  c0 : w.cell? ⟨0, 0, none⟩ = some (.int .i64 1)
  c1 : w.cell? ⟨0, 1, none⟩ = some (.int .i64 1)
  c2 : w.cell? ⟨0, 2, none⟩ = some (.int .i64 2)
  c3 : w.cell? ⟨0, 3, none⟩ = some (.int .i64 2)
  c4 : w.cell? ⟨0, 4, none⟩ = some (.int .i64 1)
  c5 : w.cell? ⟨0, 5, none⟩ = some (.int .i64 16384)
  c6 : w.cell? ⟨0, 6, none⟩ = some (.int .i64 0)
  c7 : w.cell? ⟨0, 7, none⟩ = some (.int .i64 16640)
theorem Lim.lt {w : World} (h : Lim w) : 0 < w.heap.size := World.block_lt_of_cell? w ⟨0, 0, none⟩ h.c0
theorem Lim.below {B : Nat} {w w' : World} (h : Lim w) (o : Below B w w') (hB : 0 < B) : Lim w' :=
  ⟨(o.cell hB).trans h.c0, (o.cell hB).trans h.c1, (o.cell hB).trans h.c2, (o.cell hB).trans h.c3, (o.cell hB).trans h.c4, (o.cell hB).trans h.c5, (o.cell hB).trans h.c6, (o.cell hB).trans h.c7⟩

def limLo (k : Int) : Int := if k = 20 then 1 else if k = 21 then 2 else if k = 22 then 1 else 0
def limHi (k : Int) : Int := if k = 20 then 1 else if k = 21 then 2 else if k = 22 then 16384 else if k = 23 then 16640 else 0
def limOk (k : Int) : Bool := decide (20 ≤ k) && decide (k ≤ 23)

theorem limits_no (k : Int) (w : World) (h : k < 20 ∨ 23 < k) : Calls Tryd.prog 10 #[.int .i64 k] w fun e w' => e = .returned (.tuple #[.int .i64 0, .int .i64 0, .bool false]) ∧ w = w' := by
  rcases h with h | h
  · go_enter Tryd.func10, Tryd.ntmps10
    go_wp2
    go_ret3
    exact ⟨rfl, rfl⟩
  · have h' : ¬ k < 20 := by omega
    go_enter Tryd.func10, Tryd.ntmps10
    go_wp2
    go_ret3
    exact ⟨rfl, rfl⟩

theorem limits_20 (w : World) (L : Lim w) : Calls Tryd.prog 10 #[.int .i64 20] w fun e w' => e = .returned (.tuple #[.int .i64 1, .int .i64 1, .bool true]) ∧ Below w.heap.size w w' := by
  have h0 := L.c0
  have h1 := L.c1
  go_enter Tryd.func10, Tryd.ntmps10
  go_wp2_with fail
  go_quiet (fail)
  go_wp2
  go_ret3
  exact ⟨rfl, below_drewN ((Below.refl _ _).alloc (Nat.le_refl _) _) _⟩

theorem limits_21 (w : World) (L : Lim w) : Calls Tryd.prog 10 #[.int .i64 21] w fun e w' => e = .returned (.tuple #[.int .i64 2, .int .i64 2, .bool true]) ∧ Below w.heap.size w w' := by
  have h0 := L.c2
  have h1 := L.c3
  go_enter Tryd.func10, Tryd.ntmps10
  go_wp2_with fail
  go_quiet (fail)
  go_wp2
  go_ret3
  exact ⟨rfl, below_drewN ((Below.refl _ _).alloc (Nat.le_refl _) _) _⟩

theorem limits_22 (w : World) (L : Lim w) : Calls Tryd.prog 10 #[.int .i64 22] w fun e w' => e = .returned (.tuple #[.int .i64 1, .int .i64 16384, .bool true]) ∧ Below w.heap.size w w' := by
  have h0 := L.c4
  have h1 := L.c5
  go_enter Tryd.func10, Tryd.ntmps10
  go_wp2_with fail
  go_quiet (fail)
  go_wp2
  go_ret3
  exact ⟨rfl, below_drewN ((Below.refl _ _).alloc (Nat.le_refl _) _) _⟩

theorem limits_23 (w : World) (L : Lim w) : Calls Tryd.prog 10 #[.int .i64 23] w fun e w' => e = .returned (.tuple #[.int .i64 0, .int .i64 16640, .bool true]) ∧ Below w.heap.size w w' := by
  have h0 := L.c6
  have h1 := L.c7
  go_enter Tryd.func10, Tryd.ntmps10
  go_wp2_with fail
  go_quiet (fail)
  go_wp2
  go_ret3
  exact ⟨rfl, below_drewN ((Below.refl _ _).alloc (Nat.le_refl _) _) _⟩

/-- 'Limits', of any number. -/
theorem limits_any (k : Int) (w : World) (L : Lim w) : Calls Tryd.prog 10 #[.int .i64 k] w fun e w' => e = .returned (.tuple #[.int .i64 (limLo k), .int .i64 (limHi k), .bool (limOk k)]) ∧ Below w.heap.size w w' := by
  by_cases h : k < 20 ∨ 23 < k
  · have e1 : limLo k = 0 := by unfold limLo; rw [if_neg (by omega), if_neg (by omega), if_neg (by omega)]
    have e2 : limHi k = 0 := by unfold limHi; rw [if_neg (by omega), if_neg (by omega), if_neg (by omega), if_neg (by omega)]
    have e3 : limOk k = false := by unfold limOk; simp; omega
    rw [e1, e2, e3]
    exact (limits_no k w h).mono fun _ _ ⟨he, hw⟩ => by subst hw; exact ⟨he, Below.refl _ _⟩
  · have hk : k = 20 ∨ k = 21 ∨ k = 22 ∨ k = 23 := by omega
    rcases hk with rfl | rfl | rfl | rfl
    · exact limits_20 w L
    · exact limits_21 w L
    · exact limits_22 w L
    · exact limits_23 w L

/-- The reference's 'Limits'. -/
theorem ref_limits (k : Int) (w : World) : Calls Tryd.prog 14 #[.int .i64 k] w fun e w' => e = .returned (.tuple #[.int .i64 (limLo k), .int .i64 (limHi k), .bool (limOk k)]) ∧ w = w' := by
  by_cases h : k < 20 ∨ 23 < k
  · have e1 : limLo k = 0 := by unfold limLo; rw [if_neg (by omega), if_neg (by omega), if_neg (by omega)]
    have e2 : limHi k = 0 := by unfold limHi; rw [if_neg (by omega), if_neg (by omega), if_neg (by omega), if_neg (by omega)]
    have e3 : limOk k = false := by unfold limOk; simp; omega
    rw [e1, e2, e3]
    clear e1 e2 e3
    have b0 : (k == 20) = false := by simp; omega
    have b1 : (k == 21) = false := by simp; omega
    have b2 : (k == 22) = false := by simp; omega
    have b3 : (k == 23) = false := by simp; omega
    clear h
    go_enter Tryd.func14, Tryd.ntmps14
    go_wp2
    go_ret3
    exact ⟨rfl, rfl⟩
  · have hk : k = 20 ∨ k = 21 ∨ k = 22 ∨ k = 23 := by omega
    rcases hk with rfl | rfl | rfl | rfl
    all_goals
      go_enter Tryd.func14, Tryd.ntmps14
      go_wp2
      go_ret3
      exact ⟨rfl, rfl⟩

/-- What is wrong with a length, of a type with such limits. -/
def lenErr (lo hi n : Int) : Int := if hi < n then 11 else if lo ≤ n then 0 else if n = 0 then 9 else 5

theorem ref_length (k n : Int) (w : World) : Calls Tryd.prog 21 #[.int .i64 k, .int .i64 n] w fun e w' => e = .returned (.int .i64 (lenErr (limLo k) (limHi k) n)) ∧ w = w' := by
  have HL := Lib.hid (ref_limits k w)
  have h0 : 0 ≤ limLo k := by unfold limLo; split <;> (try omega) <;> split <;> (try omega) <;> split <;> omega
  generalize limLo k = lo at HL h0 ⊢
  generalize limHi k = hi at HL ⊢
  by_cases h1 : hi < n
  · have e : lenErr lo hi n = 11 := by unfold lenErr; rw [if_pos h1]
    rw [e]; clear e
    go_enter Tryd.func21, Tryd.ntmps21
    go_wp2_with fail
    refine HL.out.mono ?_
    rintro e w' ⟨rfl, rfl⟩
    go_wp2_with fail
    go_ret
    exact ⟨rfl, rfl⟩
  · by_cases h2 : lo ≤ n
    · have e : lenErr lo hi n = 0 := by unfold lenErr; rw [if_neg h1, if_pos h2]
      rw [e]; clear e
      by_cases h3 : n = 0
      · have h4 : lo = 0 := by omega
        subst h3 h4
        go_enter Tryd.func21, Tryd.ntmps21
        go_wp2_with fail
        refine HL.out.mono ?_
        rintro e w' ⟨rfl, rfl⟩
        go_wp2_with fail
        go_ret
        exact ⟨rfl, rfl⟩
      · have b : (n == 0) = false := by simp [h3]
        go_enter Tryd.func21, Tryd.ntmps21
        go_wp2_with fail
        refine HL.out.mono ?_
        rintro e w' ⟨rfl, rfl⟩
        go_wp2_with fail
        go_ret
        exact ⟨rfl, rfl⟩
    · by_cases h3 : n = 0
      · have e : lenErr lo hi n = 9 := by unfold lenErr; rw [if_neg h1, if_neg h2, if_pos h3]
        rw [e]; clear e
        subst h3
        have h4 : 0 < lo := by omega
        go_enter Tryd.func21, Tryd.ntmps21
        go_wp2_with fail
        refine HL.out.mono ?_
        rintro e w' ⟨rfl, rfl⟩
        go_wp2_with fail
        go_ret
        exact ⟨rfl, rfl⟩
      · have e : lenErr lo hi n = 5 := by unfold lenErr; rw [if_neg h1, if_neg h2, if_neg h3]
        rw [e]; clear e
        have b : (n == 0) = false := by simp [h3]
        have h4 : n < lo := by omega
        go_enter Tryd.func21, Tryd.ntmps21
        go_wp2_with fail
        refine HL.out.mono ?_
        rintro e w' ⟨rfl, rfl⟩
        go_wp2_with fail
        go_ret
        exact ⟨rfl, rfl⟩

/-- 'check', of any record. -/
theorem check_any (k v n : Int) (w : World) (L : Lim w) : Calls Tryd.prog 19 #[.agg #[.int .i64 k, .int .i64 v, .int .i64 n]] w fun e w' => e = .returned (.int .i64 (lenErr (limLo k) (limHi k) n)) ∧ Below w.heap.size w w' := by
  have B0 : Below w.heap.size w (w.alloc (.cells #[.int .i64 k, .int .i64 v, .int .i64 n] 24)) := (Below.refl _ _).alloc (Nat.le_refl _) _
  have z0 : w.heap.size < (w.alloc (.cells #[.int .i64 k, .int .i64 v, .int .i64 n] 24)).heap.size := by simp
  have k0 : (w.alloc (.cells #[.int .i64 k, .int .i64 v, .int .i64 n] 24)).cell? ⟨w.heap.size, 2, none⟩ = some (.int .i64 n) := by simp
  have HL := Lib.hid (limits_any k (w.alloc (.cells #[.int .i64 k, .int .i64 v, .int .i64 n] 24)) (L.below B0 L.lt))
  generalize limLo k = lo at HL ⊢
  generalize limHi k = hi at HL ⊢
  go_enter Tryd.func19, Tryd.ntmps19
  go_wp2_with fail
  refine HL.out.mono ?_
  rintro e w' ⟨rfl, B1⟩
  have k1 := (B1.cell (p := ⟨w.heap.size, 2, none⟩) z0).trans k0
  have B2 := B0.trans (B1.mono (by omega))
  clear k0 B1 B0 z0 HL
  by_cases h1 : hi < n
  · have e : lenErr lo hi n = 11 := by unfold lenErr; rw [if_pos h1]
    have E := Lib.hid e; clear e
    go_wp2_with fail
    go_ret
    exact ⟨by rw [E.out]; rfl, B2⟩
  · by_cases h2 : lo ≤ n
    · have e : lenErr lo hi n = 0 := by unfold lenErr; rw [if_neg h1, if_pos h2]
      have E := Lib.hid e; clear e
      go_wp2_with fail
      go_ret
      exact ⟨by rw [E.out]; rfl, B2⟩
    · have h4 : n < lo := by omega
      by_cases h3 : n = 0
      · have e : lenErr lo hi n = 9 := by unfold lenErr; rw [if_neg h1, if_neg h2, if_pos h3]
        have E := Lib.hid e; clear e
        have b : (n == 0) = true := by simp [h3]
        clear h3
        go_wp2_with fail
        go_ret
        exact ⟨by rw [E.out]; rfl, B2⟩
      · have e : lenErr lo hi n = 5 := by unfold lenErr; rw [if_neg h1, if_neg h2, if_neg h3]
        have E := Lib.hid e; clear e
        have b : (n == 0) = false := by simp [h3]
        go_wp2_with fail
        go_ret
        exact ⟨by rw [E.out]; rfl, B2⟩
end Go.Proofs.YthjkhoblafmibaaDoor
