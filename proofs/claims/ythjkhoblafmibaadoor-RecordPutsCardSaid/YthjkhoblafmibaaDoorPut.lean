/-
  'Put': the five bytes of a record, or why there are none.
-/
import Derived.Test.YthjkhoblafmibaaDoorAlive
namespace Go.Proofs.YthjkhoblafmibaaDoor
open Go.RowKit
set_option linter.unusedVariables false

/-- Why a record is not put; 0 where it is. -/
def putErr (t v l : Int) : Int := if limOk t = true then (if v < 0 ∨ 65535 < v ∨ l < 0 then 3 else lenErr (limLo t) (limHi t) l) else 18

set_option maxRecDepth 100000 in
set_option maxHeartbeats 1000000 in
/-- Where it isn't: no bytes, and the error. -/
theorem put_not (t v l : Int) (w : World) (L : Lim w) (hv : -9223372036854775808 ≤ v ∧ v ≤ 9223372036854775807) (h : putErr t v l ≠ 0) :
    Calls Tryd.prog 11 #[recV t v l] w fun e w' => e = .returned (.tuple #[.slice none 0 0, .int .i64 (putErr t v l)]) ∧ Below w.heap.size w w' := by
  have B0 : Below w.heap.size w (w.alloc (.cells #[.int .i64 t, .int .i64 v, .int .i64 l] 24)) := (Below.refl _ _).alloc (Nat.le_refl _) _
  have L0 := lim_alloc w (.cells #[.int .i64 t, .int .i64 v, .int .i64 l] 24) L
  have r0 := RecAt.fresh w t v l
  have z0 : w.heap.size < (w.alloc (.cells #[.int .i64 t, .int .i64 v, .int .i64 l] 24)).heap.size := by simp
  go_enter Tryd.func11, Tryd.ntmps11
  go_wp2_with fail
  refine (limits_any t _ L0).mono ?_
  rintro e w2 ⟨rfl, B2⟩
  have L2 := L0.below B2 (by have := L.lt; omega)
  have r2 := r0.below B2 z0
  have z2 := B2.size
  have B2' := B0.trans (B2.mono (by omega))
  clear B0 L0 r0 B2
  have q0 := r2.c0
  have q1 := r2.c1
  have q2 := r2.c2
  cases hok : limOk t
  · have E1 : Hid (putErr t v l = 18) := by unfold putErr; rw [hok]; rfl
    clear hok h
    go_wp2_with fail
    go_ret2
    exact ⟨by rw [E1.out]; rfl, B2'⟩
  · by_cases h3 : v < 0 ∨ 65535 < v ∨ l < 0
    · have E1 : Hid (putErr t v l = 3) := by unfold putErr; rw [hok, if_pos rfl, if_pos h3]; exact rfl
      clear hok h
      by_cases a1 : v < 0
      · clear h3
        go_wp2_with fail
        go_ret2
        exact ⟨by rw [E1.out]; rfl, B2'⟩
      · by_cases a2 : 65535 < v
        · clear h3
          go_wp2_with fail
          go_ret2
          exact ⟨by rw [E1.out]; rfl, B2'⟩
        · have a3 : l < 0 := by omega
          have a4 : ¬ v < 0 := a1
          clear h3
          go_wp2_with fail
          go_ret2
          exact ⟨by rw [E1.out]; rfl, B2'⟩
    · have e1 : putErr t v l = lenErr (limLo t) (limHi t) l := by unfold putErr; rw [hok, if_pos rfl, if_neg h3]
      have HC := Lib.hid (check_any t v l w2 L2)
      have E1 := Lib.hid e1
      rw [e1] at h
      clear e1
      generalize lenErr (limLo t) (limHi t) l = er at h HC E1
      have hb : (er != 0) = true := by simp [h]
      have a1 : ¬ v < 0 := by omega
      have a2 : ¬ 65535 < v := by omega
      have a3 : ¬ l < 0 := by omega
      clear hok h h3
      go_wp2_with fail
      refine HC.out.mono ?_
      rintro e w3 ⟨rfl, B3⟩
      have B3' := B2'.trans (B3.mono (by omega))
      go_wp2_with fail
      go_ret2
      exact ⟨by rw [E1.out]; rfl, B3'⟩

/-- The five bytes of a record, as a block. -/
abbrev putCells (t v l : Int) : Obj := .cells #[.int .u8 t, .int .u8 (v / 256), .int .u8 (v % 256), .int .u8 (l / 256), .int .u8 (l % 256)] 5

theorem limHi_le (t : Int) : limHi t ≤ 16640 := by
  unfold limHi; split
  · omega
  · split
    · omega
    · split
      · omega
      · split <;> omega
theorem lenErr_ok {lo hi n : Int} (h : lenErr lo hi n = 0) : lo ≤ n ∧ n ≤ hi := by
  unfold lenErr at h
  by_cases h1 : hi < n
  · rw [if_pos h1] at h; omega
  · rw [if_neg h1] at h
    by_cases h2 : lo ≤ n
    · omega
    · rw [if_neg h2] at h
      by_cases h3 : n = 0
      · rw [if_pos h3] at h; omega
      · rw [if_neg h3] at h; omega
/-- What a record that is put is. -/
theorem putErr_ok {t v l : Int} (h : putErr t v l = 0) : limOk t = true ∧ (20 ≤ t ∧ t ≤ 23) ∧ (0 ≤ v ∧ v ≤ 65535) ∧ (0 ≤ l ∧ l ≤ 16640) ∧ lenErr (limLo t) (limHi t) l = 0 := by
  unfold putErr at h
  cases hok : limOk t
  · rw [hok] at h; simp at h
  · rw [hok, if_pos rfl] at h
    by_cases h3 : v < 0 ∨ 65535 < v ∨ l < 0
    · rw [if_pos h3] at h; omega
    · rw [if_neg h3] at h
      have h4 := lenErr_ok h
      have h5 := limHi_le t
      unfold limOk at hok
      simp only [Bool.and_eq_true, decide_eq_true_eq] at hok
      exact ⟨rfl, hok, by omega, by omega, h⟩

/-- What 'Put' answers and leaves of a record that is put: five bytes in a block of their own, made last. -/
def PutPost (t v l : Int) (w : World) (e : Ending) (w' : World) : Prop :=
  ∃ w1, Below w.heap.size w w1 ∧ w.heap.size < w1.heap.size ∧ e = .returned (.tuple #[.slice (some ⟨w1.heap.size, 0, none⟩) 5 5, .int .i64 0]) ∧ w1.alloc (putCells t v l) = w'

set_option maxRecDepth 100000 in
set_option maxHeartbeats 1000000 in
theorem put_ok (t v l : Int) (w : World) (L : Lim w) (h : putErr t v l = 0) : Calls Tryd.prog 11 #[recV t v l] w (PutPost t v l w) := by
  obtain ⟨hok, ht, hv, hl, hle⟩ := putErr_ok h
  clear h
  have B0 : Below w.heap.size w (w.alloc (.cells #[.int .i64 t, .int .i64 v, .int .i64 l] 24)) := (Below.refl _ _).alloc (Nat.le_refl _) _
  have L0 := lim_alloc w (.cells #[.int .i64 t, .int .i64 v, .int .i64 l] 24) L
  have r0 := RecAt.fresh w t v l
  have z0 : w.heap.size < (w.alloc (.cells #[.int .i64 t, .int .i64 v, .int .i64 l] 24)).heap.size := by simp
  have HL0 := L.lt
  go_enter Tryd.func11, Tryd.ntmps11
  go_wp2_with fail
  refine (limits_any t _ L0).mono ?_
  rintro e w2 ⟨rfl, B2⟩
  have L2 := L0.below B2 (by omega)
  have r2 := r0.below B2 z0
  have z2 := B2.size
  have B2' := B0.trans (B2.mono (by omega))
  have z2' : w.heap.size < w2.heap.size := by omega
  have HC := Lib.hid (check_any t v l w2 L2)
  rw [hok]
  rw [hle] at HC
  clear B0 L0 r0 B2 z0 z2 hok hle
  have q0 := r2.c0
  have q1 := r2.c1
  have q2 := r2.c2
  have a1 : ¬ v < 0 := by omega
  have a2 : ¬ 65535 < v := by omega
  have a3 : ¬ l < 0 := by omega
  go_wp2_with fail
  refine HC.out.mono ?_
  rintro e w3 ⟨rfl, B3⟩
  have r3 := r2.below B3 z2'
  have B3' := B2'.trans (B3.mono (by omega))
  have z3 := B3.size
  clear q0 q1 q2 r2 L2 B3 B2' a1 a2 a3 HC
  have q0 := r3.c0
  have q1 := r3.c1
  have q2 := r3.c2
  go_wp2_with fail
  go_ret2
  exact ⟨w3, B3', by omega, rfl, rfl⟩
end Go.Proofs.YthjkhoblafmibaaDoor
