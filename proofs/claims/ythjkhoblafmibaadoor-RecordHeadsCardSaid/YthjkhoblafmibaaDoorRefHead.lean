/-
  The reference's 'Head', and the statements' common example 'alive'.
-/
import Derived.Test.YthjkhoblafmibaaDoorHead
namespace Go.Proofs.YthjkhoblafmibaaDoor
open Go.RowKit
set_option linter.unusedVariables false

theorem ref_head_short (a : Option Addr) (len cap : Nat) (w : World) (hl : len < 5) :
    Calls Tryd.prog 8 #[.slice a len cap] w fun e w' => e = .returned (.tuple #[recV 0 0 0, .int .i64 len, .int .i64 4]) ∧ Below w.heap.size w w' := by
  go_enter Tryd.func8, Tryd.ntmps8
  go_wp2
  refine bodyPost_ret (v := .tuple #[recV 0 0 0, .int .i64 len, .int .i64 4]) (by simp [results, Tryd.results8, go_sem]) rfl ⟨rfl, ?_⟩
  exact (Below.refl _ _).alloc (Nat.le_refl _) _

set_option maxHeartbeats 1000000 in
theorem ref_head_five (b off len cap : Nat) (x0 x1 x2 x3 x4 : Int) (w : World) (hl : 5 ≤ len) (hc : len ≤ cap) (hm : cap ≤ 9223372036854775807) (F : Five w b off x0 x1 x2 x3 x4) (X : Bytes5 x0 x1 x2 x3 x4) :
    Calls Tryd.prog 8 #[.slice (some ⟨b, off, none⟩) len cap] w fun e w' => e = .returned (.tuple #[headRec x0 x1 x2 x3 x4, .int .i64 (headAt x0 x3 x4), .int .i64 (headErr x0 x3 x4)]) ∧ Below w.heap.size w w' := by
  obtain ⟨N, hN⟩ : ∃ N, N = w.heap.size := ⟨_, rfl⟩
  have hb : b < N := by rw [hN]; exact F.lt
  have B0 : Below N w (w.alloc (.cells #[.int .i64 0, .int .i64 0, .int .i64 0] 24)) := (Below.refl _ _).alloc (by omega) _
  have r0 := RecAt.fresh w 0 0 0
  have z0 : (w.alloc (.cells #[.int .i64 0, .int .i64 0, .int .i64 0] 24)).heap.size = N + 1 := by simp [hN]
  have F0 := F.below B0 hb
  rw [← hN] at r0
  have hx0 := X.b0
  have hx1 := X.b1
  have hx2 := X.b2
  have hx3 := X.b3
  have hx4 := X.b4
  clear X
  have c0 := F0.c0
  go_enter Tryd.func8, Tryd.ntmps8
  go_wp2_with fail
  rw [← hN]
  have hNw : w.heap.size ≤ N := by omega
  clear hN F
  generalize w.alloc (.cells #[.int .i64 0, .int .i64 0, .int .i64 0] 24) = w1 at B0 r0 z0 F0 c0 ⊢
  refine (ref_limits x0 w1).mono ?_
  rintro e w2 ⟨rfl, rfl⟩
  have g0 := r0.c0
  have g1 := r0.c1
  have g2 := r0.c2
  have e0 := r0.f0
  have e1 := r0.f1
  have e2 := r0.f2
  cases hok : limOk x0
  · have E1 : Hid (headErr x0 x3 x4 = 18) := by unfold headErr; rw [hok]; rfl
    have E2 : Hid (headAt x0 x3 x4 = 0) := by unfold headAt; rw [hok]; rfl
    have E3 : Hid (headRec x0 x1 x2 x3 x4 = recV 0 0 0) := by unfold headRec; rw [E1.out]; rfl
    clear hok
    go_wp2_with fail
    refine bodyPost_ret (v := .tuple #[recV 0 0 0, .int .i64 0, .int .i64 18]) (by simp [results, Tryd.results8, go_sem, g0, g1, g2]) rfl ⟨by rw [E1.out, E2.out, E3.out], ?_⟩
    exact (((B0.setCell (p := ⟨N, 0, none⟩) (Nat.le_refl _) _).setCell (p := ⟨N, 1, none⟩) (Nat.le_refl _) _).setCell (p := ⟨N, 2, none⟩) (Nat.le_refl _) _).mono hNw
  · have E0 : Hid (limOk x0 = true) := hok
    clear hok
    go_wp2_with fail
    have c1 : w1.cell? ⟨b, off + 1, none⟩ = some (.int .u8 x1) := F0.c1
    have c2 : w1.cell? ⟨b, off + 1 + 1, none⟩ = some (.int .u8 x2) := F0.c2
    have c3 : w1.cell? ⟨b, off + 3, none⟩ = some (.int .u8 x3) := F0.c3
    have c4 : w1.cell? ⟨b, off + 3 + 1, none⟩ = some (.int .u8 x4) := F0.c4
    have nw := World.new_ne w1 ⟨b, off, none⟩ c0
    have n0 : 0 < len := by omega
    have i0 : (0 : Int) < (len : Int) := by omega
    have i3 : (3 : Int) ≤ (cap : Int) := by omega
    have i5 : (5 : Int) ≤ (cap : Int) := by omega
    have n3 : 3 ≤ cap := by omega
    have n5 : 5 ≤ cap := by omega
    have k3 : ¬ cap < 3 := by omega
    have k5 : ¬ cap < 5 := by omega
    have d1 : ¬ cap = 1 := by omega
    have d3 : ¬ cap = 3 := by omega
    have r9 := RecAt.fresh w1 x0 (x1 * 256 + x2) (x3 * 256 + x4)
    have B9' : Below (N + 1) w1 (w1.alloc (.cells #[.int .i64 x0, .int .i64 (x1 * 256 + x2), .int .i64 (x3 * 256 + x4)] 24)).drew := ((Below.refl _ _).alloc (by omega) _).drew
    have q9 := r0.below B9' (by omega)
    have B9 := B0.trans (B9'.mono (by omega))
    rw [z0] at r9
    have r9d : RecAt (w1.alloc (.cells #[.int .i64 x0, .int .i64 (x1 * 256 + x2), .int .i64 (x3 * 256 + x4)] 24)).drew (N + 1) x0 (x1 * 256 + x2) (x3 * 256 + x4) :=
      ⟨by simpa using r9.c0, by simpa using r9.c1, by simpa using r9.c2, by simpa using r9.f0, by simpa using r9.f1, by simpa using r9.f2⟩
    have HR := Lib.hid r9d
    have HQ := Lib.hid q9
    have HB := Lib.hid B9
    clear r9 B9' r9d q9 B9
    go_region_held3 (fun w' => w'.cell? ⟨b, off, none⟩ = some (.int .u8 x0) ∧ w'.cell? ⟨b, off + 1, none⟩ = some (.int .u8 x1) ∧ w'.cell? ⟨b, off + 1 + 1, none⟩ = some (.int .u8 x2) ∧ w'.cell? ⟨b, off + 3, none⟩ = some (.int .u8 x3) ∧ w'.cell? ⟨b, off + 3 + 1, none⟩ = some (.int .u8 x4)) (first | exact ⟨c0, c1, c2, c3, c4⟩ | go_keep)
      (first
        | (go_at_call 20; with_reducible refine (ref_number_two b (off + 1) (cap - 1) x1 x2 _ ?_ ?_ hx1 hx2).mono ?_; (simp [*]); (simp [*]); rintro e w9 ⟨rfl, rfl⟩)
        | (go_at_call 20; with_reducible refine (ref_number_two b (off + 3) (cap - 3) x3 x4 _ ?_ ?_ hx3 hx4).mono ?_; (simp [*]); (simp [*]); rintro e w9 ⟨rfl, rfl⟩))
    all_goals
      have r9d := HR.out
      have q9 := HQ.out
      have B9 := HB.out
      clear HR HQ HB g0 g1 g2 e0 e1 e2 c0 c1 c2 c3 c4 nw i0 i3 i5 n0 n3 n5 k3 k5 d1 d3
      go_wp2_with fail
      generalize (w1.alloc (.cells #[.int .i64 x0, .int .i64 (x1 * 256 + x2), .int .i64 (x3 * 256 + x4)] 24)).drew = w9 at r9d q9 B9 ⊢
      refine (ref_length x0 (x3 * 256 + x4) w9).mono ?_
      rintro e w10 ⟨rfl, rfl⟩
      have g0 := q9.c0
      have g1 := q9.c1
      have g2 := q9.c2
      have e0 := q9.f0
      have e1 := q9.f1
      have e2 := q9.f2
      by_cases hle : lenErr (limLo x0) (limHi x0) (x3 * 256 + x4) = 0
      · have E1 : Hid (headErr x0 x3 x4 = 0) := by unfold headErr; rw [E0.out, if_pos rfl]; exact hle
        have E2 : Hid (headAt x0 x3 x4 = 5) := by unfold headAt; rw [E0.out, if_pos rfl, if_pos hle]; exact rfl
        have E3 : Hid (headRec x0 x1 x2 x3 x4 = recV x0 (x1 * 256 + x2) (x3 * 256 + x4)) := by unfold headRec; rw [E1.out, if_pos rfl]; exact rfl
        rw [hle]
        clear hle
        have h0 := r9d.c0
        have h1 := r9d.c1
        have h2 := r9d.c2
        go_wp2_with fail
        refine bodyPost_ret (v := .tuple #[recV x0 (x1 * 256 + x2) (x3 * 256 + x4), .int .i64 5, .int .i64 0]) (by simp [results, Tryd.results8, go_sem, g0, g1, g2]) rfl ⟨by rw [E1.out, E2.out, E3.out], ?_⟩
        exact (((B9.setCell (p := ⟨N, 0, none⟩) (Nat.le_refl _) _).setCell (p := ⟨N, 1, none⟩) (Nat.le_refl _) _).setCell (p := ⟨N, 2, none⟩) (Nat.le_refl _) _).mono hNw
      · have E1 : Hid (headErr x0 x3 x4 = lenErr (limLo x0) (limHi x0) (x3 * 256 + x4)) := by unfold headErr; rw [E0.out, if_pos rfl]; exact rfl
        have E2 : Hid (headAt x0 x3 x4 = 3) := by unfold headAt; rw [E0.out, if_pos rfl, if_neg hle]; exact rfl
        have E3 : Hid (headRec x0 x1 x2 x3 x4 = recV 0 0 0) := by unfold headRec; rw [E1.out, if_neg hle]; exact rfl
        generalize lenErr (limLo x0) (limHi x0) (x3 * 256 + x4) = er at hle E1 ⊢
        have hb' : (er != 0) = true := by simp [hle]
        clear hle
        go_wp2_with fail
        refine bodyPost_ret (v := .tuple #[recV 0 0 0, .int .i64 3, .int .i64 er]) (by simp [results, Tryd.results8, go_sem, g0, g1, g2]) rfl ⟨by rw [E1.out, E2.out, E3.out], ?_⟩
        exact (((B9.setCell (p := ⟨N, 0, none⟩) (Nat.le_refl _) _).setCell (p := ⟨N, 1, none⟩) (Nat.le_refl _) _).setCell (p := ⟨N, 2, none⟩) (Nat.le_refl _) _).mono hNw
end Go.Proofs.YthjkhoblafmibaaDoor
