/-
  The walk of RecordHeads.
-/
import Derived.Test.YthjkhoblafmibaaDoorAlive
import Derived.Test.YthjkhoblafmibaaDoorRefHead
import Derived.Test.YthjkhoblafmibaaDoorSlice
namespace Go.Proofs.YthjkhoblafmibaaDoor
open Go.RowKit
set_option linter.unusedVariables false

theorem headRec_is (x0 x1 x2 x3 x4 : Int) : ∃ t v l, headRec x0 x1 x2 x3 x4 = recV t v l := by
  unfold headRec; split
  · exact ⟨_, _, _, rfl⟩
  · exact ⟨_, _, _, rfl⟩

set_option maxHeartbeats 1000000 in
/-- The law, where both heads answer the same. -/
theorem heads_same (a : Option Addr) (len cap : Nat) (t v l n e : Int) (w : World) (L : Lim w)
    (h2 : Calls Tryd.prog 7 #[.slice a len cap] w fun e' w' => e' = .returned (.tuple #[recV t v l, .int .i64 n, .int .i64 e]) ∧ Below w.heap.size w w')
    (h3 : ∀ w1, Below w.heap.size w w1 → Calls Tryd.prog 8 #[.slice a len cap] w1 fun e' w' => e' = .returned (.tuple #[recV t v l, .int .i64 n, .int .i64 e]) ∧ Below w1.heap.size w1 w') :
    Calls Tryd.prog 3 #[.slice a len cap] w fun e w' => e = .returned (.bool true) ∧ Below w.heap.size w w' := by
  have H2 := Lib.hid h2
  have H3 := Lib.hid h3
  have HL := L.lt
  clear h2 h3
  go_enter Tryd.func3, Tryd.ntmps3
  go_wp2_with fail
  refine H2.out.mono ?_
  rintro e1 w1 ⟨rfl, B1⟩
  have z1 := B1.size
  have B1' : Below w.heap.size w (w1.alloc (.cells #[.int .i64 t, .int .i64 v, .int .i64 l] 24)) := B1.alloc z1 _
  have r1 := RecAt.fresh w1 t v l
  have y1 : (w1.alloc (.cells #[.int .i64 t, .int .i64 v, .int .i64 l] 24)).heap.size = w1.heap.size + 1 := by simp
  go_wp2_with fail
  obtain ⟨N, hN⟩ : ∃ N, N = w1.heap.size := ⟨_, rfl⟩
  rw [← hN] at r1 y1 z1 ⊢
  generalize w1.alloc (.cells #[.int .i64 t, .int .i64 v, .int .i64 l] 24) = w2 at B1' r1 y1 ⊢
  clear hN B1
  refine (H3.out w2 B1').mono ?_
  rintro e2 w3 ⟨rfl, B3⟩
  have z3 := B3.size
  have r3 := r1.below B3 (by omega)
  have B3' := B1'.trans (B3.mono (by omega))
  have B4' : Below w.heap.size w (w3.alloc (.cells #[.int .i64 t, .int .i64 v, .int .i64 l] 24)) := B3'.alloc (by omega) _
  have r4' := RecAt.fresh w3 t v l
  have r4 := r3.below ((Below.refl w3.heap.size w3).alloc (Nat.le_refl _) (.cells #[.int .i64 t, .int .i64 v, .int .i64 l] 24)) (by omega)
  have L4 : Lim (w3.alloc (.cells #[.int .i64 t, .int .i64 v, .int .i64 l] 24)) := L.below B4' HL
  have y4 : (w3.alloc (.cells #[.int .i64 t, .int .i64 v, .int .i64 l] 24)).heap.size = w3.heap.size + 1 := by simp
  go_wp2_with fail
  obtain ⟨M, hM⟩ : ∃ M, M = w3.heap.size := ⟨_, rfl⟩
  rw [← hM] at r4' y4 z3 ⊢
  have hMN : N < M := by omega
  generalize w3.alloc (.cells #[.int .i64 t, .int .i64 v, .int .i64 l] 24) = w4 at B4' r4' r4 L4 y4 ⊢
  clear hM B3 B3' r3 r1 y1 B1'
  refine (alive_any w4 L4).mono ?_
  rintro e5 w5 ⟨rfl, B5⟩
  have r5 := r4.below B5 (by omega)
  have r6 := r4'.below B5 (by omega)
  have B6 := B4'.trans (B5.mono (by omega))
  have p0 := r5.c0
  have p1 := r5.c1
  have p2 := r5.c2
  have q0 := r6.c0
  have q1 := r6.c1
  have q2 := r6.c2
  go_wp2_with fail
  go_ret
  exact ⟨rfl, B6⟩

theorem heads_any (a : Option Addr) (len cap : Nat) (zs : List Int) (w : World) (L : Lim w) (hr : IsRow .u8 w a len cap zs) (hm : cap ≤ 9223372036854775807) (hz : ∀ i, 0 ≤ zs.getD i 0 ∧ zs.getD i 0 ≤ 255) :
    Calls Tryd.prog 3 #[.slice a len cap] w fun e w' => e = .returned (.bool true) ∧ Below w.heap.size w w' := by
  obtain ⟨hl, hc⟩ := hr.small
  by_cases h5 : len < 5
  · exact heads_same a len cap 0 0 0 len 4 w L (head_short a len cap w h5) (fun w1 _ => ref_head_short a len cap w1 h5)
  · obtain ⟨b, off, rfl, hcell⟩ := hr.cells (by omega)
    have F : Five w b off (zs.getD 0 0) (zs.getD 1 0) (zs.getD 2 0) (zs.getD 3 0) (zs.getD 4 0) := ⟨hcell 0 (by omega), hcell 1 (by omega), hcell 2 (by omega), hcell 3 (by omega), hcell 4 (by omega)⟩
    have X : Bytes5 (zs.getD 0 0) (zs.getD 1 0) (zs.getD 2 0) (zs.getD 3 0) (zs.getD 4 0) := ⟨hz 0, hz 1, hz 2, hz 3, hz 4⟩
    obtain ⟨t, v, l, hrec⟩ := headRec_is (zs.getD 0 0) (zs.getD 1 0) (zs.getD 2 0) (zs.getD 3 0) (zs.getD 4 0)
    have g1 := head_five b off len cap _ _ _ _ _ w L (by omega) hl hm F X
    have g2 := fun w1 (B1 : Below w.heap.size w w1) => ref_head_five b off len cap _ _ _ _ _ w1 (by omega) hl hm (F.below B1 F.lt) X
    rw [hrec] at g1
    simp only [hrec] at g2
    exact heads_same _ len cap t v l _ _ w L g1 g2
end Go.Proofs.YthjkhoblafmibaaDoor
